import Derived.Test.YtldkgmodmpnclaaPageF
import Derived.Test.YtldkgmodmpnclaaPlainB
namespace Go.Proofs.Ytldkgmodmpnclaa
open Go.RowKit Go.Proofs
set_option linter.unusedVariables false
set_option linter.unusedSimpArgs false
set_option maxRecDepth 100000 in
theorem number_calls (s : ByteArray) (p k : Int) (w : World) (h0 : 0 ≤ p) (h1 : 1 ≤ k) (h2 : k ≤ 8) (hs : s.size ≤ 1000000000000) (hp : p + k ≤ s.size) :
    Calls Try.prog 84 #[.string s, .int .i64 p, .int .i64 k] w fun e w' => e = .returned (.int .i64 (getV s p.toNat k.toNat)) ∧ w = w' := by
  go_enter Try.func84, Try.ntmps84
  go_wp2_with fail
  refine (getC_int s p k _ h0 h1 h2 hs hp).mono ?_
  rintro e w' ⟨rfl, rfl⟩
  go_wp2
  go_ret
  exact ⟨rfl, rfl⟩
theorem built59_two (a b : Int) : Try.prog.built 59 [(0, .int .i64 a), (1, .int .i64 b)] = some (pageC ⟨a, b, List.replicate 16 Cell.none, by simp⟩) := by kernel_rfl
theorem number1 (s : ByteArray) (p : Int) (w : World) (h0 : 0 ≤ p) (hs : s.size ≤ 1000000000000) (hp : p + 1 ≤ s.size) :
    Calls Try.prog 84 #[.string s, .int .i64 p, .int .i64 1] w fun e w' => e = .returned (.int .i64 ((bt s p.toNat).toNat : Int)) ∧ w = w' := by
  refine (number_calls s p 1 w h0 (by omega) (by omega) hs hp).mono ?_
  rintro e w' ⟨rfl, rfl⟩
  exact ⟨by rw [show (1 : Int).toNat = 1 from rfl, getV_one], rfl⟩
theorem rdAll_snoc {s : ByteArray} {j : Nat} (h : ∀ i, i < j → rdOk s i = true) (hj : rdOk s j = true) : ∀ i, i < j + 1 → rdOk s i = true := by
  intro i hi
  by_cases hij : i = j
  · subst hij; exact hj
  · exact h i (by omega)
/-- What read answers. -/
def rdRes (s : ByteArray) : Page := if rdAll s then rdPage s 16 else Page.zero
theorem cellsV_put (l : List Cell) (j : Nat) (c : Cell) (h : j < l.length) : ((cellsV l).set (2 * j) (.bool c.set)).set (2 * j + 1) (.string c.data) = cellsV (l.set j c) := by
  induction l generalizing j with
  | nil => simp at h
  | cons d l ih =>
    cases j with
    | zero => rfl
    | succ j =>
      have := ih j (by simpa using h)
      rw [show 2 * (j + 1) = 2 * j + 1 + 1 by omega]
      show (Value.bool d.set :: Value.string d.data :: ((cellsV l).set (2 * j) (.bool c.set)).set (2 * j + 1) (.string c.data)) = _
      rw [this]
      rfl
theorem pageC_put (p : Page) (j : Nat) (c : Cell) (h : j < 16) : ((pageC p).setIfInBounds (2 + j * 2) (.bool c.set)).setIfInBounds (2 + j * 2 + 1) (.string c.data) = pageC (p.put j c) := by
  unfold pageC
  rw [List.setIfInBounds_toArray, List.setIfInBounds_toArray]
  rw [show 2 + j * 2 + 1 = 2 * j + 1 + 1 + 1 by omega, show 2 + j * 2 = 2 * j + 1 + 1 by omega]
  show (Value.int IntKind.i64 p.id :: .int .i64 p.lsn :: ((cellsV p.cells).set (2 * j) (.bool c.set)).set (2 * j + 1) (.string c.data)).toArray = _
  rw [cellsV_put _ _ _ (by rw [p.len]; exact h)]
  rfl
theorem PgAt.put {w : World} {b : Nat} {p : Page} (hP : PgAt w b p) {j : Nat} (h : j < 16) (c : Cell) : PgAt ((w.setCell ⟨b, 2 + j * 2, none⟩ (.bool c.set)).setCell ⟨b, 2 + j * 2 + 1, none⟩ (.string c.data)) b (p.put j c) := by
  unfold PgAt
  rw [heap_setCell_same _ _ _ _ _ _ (heap_setCell_same _ _ _ _ _ _ hP.out), pageC_put p j c h]
theorem PgAt.setCell {w : World} {g : Nat} {p : Page} (hP : PgAt w g p) {a : Addr} (u : Value) (h : g ≠ a.block) : PgAt (w.setCell a u) g p := (heap_setCell_other w a g u h).trans hP
theorem rd0 (s : ByteArray) : pageC (rdPage s 0) = #[.int .i64 (getV s 8 4), .int .i64 (getV s 0 8), .bool false, .string ⟨#[]⟩, .bool false, .string ⟨#[]⟩, .bool false, .string ⟨#[]⟩, .bool false, .string ⟨#[]⟩, .bool false, .string ⟨#[]⟩, .bool false, .string ⟨#[]⟩, .bool false, .string ⟨#[]⟩, .bool false, .string ⟨#[]⟩, .bool false, .string ⟨#[]⟩, .bool false, .string ⟨#[]⟩, .bool false, .string ⟨#[]⟩, .bool false, .string ⟨#[]⟩, .bool false, .string ⟨#[]⟩, .bool false, .string ⟨#[]⟩, .bool false, .string ⟨#[]⟩, .bool false, .string ⟨#[]⟩] := rfl
set_option maxHeartbeats 1000000 in
set_option maxRecDepth 100000 in
theorem read_calls (s : ByteArray) (w : World) (hs : s.size = 256) :
    Calls Try.prog 85 #[.string s] w fun e w' => e = .returned (.tuple #[.agg (pageC (rdRes s)), .bool (rdAll s)]) ∧ Below w.heap.size w w' := by
  have hle : (256 : Int) ≤ s.size := by omega
  have hsz : s.size ≤ 256 := by omega
  have HS := Lib.hid hs; clear hs
  go_enter Try.func85, Try.ntmps85
  go_wp2_with (first
    | (refine wpList_alloc_row rfl 59 rfl (pageC Page.zero) zero59 ?_)
    | (go_at_call 84; refine (number_calls _ _ _ _ (by omega) (by omega) (by omega) (by omega) (by omega)).mono ?_; rintro e w' ⟨rfl, rfl⟩)
    | (refine wpList_store_row rfl 59 (.tmp 4) (.tmp 12) rfl _ (pageC (rdPage s 0)) rfl rfl _ _ (heap_alloc_new _ _) (page_size _) (by rw [pageC_size, pageC_size]) (pageC_oneCell _) ?_))
  go_loopw [5, 6, 7, 13, 34, 37] (fun _ _ _ i _ _ wr => ∃ j : Nat, j ≤ 16 ∧ i = .int .i64 j ∧ (∀ i, i < j → rdOk s i = true) ∧ PgAt wr w.heap.size Page.zero ∧ PgAt wr (w.heap.size + 1) (rdPage s j) ∧ Below w.heap.size w wr) (fun _ _ _ i _ _ _ => 16 - (intOf i).toNat)
  case atStart =>
    have hz : (w.alloc (.cells (pageC Page.zero) 59)).heap.size = w.heap.size + 1 := by simp
    rw [← hz, World.setRow_alloc_new]
    exact ⟨0, by omega, rfl, fun i hi => by omega, (PgAt.new w _).alloc _, PgAt.new _ _, ((Below.refl _ _).alloc (Nat.le_refl _) _).alloc (by simp) _⟩
  case round =>
    obtain ⟨j, hj, rfl, hall, hP0, hP, hB⟩ := hrel
    have HALL := Lib.hid hall; clear hall
    by_cases hlt : j < 16
    · have hdec : decide ((j : Int) < 16) = true := by simp; omega
      go_wp2_with fail
      refine (number1 s _ _ (by omega) (by omega) (by omega)).mono ?_
      rintro e w' ⟨rfl, rfl⟩
      rw [show (12 + (j : Int) * 13).toNat = 12 + 13 * j by omega]
      have hcl := byte_lt (bt s (12 + 13 * j))
      obtain ⟨n, hn⟩ : ∃ n, (bt s (12 + 13 * j)).toNat = n := ⟨_, rfl⟩
      rw [hn] at hcl ⊢
      have HN := Lib.hid (show cellLen s j = n from hn); clear hn
      by_cases h255 : n = 255
      · have hd1 : ((n : Int) == 255) = true := by rw [h255]; rfl
        have H255 := Lib.hid h255; clear h255
        go_wp2_with fail
        go_roundw
        case rel => exact ⟨j + 1, by omega, by go_num, rdAll_snoc HALL.out (by unfold rdOk; rw [HN.out, H255.out]; rfl), hP0, by rw [rdPage_skip s j (by rw [HN.out, H255.out])]; exact hP, hB⟩
        case measure => simp [intOf]; omega
      · have hd1 : ((n : Int) == 255) = false := by
          rw [beq_eq_false_iff_ne]
          omega
        by_cases h12 : n ≤ 12
        · have hd2 : decide (12 < (n : Int)) = false := by simp; omega
          obtain ⟨hc1, hc2⟩ := page_cell wr (w.heap.size + 1) (rdPage s j) hP.out j hlt
          have hf1 : wr.frozen? ⟨w.heap.size + 1, 2 + j * 2, none⟩ = false := heap_free hP.out _
          have hf2 : wr.frozen? ⟨w.heap.size + 1, 2 + j * 2 + 1, none⟩ = false := heap_free hP.out _
          go_wp2_with fail
          go_roundw
          case rel =>
            have hrd : rdCell s j = ⟨true, s.extract (12 + j * 13 + 1) (12 + j * 13 + 1 + n)⟩ := by
              unfold rdCell
              rw [HN.out, if_neg h255, show 12 + 13 * j = 12 + j * 13 by omega]
            refine ⟨j + 1, by omega, by go_num, rdAll_snoc HALL.out (by unfold rdOk; rw [HN.out]; simp [h12]), (hP0.setCell _ (by simp)).setCell _ (by simp), ?_, (hB.setCell (by simp) _).setCell (by simp) _⟩
            have hput := hP.put hlt (rdCell s j)
            rw [rdPage_put s j hlt, hrd] at hput
            exact hput
          case measure => simp [intOf]; omega
        · have hd2 : decide (12 < (n : Int)) = true := by simp; omega
          have hno : rdAll s = false := rdAll_not hlt (by unfold rdOk; rw [HN.out]; simp [h255]; omega)
          have hres : rdRes s = Page.zero := by unfold rdRes; rw [hno]; rfl
          have HRES := Lib.hid hres; have HNO := Lib.hid hno
          clear hres hno
          go_wp2_with (refine wpList_store_row rfl 59 (.tmp 2) (.tmp 40) rfl _ (pageC Page.zero) rfl rfl _ _ hP0.out (page_size _) rfl (pageC_oneCell _) ?_)
          exact bodyPost_ret (results_cell_tmp rfl _ _ w.heap.size _ _ _ _ rfl (heap_setRow hP0.out) Try.underlying59 rfl (page_size _)) rfl ⟨by rw [HRES.out, HNO.out]; rfl, below_setRow hB (Nat.le_refl _) _⟩
    · have hdec : decide ((j : Int) < 16) = false := by simp; omega
      obtain rfl : j = 16 := by omega
      have hyes : rdAll s = true := rdAll_yes HALL.out
      have hres : rdRes s = rdPage s 16 := by unfold rdRes; rw [hyes]; rfl
      have HRES := Lib.hid hres; have HNO := Lib.hid hyes
      clear hres hyes
      go_wp2_with (first
        | (refine wpList_load_row rfl 59 (.tmp 4) rfl (w.heap.size + 1) rfl _ _ _ _ hP.out Try.underlying59 rfl (page_size _) ?_)
        | (refine wpList_store_row rfl 59 (.tmp 2) (.tmp 42) rfl w.heap.size (pageC (rdPage s 16)) rfl rfl _ _ hP0.out (page_size _) (by rw [pageC_size, pageC_size]) (pageC_oneCell _) ?_))
      exact bodyPost_ret (results_cell_tmp rfl _ _ w.heap.size _ _ _ _ rfl (heap_setRow hP0.out) Try.underlying59 rfl (page_size _)) rfl ⟨by rw [HRES.out, HNO.out]; rfl, below_setRow hB (Nat.le_refl _) _⟩
end Go.Proofs.Ytldkgmodmpnclaa
