/- The page recovery index: rows, Valid, New, there. -/
import Derived.Test.YtldkgmodmpnclaaFrameB
/-! The page recovery index as plain data: rows, what is valid; and the walks of Valid, of the program and of the reference. -/
namespace Go.Proofs.Ytldkgmodmpnclaa
open Go.RowKit Go.Proofs
set_option linter.unusedVariables false
set_option linter.unusedSimpArgs false
/-- A row of an index. -/
structure Row3 where
  lsn : Int
  image : Int
  ilsn : Int
  deriving DecidableEq
def Row3.cells (r : Row3) : List Value := [.int .i64 r.lsn, .int .i64 r.image, .int .i64 r.ilsn]
def Row3.val (r : Row3) : Value := .agg #[.int .i64 r.lsn, .int .i64 r.image, .int .i64 r.ilsn]
def rowOk (r : Row3) : Bool := lsnOk r.lsn && lsnOk r.image && lsnOk r.ilsn && !((r.image == 0) && (r.ilsn != 0))
/-- A valid index. -/
def idxOk (l : List Row3) : Bool := decide (1 ≤ l.length) && decide (l.length ≤ 64) && l.all rowOk
/-- The rows of a slice, in a block that is not g. -/
structure RwAt (w : World) (g : Nat) (a : Option Addr) (n c : Nat) (l : List Row3) : Prop where
  len : l.length = n
  le : n ≤ c
  top : c ≤ 9223372036854775807
  at_ : n = 0 ∨ ∃ b off, a = some ⟨b, off, none⟩ ∧ b ≠ g ∧ ∀ i r, l[i]? = some r → w.cell? ⟨b, off + i * 3, none⟩ = some (.int .i64 r.lsn) ∧ w.cell? ⟨b, off + i * 3 + 1, none⟩ = some (.int .i64 r.image) ∧ w.cell? ⟨b, off + i * 3 + 2, none⟩ = some (.int .i64 r.ilsn)
theorem RwAt.block_lt {w : World} {g n c : Nat} {b off : Nat} {l : List Row3} (h : RwAt w g (some ⟨b, off, none⟩) n c l) (hn : n ≠ 0) : b < w.heap.size := by
  obtain ⟨b', off', e, _, hc⟩ := h.at_.resolve_left hn
  cases e
  have hl := h.len
  exact World.block_lt_of_cell? w _ (hc 0 (l[0]'(by omega)) (by simp)).1
theorem RwAt.mono {w w' : World} {g n c : Nat} {a : Option Addr} {l : List Row3} (h : RwAt w g a n c l) (hb : ∀ b, b < w.heap.size → b ≠ g → w'.heap[b]? = w.heap[b]?) : RwAt w' g a n c l := by
  refine ⟨h.len, h.le, h.top, ?_⟩
  by_cases hn : n = 0
  · exact .inl hn
  · obtain ⟨b, off, rfl, hg, hc⟩ := h.at_.resolve_left hn
    have hlt := h.block_lt hn
    refine .inr ⟨b, off, rfl, hg, fun i r hi => ?_⟩
    obtain ⟨h1, h2, h3⟩ := hc i r hi
    exact ⟨(World.cell?_of_block (w := w) (a := ⟨b, _, none⟩) (hb b hlt hg)).trans h1, (World.cell?_of_block (w := w) (a := ⟨b, _, none⟩) (hb b hlt hg)).trans h2, (World.cell?_of_block (w := w) (a := ⟨b, _, none⟩) (hb b hlt hg)).trans h3⟩
theorem RwAt.kb {w w' : World} {g n c : Nat} {a : Option Addr} {l : List Row3} (h : RwAt w g a n c l) (hk : KB g w w') : RwAt w' g a n c l := h.mono fun b hb hg => hk.block b hb hg
theorem RwAt.below {w w' : World} {g n c : Nat} {a : Option Addr} {l : List Row3} (h : RwAt w g a n c l) (hk : Below w.heap.size w w') : RwAt w' g a n c l := h.mono fun b hb hg => hk.block b hb
theorem RwAt.alloc {w : World} {g n c : Nat} {a : Option Addr} {l : List Row3} (h : RwAt w g a n c l) (o : Obj) : RwAt (w.alloc o) g a n c l := h.below ((Below.refl _ _).alloc (Nat.le_refl _) o)
theorem RwAt.drew {w : World} {g n c : Nat} {a : Option Addr} {l : List Row3} (h : RwAt w g a n c l) : RwAt w.drew g a n c l := h.below (Below.refl _ _).drew
/-- Row i of the slice. -/
theorem RwAt.row {w : World} {g n c : Nat} {a : Option Addr} {l : List Row3} (h : RwAt w g a n c l) (i : Nat) (hi : i < n) : ∃ b off r, a = some ⟨b, off, none⟩ ∧ l[i]? = some r ∧ w.rangeAt b (off + i * 3) r.cells ∧ b < w.heap.size := by
  have hn : n ≠ 0 := by omega
  obtain ⟨b, off, rfl, hg, hc⟩ := h.at_.resolve_left hn
  have hl := h.len
  refine ⟨b, off, l[i]'(by omega), rfl, by simp, ?_, h.block_lt hn⟩
  obtain ⟨h1, h2, h3⟩ := hc i (l[i]'(by omega)) (by simp)
  intro j v hj
  rcases j with _ | _ | _ | j
  · simp [Row3.cells] at hj; subst hj; exact h1
  · simp [Row3.cells] at hj; subst hj; exact h2
  · simp [Row3.cells] at hj; subst hj; exact h3
  · simp [Row3.cells] at hj
theorem position_calls (n : Int) (w : World) : Calls Try.prog 62 #[.int .i64 n] w fun e w' => e = .returned (.bool (lsnOk n)) ∧ w = w' := by
  unfold lsnOk
  cases h : decide (0 ≤ n)
  all_goals
    go_enter Try.func62, Try.ntmps62
    go_wp2
    go_ret
    exact ⟨by simp, rfl⟩
theorem lsn11_calls (n : Int) (w : World) : Calls Try.prog 64 #[.int .i64 n] w fun e w' => e = .returned (.bool (lsnOk n)) ∧ w = w' := by
  unfold lsnOk
  cases h : decide (0 ≤ n)
  all_goals
    go_enter Try.func64, Try.ntmps64
    go_wp2
    go_ret
    exact ⟨by simp, rfl⟩
set_option maxHeartbeats 1000000 in
set_option maxRecDepth 100000 in
theorem rowBad_calls (r : Row3) (w : World) : Calls Try.prog 68 #[r.val] w fun e w' => e = .returned (.bool (!rowOk r)) ∧ Below w.heap.size w w' := by
  unfold rowOk Row3.val
  have H1 := Lib.hid (fun W => position_calls r.lsn W)
  have H2 := Lib.hid (fun W => position_calls r.image W)
  have H3 := Lib.hid (fun W => position_calls r.ilsn W)
  obtain ⟨b1, h1⟩ : ∃ b, lsnOk r.lsn = b := ⟨_, rfl⟩
  obtain ⟨b2, h2⟩ : ∃ b, lsnOk r.image = b := ⟨_, rfl⟩
  obtain ⟨b3, h3⟩ : ∃ b, lsnOk r.ilsn = b := ⟨_, rfl⟩
  obtain ⟨b4, h4⟩ : ∃ b, (r.image == 0) = b := ⟨_, rfl⟩
  obtain ⟨b5, h5⟩ : ∃ b, (r.ilsn != 0) = b := ⟨_, rfl⟩
  have h6 : (r.ilsn == 0) = !b5 := by rw [← h5]; simp [bne]
  rw [h1] at H1 ⊢
  rw [h2] at H2 ⊢
  rw [h3] at H3 ⊢
  rw [h4, h5]
  clear h1 h2 h3
  go_enter Try.func68, Try.ntmps68
  go_wp2_with fail
  refine (H1.out _).mono ?_
  rintro e w' ⟨rfl, rfl⟩
  cases b1
  · go_wp2_with fail
    go_ret
    exact ⟨by simp, (Below.refl _ _).alloc (Nat.le_refl _) _⟩
  · go_wp2_with fail
    refine (H2.out _).mono ?_
    rintro e w' ⟨rfl, rfl⟩
    cases b2
    · go_wp2_with fail
      go_ret
      exact ⟨by simp, (Below.refl _ _).alloc (Nat.le_refl _) _⟩
    · go_wp2_with fail
      refine (H3.out _).mono ?_
      rintro e w' ⟨rfl, rfl⟩
      cases b3
      · go_wp2_with fail
        go_ret
        exact ⟨by simp, (Below.refl _ _).alloc (Nat.le_refl _) _⟩
      · cases b4 <;> cases b5 <;> simp only [Bool.not_true, Bool.not_false] at h6
        all_goals
          go_wp2_with fail
          go_ret
          exact ⟨by simp, (Below.refl _ _).alloc (Nat.le_refl _) _⟩
end Go.Proofs.Ytldkgmodmpnclaa
/-! Which indices are valid: the walks, of the program and of the reference. -/
namespace Go.Proofs.Ytldkgmodmpnclaa
open Go.RowKit Go.Proofs
set_option linter.unusedVariables false
set_option linter.unusedSimpArgs false
theorem info84 (r : Row3) : (Try.prog.info? 84).map (·.size) = some r.cells.length := by kernel_rfl
theorem all_step {l : List Row3} {j : Nat} {r : Row3} (hj : l[j]? = some r) (h : (l.take j).all rowOk = true) (hr : rowOk r = true) : (l.take (j + 1)).all rowOk = true := by
  rw [List.take_add_one, List.all_append, h, hj]
  simp [hr]
theorem all_bad {l : List Row3} {j : Nat} {r : Row3} (hj : l[j]? = some r) (hr : rowOk r = false) : l.all rowOk = false := List.all_eq_false.2 ⟨r, List.mem_of_getElem? hj, by simp [hr]⟩
theorem all_done {l : List Row3} {j : Nat} (hl : l.length = j) (h : (l.take j).all rowOk = true) : l.all rowOk = true := by rwa [List.take_of_length_le (by omega)] at h
theorem wpList_load_row3 {ops : Array Oper} {rest : List Oper} {op : Oper} {a : Act} {w : World} {Q : Exit → Act → World → Prop} (x : Operand) (ho : op.op = .load 84 x ∧ op.guard = none)
    (b o : Nat) (hx : a.eval x = .pointer (some ⟨b, o, none⟩)) (r : Row3) (hc : w.rangeAt b o r.cells) (h : wpList Try.prog ops Q rest (a.put op.dst (.agg #[.int .i64 r.lsn, .int .i64 r.image, .int .i64 r.ilsn])) w) : wpList Try.prog ops Q (op :: rest) a w :=
  wpList_load_mid ho.2 84 x ho.1 b o hx r.cells _ hc Try.underlying84 rfl (info84 r) h
set_option maxHeartbeats 1000000 in
set_option maxRecDepth 100000 in
theorem idxFunc_calls (g : Nat) (a : Option Addr) (n c : Nat) (l : List Row3) (w : World) (h : RwAt w g a n c l) :
    Calls Try.prog 95 #[.slice a n c, .func (Fn.func 68) #[] #[]] w fun e w' => ∃ k : Int, e = .returned (.int .i64 k) ∧ decide (0 ≤ k) = (!l.all rowOk) ∧ Below w.heap.size w w' := by
  have hl := h.len
  have hle := h.le
  have htop := h.top
  go_enter Try.func95, Try.ntmps95
  go_wp2_with fail
  go_loopw [8] (fun i wr => ∃ j : Nat, j ≤ n ∧ i = .int .i64 j ∧ (l.take j).all rowOk = true ∧ Below w.heap.size w wr) (fun i _ => n - (intOf i).toNat)
  case atStart => exact ⟨0, by omega, rfl, by simp, Below.refl _ _⟩
  case round =>
    obtain ⟨j, hj, rfl, hall, hB⟩ := hrel
    by_cases hlt : j < n
    · have hdec : decide (j < n) = true := by simp; omega
      obtain ⟨b, off, r, rfl, hr, hrg, hb⟩ := (h.below hB).row j hlt
      have HB := Lib.hid (fun W => rowBad_calls r W)
      unfold Row3.val at HB
      obtain ⟨o, ho⟩ : ∃ o, rowOk r = o := ⟨_, rfl⟩
      rw [ho] at HB
      have HO := Lib.hid ho; have HR := Lib.hid hr; have H := Lib.hid h; have HALL := Lib.hid hall
      clear ho hr h hall
      go_wp2_with (refine wpList_load_row3 (.tmp 14) ⟨rfl, rfl⟩ b (off + j * 3) rfl r hrg ?_)
      refine (HB.out _).mono ?_
      rintro e w' ⟨rfl, hb'⟩
      have hB' := hB.trans (hb'.mono hB.size)
      clear hrg hb hB hb'
      cases o
      · go_wp2_with fail
        go_ret
        exact ⟨_, rfl, by rw [all_bad HR.out HO.out]; simp, hB'⟩
      · go_wp2_with fail
        go_roundw
        case rel => exact ⟨j + 1, by omega, by go_num, all_step HR.out HALL.out HO.out, hB'⟩
        case measure => simp [intOf]; omega
    · have hdec : decide (j < n) = false := by simp; omega
      obtain rfl : j = n := by omega
      go_wp2_with fail
      go_ret
      exact ⟨_, rfl, by rw [all_done hl hall]; rfl, hB⟩
set_option maxHeartbeats 1000000 in
set_option maxRecDepth 100000 in
theorem contains_calls (g : Nat) (a : Option Addr) (n c : Nat) (l : List Row3) (w : World) (h : RwAt w g a n c l) :
    Calls Try.prog 67 #[.slice a n c, .func (Fn.func 68) #[] #[]] w fun e w' => e = .returned (.bool (!l.all rowOk)) ∧ Below w.heap.size w w' := by
  go_enter Try.func67, Try.ntmps67
  go_wp2_with fail
  refine (idxFunc_calls g a n c l w h).mono ?_
  rintro e w' ⟨k, rfl, hk, hb⟩
  go_wp2_with fail
  go_ret
  exact ⟨rfl, hb⟩
set_option maxHeartbeats 1000000 in
set_option maxRecDepth 100000 in
theorem validIdx_calls (g : Nat) (a : Option Addr) (n c : Nat) (l : List Row3) (w : World) (h : RwAt w g a n c l) :
    Calls Try.prog 27 #[.agg #[.slice a n c]] w fun e w' => e = .returned (.bool (idxOk l)) ∧ Below w.heap.size w w' := by
  have hl := h.len
  unfold idxOk
  rw [hl]
  have HC := Lib.hid (fun W h' => contains_calls g a n c l W h')
  have hb := (Below.refl w.heap.size w).alloc (Nat.le_refl _) (.cells #[.slice a n c] 25)
  have h' := h.alloc (.cells #[.slice a n c] 25)
  have H := Lib.hid h'
  clear h h' hl
  by_cases h1 : 1 ≤ n
  · have hd1 : decide (1 ≤ n) = true := by simpa using h1
    by_cases h2 : n ≤ 64
    · have hd2 : decide (n ≤ 64) = true := by simpa using h2
      have hd1' : decide ((1 : Int) ≤ n) = true := by simp; omega
      have hd2' : decide ((n : Int) ≤ 64) = true := by simp; omega
      go_enter Try.func27, Try.ntmps27
      go_wp2_with fail
      refine (HC.out _ H.out).mono ?_
      rintro e w' ⟨rfl, hb'⟩
      go_wp2_with fail
      go_ret
      exact ⟨by simp [h1, h2], hb.trans (hb'.mono (by simp))⟩
    · have hd2 : decide (n ≤ 64) = false := by simpa using h2
      have hd1' : decide ((1 : Int) ≤ n) = true := by simp; omega
      have hd2' : decide ((n : Int) ≤ 64) = false := by simp; omega
      go_enter Try.func27, Try.ntmps27
      go_wp2_with fail
      go_ret
      exact ⟨by simp [h2], hb⟩
  · have hd1 : decide (1 ≤ n) = false := by simpa using h1
    have hd1' : decide ((1 : Int) ≤ n) = false := by simp; omega
    go_enter Try.func27, Try.ntmps27
    go_wp2_with fail
    go_ret
    exact ⟨by simp [h1], hb⟩
set_option maxHeartbeats 2000000 in
set_option maxRecDepth 100000 in
theorem valid11_calls (g : Nat) (a : Option Addr) (n c : Nat) (l : List Row3) (w : World) (h : RwAt w g a n c l) :
    Calls Try.prog 28 #[.agg #[.slice a n c]] w fun e w' => e = .returned (.bool (idxOk l)) ∧ Below w.heap.size w w' := by
  have hl := h.len
  unfold idxOk
  rw [hl]
  have hb := (Below.refl w.heap.size w).alloc (Nat.le_refl _) (.cells #[.slice a n c] 25)
  by_cases h1 : 1 ≤ n
  · by_cases h2 : n ≤ 64
    · have hd1 : decide ((n : Int) < 1) = false := by simp; omega
      have hd2 : decide (64 < (n : Int)) = false := by simp; omega
      have hd3 : decide (64 < n) = false := by simp; omega
      have hd4 : decide (n < 1) = false := by simp; omega
      obtain ⟨A, hA⟩ : ∃ A, w.heap.size = A := ⟨_, rfl⟩
      obtain ⟨W, hW⟩ : ∃ W, w.alloc (.cells #[.slice a n c] 25) = W := ⟨_, rfl⟩
      have hWs : W.heap.size = A + 1 := by rw [← hW, ← hA]; simp
      have hWc : W.cell? ⟨A, 0, none⟩ = some (.slice a n c) := by rw [← hW, ← hA, heap_cell (heap_alloc_new _ _)]; rfl
      have h' : RwAt W g a n c l := by rw [← hW]; exact h.alloc _
      rw [hW, hA] at hb
      rw [hA]
      have H := Lib.hid h'
      clear h h'
      go_enter Try.func28, Try.ntmps28
      go_wp2_with fail
      try rw [hW]
      try rw [hA]
      go_loopw [3] (fun i wr => ∃ j : Nat, j ≤ n ∧ i = .int .i64 j ∧ (l.take j).all rowOk = true ∧ Below (A + 1) W wr) (fun i _ => n - (intOf i).toNat)
      case atStart => exact ⟨0, by omega, rfl, by simp, Below.refl _ _⟩
      case round =>
        obtain ⟨j, hj, rfl, hall, hB⟩ := hrel
        have hc0 := (hB.cell (p := ⟨A, 0, none⟩) (show A < A + 1 by omega)).trans hWc
        have hwr := hB.size
        by_cases hlt : j < n
        · have hdec : decide (j < n) = true := by simp; omega
          obtain ⟨b, off, r, rfl, hr, hrg, hb0⟩ := (H.out.below (hB.mono (by omega))).row j hlt
          have HL1 := Lib.hid (fun W => lsn11_calls r.lsn W)
          have HL2 := Lib.hid (fun W => lsn11_calls r.image W)
          have HL3 := Lib.hid (fun W => lsn11_calls r.ilsn W)
          have hrok : rowOk r = (lsnOk r.lsn && lsnOk r.image && lsnOk r.ilsn && !((r.image == 0) && (r.ilsn != 0))) := rfl
          obtain ⟨b1, e1⟩ : ∃ b, lsnOk r.lsn = b := ⟨_, rfl⟩
          obtain ⟨b2, e2⟩ : ∃ b, lsnOk r.image = b := ⟨_, rfl⟩
          obtain ⟨b3, e3⟩ : ∃ b, lsnOk r.ilsn = b := ⟨_, rfl⟩
          obtain ⟨b4, e4⟩ : ∃ b, (r.image == 0) = b := ⟨_, rfl⟩
          obtain ⟨b5, e5⟩ : ∃ b, (r.ilsn != 0) = b := ⟨_, rfl⟩
          have e6 : (r.ilsn == 0) = !b5 := by rw [← e5]; simp [bne]
          rw [e1] at HL1
          rw [e2] at HL2
          rw [e3] at HL3
          rw [e1, e2, e3, e4, e5] at hrok
          have HROK := Lib.hid hrok
          have HR := Lib.hid hr; have HALL := Lib.hid hall; have HD := Lib.hid hb
          have hBf := HD.out.trans ((hB.alloc (by omega) (.cells #[.int .i64 r.lsn, .int .i64 r.image, .int .i64 r.ilsn] 84)).mono (Nat.le_succ A))
          have hBn := Lib.hid (hB.alloc (by omega) (.cells #[.int .i64 r.lsn, .int .i64 r.image, .int .i64 r.ilsn] 84))
          clear e1 e2 e3 hrok hr hall hb
          go_wp2_with (refine wpList_load_row3 (.tmp 25) ⟨rfl, rfl⟩ b (off + j * 3) rfl r hrg ?_)
          refine (HL1.out _).mono ?_
          rintro e w' ⟨rfl, rfl⟩
          cases b1
          · go_wp2_with fail
            go_ret
            exact ⟨by rw [all_bad HR.out (HROK.out.trans (by simp))]; simp, hBf⟩
          · go_wp2_with fail
            refine (HL2.out _).mono ?_
            rintro e w' ⟨rfl, rfl⟩
            cases b2
            · go_wp2_with fail
              go_ret
              exact ⟨by rw [all_bad HR.out (HROK.out.trans (by simp))]; simp, hBf⟩
            · go_wp2_with fail
              refine (HL3.out _).mono ?_
              rintro e w' ⟨rfl, rfl⟩
              cases b3
              · go_wp2_with fail
                go_ret
                exact ⟨by rw [all_bad HR.out (HROK.out.trans (by simp))]; simp, hBf⟩
              · cases b4
                · have hrt : rowOk r = true := HROK.out.trans (by simp)
                  go_wp2_with fail
                  go_roundw
                  case rel => exact ⟨j + 1, by omega, by go_num, all_step HR.out HALL.out hrt, hBn.out⟩
                  case measure => simp [intOf]; omega
                · cases b5
                  · have hrt : rowOk r = true := HROK.out.trans (by simp)
                    simp only [Bool.not_false] at e6
                    go_wp2_with fail
                    go_roundw
                    case rel => exact ⟨j + 1, by omega, by go_num, all_step HR.out HALL.out hrt, hBn.out⟩
                    case measure => simp [intOf]; omega
                  · simp only [Bool.not_true] at e6
                    go_wp2_with fail
                    go_ret
                    exact ⟨by rw [all_bad HR.out (HROK.out.trans (by simp))]; simp, hBf⟩
        · have hdec : decide (j < n) = false := by simp; omega
          obtain rfl : j = n := by omega
          go_wp2_with fail
          go_ret
          exact ⟨by rw [all_done hl hall]; simp [h1, h2], hb.trans (hB.mono (Nat.le_succ A))⟩
    · have hd1 : decide ((n : Int) < 1) = false := by simp; omega
      have hd2 : decide (64 < (n : Int)) = true := by simp; omega
      have hd3 : decide (64 < n) = true := by simp; omega
      have hd4 : decide (n < 1) = false := by simp; omega
      go_enter Try.func28, Try.ntmps28
      go_wp2_with fail
      go_ret
      exact ⟨by simp [h2], hb⟩
  · have hd1 : decide ((n : Int) < 1) = true := by simp; omega
    have hd4 : decide (n < 1) = true := by simp; omega
    go_enter Try.func28, Try.ntmps28
    go_wp2_with fail
    go_ret
    exact ⟨by simp [h1], hb⟩
end Go.Proofs.Ytldkgmodmpnclaa
/-! Rows of an index in a block of its own: read, changed, appended to. -/
namespace Go.Proofs.Ytldkgmodmpnclaa
open Go.RowKit Go.Proofs
set_option linter.unusedVariables false
set_option linter.unusedSimpArgs false
def rowsV (l : List Row3) : List Value := l.flatMap Row3.cells
theorem rowsV_length (l : List Row3) : (rowsV l).length = l.length * 3 := by
  induction l with
  | nil => rfl
  | cons r l ih => simp [rowsV, Row3.cells] at ih ⊢; omega
theorem rowsV_append (l m : List Row3) : rowsV (l ++ m) = rowsV l ++ rowsV m := by simp [rowsV]
theorem rowsV_get (l : List Row3) (i : Nat) (r : Row3) (h : l[i]? = some r) : (rowsV l)[i * 3]? = some (.int .i64 r.lsn) ∧ (rowsV l)[i * 3 + 1]? = some (.int .i64 r.image) ∧ (rowsV l)[i * 3 + 2]? = some (.int .i64 r.ilsn) := by
  induction l generalizing i with
  | nil => simp at h
  | cons x l ih =>
    cases i with
    | zero =>
      simp at h
      subst h
      exact ⟨rfl, rfl, rfl⟩
    | succ i =>
      have := ih i (by simpa using h)
      rw [show (i + 1) * 3 = i * 3 + 3 by omega]
      exact this
theorem rowsV_oneCell (l : List Row3) : ∀ v ∈ rowsV l, v.oneCell' = true := by
  intro v hv
  simp only [rowsV, List.mem_flatMap, Row3.cells, List.mem_cons, List.not_mem_nil, or_false] at hv
  obtain ⟨r, _, rfl | rfl | rfl⟩ := hv <;> rfl
/-- The rows in block b, whole, from its start on. -/
structure RwOwn (w : World) (b n c : Nat) (l : List Row3) : Prop where
  heap : ∃ cur, w.heap[b]? = some (.cells cur 84 (0, 0)) ∧ cur.toList.take (n * 3) = rowsV l
  len : l.length = n
  le : n ≤ c
  top : c ≤ 9223372036854775807
theorem RwOwn.of {w : World} {base n : Nat} {v : Value} {l : List Row3} (h : w.ownsRow base 84 3 v n (rowsV l)) (hv : v ≠ .slice none 0 0) : ∃ b c, v = .slice (some ⟨b, 0, none⟩) n c ∧ base ≤ b ∧ RwOwn w b n c l := by
  obtain ⟨h1, ⟨h2, _⟩ | ⟨g, cap, cur, rfl, hb, hg, hn, hm, hs, ht⟩⟩ := h
  · exact absurd h2 hv
  · rw [rowsV_length] at h1
    exact ⟨g, cap, rfl, hb, ⟨⟨cur, hg, ht⟩, by omega, hn, by simpa [maxLen] using hm⟩⟩
theorem RwOwn.lt {w : World} {b n c : Nat} {l : List Row3} (h : RwOwn w b n c l) : b < w.heap.size := by
  obtain ⟨cur, hc, _⟩ := h.heap
  exact heap_lt hc
theorem RwOwn.cell {w : World} {b n c : Nat} {l : List Row3} (h : RwOwn w b n c l) (j : Nat) (v : Value) (hj : (rowsV l)[j]? = some v) : w.cell? ⟨b, j, none⟩ = some v := by
  obtain ⟨cur, hc, ht⟩ := h.heap
  rw [heap_cell hc]
  have hl : j < n * 3 := by
    have := (List.getElem?_eq_some_iff.1 hj).1
    rw [rowsV_length, h.len] at this
    exact this
  rw [← ht, List.getElem?_take, if_pos hl] at hj
  simpa using hj
theorem RwOwn.rw {w : World} {b n c g : Nat} {l : List Row3} (h : RwOwn w b n c l) (hg : b ≠ g) : RwAt w g (some ⟨b, 0, none⟩) n c l := by
  refine ⟨h.len, h.le, h.top, .inr ⟨b, 0, rfl, hg, fun i r hi => ?_⟩⟩
  obtain ⟨h1, h2, h3⟩ := rowsV_get l i r hi
  rw [Nat.zero_add]
  exact ⟨h.cell _ _ h1, h.cell _ _ h2, h.cell _ _ h3⟩
theorem RwOwn.free {w : World} {b n c : Nat} {l : List Row3} (h : RwOwn w b n c l) (j : Nat) : w.frozen? ⟨b, j, none⟩ = false := by
  obtain ⟨cur, hc, _⟩ := h.heap
  exact heap_free hc j
theorem RwOwn.keep {w w' : World} {b n c : Nat} {l : List Row3} (h : RwOwn w b n c l) (hb : w'.heap[b]? = w.heap[b]?) : RwOwn w' b n c l := by
  obtain ⟨cur, hc, ht⟩ := h.heap
  exact ⟨⟨cur, hb.trans hc, ht⟩, h.len, h.le, h.top⟩
theorem RwOwn.below {w w' : World} {b n c : Nat} {l : List Row3} (h : RwOwn w b n c l) (hb : Below w.heap.size w w') : RwOwn w' b n c l := h.keep (hb.block b h.lt)
theorem RwOwn.kb {w w' : World} {b n c g : Nat} {l : List Row3} (h : RwOwn w b n c l) (hk : KB g w w') (hg : b ≠ g) : RwOwn w' b n c l := h.keep (hk.block b h.lt hg)
/-- A row with another field. -/
def Row3.put (r : Row3) : Nat → Int → Row3
  | 0, x => ⟨x, r.image, r.ilsn⟩
  | 1, x => ⟨r.lsn, x, r.ilsn⟩
  | _, x => ⟨r.lsn, r.image, x⟩
theorem rowsV_set (l : List Row3) (i k : Nat) (r : Row3) (x : Int) (hi : l[i]? = some r) (hk : k < 3) : (rowsV l).set (i * 3 + k) (.int .i64 x) = rowsV (l.set i (r.put k x)) := by
  induction l generalizing i with
  | nil => simp at hi
  | cons y l ih =>
    cases i with
    | zero =>
      simp at hi
      subst hi
      rcases (show k = 0 ∨ k = 1 ∨ k = 2 by omega) with rfl | rfl | rfl <;> rfl
    | succ i =>
      have := ih i (by simpa using hi)
      rw [show (i + 1) * 3 + k = (i * 3 + k) + 3 by omega]
      show Value.int .i64 y.lsn :: .int .i64 y.image :: .int .i64 y.ilsn :: (rowsV l).set (i * 3 + k) (.int .i64 x) = _
      rw [this]
      rfl
theorem RwOwn.set {w : World} {b n c i k : Nat} {l : List Row3} {r : Row3} (h : RwOwn w b n c l) (hi : l[i]? = some r) (hk : k < 3) (x : Int) : RwOwn (w.setCell ⟨b, i * 3 + k, none⟩ (.int .i64 x)) b n c (l.set i (r.put k x)) := by
  obtain ⟨cur, hc, ht⟩ := h.heap
  refine ⟨⟨cur.setIfInBounds (i * 3 + k) (.int .i64 x), heap_setCell_same _ _ _ _ _ _ hc, ?_⟩, by simpa using h.len, h.le, h.top⟩
  rw [Array.toList_setIfInBounds, List.take_set, ht, rowsV_set l i k r x hi hk]
theorem grown_below {w w' : World} (h : w.grownBy w' none) : Below w.heap.size w w' := ⟨h.os, h.tape, h.output, h.size, fun k hk => h.block k hk (by simp)⟩
theorem info84p : (Try.prog.info? 84).map (fun i => (i.zero, i.size, i.bytes)) = some (some (.agg #[.int .i64 0, .int .i64 0, .int .i64 0]), 3, 24) := by kernel_rfl
/-- Rows appended to rows of one's own. -/
theorem wp_append_rows {o : Oper} {a : Act} {w : World} {K : Act → World → Prop} {Q : Exit → Act → World → Prop} (s x : Operand)
    (ho : o.op = .call { callee := .builtin .append, args := #[s, x], argTypes := #[23, 23] })
    (base : Nat) (v : Value) (n : Nat) (l : List Row3) (hs : a.eval s = v) (hown : w.ownsRow base 84 3 v n (rowsV l))
    (g : Nat) (ad : Option Addr) (m c : Nat) (l2 : List Row3) (hx : a.eval x = .slice ad m c) (h2 : RwAt w g ad m c l2) (hm : 1 ≤ m) (hn : n + m ≤ 1000000) (hbase : base ≤ w.heap.size)
    (h : ∀ v' w', w'.ownsRow base 84 3 v' (n + m) (rowsV (l ++ l2)) → w.grownBy w' v.ownBlock → v' ≠ .slice none 0 0 → K (a.put o.dst v') w') : o.wp Try.prog a w K Q := by
  obtain ⟨b, off, rfl, hg, hc⟩ := h2.at_.resolve_left (by omega)
  obtain ⟨i, hi, hz, hsz, hby⟩ := info_parts info84p
  refine wp_append_own w s x 23 ho base 84 i (.agg #[.int .i64 0, .int .i64 0, .int .i64 0]) 3 24 Try.underlying23 hi hz hsz hby rfl (by omega) v n (rowsV l) hs hown ⟨b, off, none⟩ m c (rowsV l2) hx (by rw [rowsV_length, h2.len]) ?_ (rowsV_oneCell l2) (by simp only [maxLen]; omega) (by omega) hbase ?_
  · intro j u hu
    have hl : j < l2.length * 3 := by
      have := (List.getElem?_eq_some_iff.1 hu).1
      rwa [rowsV_length] at this
    obtain ⟨i, k, hk, rfl⟩ : ∃ i k, k < 3 ∧ j = i * 3 + k := ⟨j / 3, j % 3, by omega, by omega⟩
    obtain ⟨r1, r2, r3⟩ := rowsV_get l2 i (l2[i]'(by omega)) (by simp)
    obtain ⟨c1, c2, c3⟩ := hc i (l2[i]'(by omega)) (by simp)
    rw [Addr.add_mid]
    rcases (show k = 0 ∨ k = 1 ∨ k = 2 by omega) with rfl | rfl | rfl
    · rw [show off + (i * 3 + 0) = off + i * 3 by omega, c1, ← hu]; exact r1.symm
    · rw [show off + (i * 3 + 1) = off + i * 3 + 1 by omega, c2, ← hu]; exact r2.symm
    · rw [show off + (i * 3 + 2) = off + i * 3 + 2 by omega, c3, ← hu]; exact r3.symm
  · intro v' w' h3 h4 h5
    rw [← rowsV_append] at h3
    refine h v' w' h3 h4 fun e => ?_
    have := (h5.1 e).2
    omega
theorem wpList_append_rows {ops : Array Oper} {rest : List Oper} {o : Oper} {a : Act} {w : World} {Q : Exit → Act → World → Prop} (hgd : o.guard = none) (s x : Operand)
    (ho : o.op = .call { callee := .builtin .append, args := #[s, x], argTypes := #[23, 23] })
    (base : Nat) (v : Value) (n : Nat) (l : List Row3) (hs : a.eval s = v) (hown : w.ownsRow base 84 3 v n (rowsV l))
    (g : Nat) (ad : Option Addr) (m c : Nat) (l2 : List Row3) (hx : a.eval x = .slice ad m c) (h2 : RwAt w g ad m c l2) (hm : 1 ≤ m) (hn : n + m ≤ 1000000) (hbase : base ≤ w.heap.size)
    (h : ∀ v' w', w'.ownsRow base 84 3 v' (n + m) (rowsV (l ++ l2)) → w.grownBy w' v.ownBlock → v' ≠ .slice none 0 0 → wpList Try.prog ops Q rest (a.put o.dst v') w') : wpList Try.prog ops Q (o :: rest) a w :=
  wpList_plain hgd fun _ hK => wp_append_rows s x ho base v n l hs hown g ad m c l2 hx h2 hm hn hbase fun v' w' h2 h3 h4 => hK _ _ (h v' w' h2 h3 h4)
end Go.Proofs.Ytldkgmodmpnclaa
/-! The index's small functions: New, there, Clone, set, of the program and of the reference. -/
namespace Go.Proofs.Ytldkgmodmpnclaa
open Go.RowKit Go.Proofs
set_option linter.unusedVariables false
set_option linter.unusedSimpArgs false
theorem RwAt.nil (w : World) (g : Nat) : RwAt w g none 0 0 [] := ⟨rfl, Nat.le_refl _, by omega, .inl rfl⟩
/-- An index and an error are answered. -/
def IdxAns (g : Nat) (r : List Row3 × Int) (w : World) (e : Ending) (w' : World) : Prop := ∃ a n c, e = .returned (.tuple #[.agg #[.slice a n c], .int .i64 r.2]) ∧ RwAt w' g a n c r.1 ∧ Below w.heap.size w w'
def Row3.zero : Row3 := ⟨0, 0, 0⟩
abbrev zeros84 (n : Nat) : Array Value := madeCells #[.int .i64 0, .int .i64 0, .int .i64 0] (n * 3)
theorem make84 (n : Nat) (hn : n ≤ 1000000) (w : World) : (Instr.makeSlice 23 (.int .i64 (n : Int)) (.int .i64 (n : Int))).run Try.prog w = .ok (.slice (some ⟨w.heap.size, 0, none⟩) n n) (w.alloc (.cells (zeros84 n) 84)) := by
  obtain ⟨i, hi, hz, h1, h2⟩ := info_parts info84p
  have := run_make (P := Try.prog) w 23 84 i (.agg #[.int .i64 0, .int .i64 0, .int .i64 0]) Try.underlying23 hi hz .i64 .i64 n n (by omega) (by omega) (by rw [h2]; omega) (by omega)
  rw [h1, Int.toNat_natCast] at this
  exact this
theorem zeros84_rows (n : Nat) : (zeros84 n).toList = rowsV (List.replicate n Row3.zero) := by
  apply List.ext_getElem?
  intro j
  by_cases hj : j < n * 3
  · obtain ⟨i, k, hk, rfl⟩ : ∃ i k, k < 3 ∧ j = i * 3 + k := ⟨j / 3, j % 3, by omega, by omega⟩
    obtain ⟨r1, r2, r3⟩ := rowsV_get (List.replicate n Row3.zero) i Row3.zero (by rw [List.getElem?_replicate, if_pos (by omega)])
    have e : (zeros84 n).toList[i * 3 + k]? = some (.int .i64 0) := by
      simp only [zeros84, madeCells, Array.getElem?_toList, Array.getElem?_map]
      rw [Array.getElem?_range, if_pos hj]
      show some ((#[Value.int .i64 0, .int .i64 0, .int .i64 0] : Array Value)[(i * 3 + k) % 3]!) = _
      rw [show (i * 3 + k) % 3 = k by omega]
      rcases (show k = 0 ∨ k = 1 ∨ k = 2 by omega) with rfl | rfl | rfl <;> rfl
    rw [e]
    rcases (show k = 0 ∨ k = 1 ∨ k = 2 by omega) with rfl | rfl | rfl
    · exact r1.symm
    · exact r2.symm
    · exact r3.symm
  · rw [List.getElem?_eq_none (by simp [zeros84, size_madeCells]; omega), List.getElem?_eq_none (by rw [rowsV_length]; simp; omega)]
theorem RwOwn.made (w : World) (n : Nat) (hn : n ≤ 1000000) : RwOwn (w.alloc (.cells (zeros84 n) 84)) w.heap.size n n (List.replicate n Row3.zero) :=
  ⟨⟨_, heap_alloc_new _ _, by rw [zeros84_rows, List.take_of_length_le (by rw [rowsV_length]; simp)]⟩, by simp, Nat.le_refl _, by omega⟩
theorem info25 (v : Value) : (Try.prog.info? 25).map (·.size) = some (#[v] : Array Value).size := by kernel_rfl
theorem end25 {fn : Func} {R : Ending → World → Prop} {a : Act} {w : World} {p q : Tmp} {g : Nat} {v : Value} {n : Int} {fr : Nat × Nat} (hr : fn.results = #[.cell p 25, .tmp q])
    (hp : a.tmps.getD p undef = .pointer (some ⟨g, 0, none⟩)) (hg : w.heap[g]? = some (.cells #[v] 25 fr)) (hn : a.tmps.getD q undef = .int .i64 n) (hd : a.defers = []) (hR : R (.returned (.tuple #[.agg #[v], .int .i64 n])) w) : bodyPost Try.prog fn R .ret a w :=
  bodyPost_ret (v := .tuple #[.agg #[v], .int .i64 n]) (by rw [results_cell_tmp hr _ _ g _ _ _ _ hp hg Try.underlying25 rfl (info25 v), hn]) hd hR
/-- One result, out of a block. -/
theorem end25a {fn : Func} {R : Ending → World → Prop} {a : Act} {w : World} {p : Tmp} {g : Nat} {v : Value} {fr : Nat × Nat} (hr : fn.results = #[.cell p 25])
    (hp : a.tmps.getD p undef = .pointer (some ⟨g, 0, none⟩)) (hg : w.heap[g]? = some (.cells #[v] 25 fr)) (hd : a.defers = []) (hR : R (.returned (.agg #[v])) w) : bodyPost Try.prog fn R .ret a w :=
  bodyPost_ret (results_cell_row hr _ _ g _ _ _ _ hp hg Try.underlying25 rfl (info25 v)) hd hR
theorem heap_alloc_of {w : World} {b : Nat} {o x : Obj} (h : w.heap[b]? = some o) : (w.alloc x).heap[b]? = some o := (Below.heap_alloc _ _ _ (heap_lt h)).trans h
/-- An index of zeros, in a block of its own. -/
def NewOk (m : Nat) (w : World) (e : Ending) (w' : World) : Prop := ∃ b, e = .returned (.tuple #[.agg #[.slice (some ⟨b, 0, none⟩) m m], .int .i64 0]) ∧ w.heap.size ≤ b ∧ RwOwn w' b m m (List.replicate m Row3.zero) ∧ Below w.heap.size w w'
set_option maxHeartbeats 1000000 in
set_option maxRecDepth 100000 in
theorem newIdx_ok (m : Nat) (w : World) (h1 : 1 ≤ m) (h2 : m ≤ 64) : Calls Try.prog 32 #[.int .i64 m] w (NewOk m w) := by
  have hm := make84 m (by omega)
  have hd1 : decide ((m : Int) < 1) = false := by simp; omega
  have hd2 : decide (64 < (m : Int)) = false := by simp; omega
  have hd3 : decide (64 < m) = false := by simp; omega
  have hd4 : decide (m < 1) = false := by simp; omega
  have HO := Lib.hid (fun W => RwOwn.made W m (by omega))
  go_enter Try.func32, Try.ntmps32
  go_wp2_with fail
  refine end25 (n := 0) rfl rfl (heap_alloc_of (heap_alloc_new _ _)) rfl rfl ?_
  have hO := HO.out (w.alloc (.cells #[.slice (some ⟨w.heap.size + 1, 0, none⟩) m m] 25))
  have hs : (w.alloc (.cells #[.slice (some ⟨w.heap.size + 1, 0, none⟩) m m] 25)).heap.size = w.heap.size + 1 := by simp
  rw [hs] at hO
  exact ⟨w.heap.size + 1, rfl, by omega, hO, ((Below.refl _ _).alloc (Nat.le_refl _) _).alloc (by omega) _⟩
set_option maxRecDepth 100000 in
theorem newIdx_bad (n : Int) (w : World) (h : ¬ (1 ≤ n ∧ n ≤ 64)) : Calls Try.prog 32 #[.int .i64 n] w fun e w' => e = .returned (.tuple #[.agg #[.slice none 0 0], .int .i64 1]) ∧ Below w.heap.size w w' := by
  by_cases h1 : n < 1
  · have hd1 : decide (n < 1) = true := by simpa using h1
    go_enter Try.func32, Try.ntmps32
    go_wp2_with fail
    exact end25 rfl rfl (heap_alloc_new _ _) rfl rfl ⟨rfl, (Below.refl _ _).alloc (Nat.le_refl _) _⟩
  · have hd1 : decide (n < 1) = false := by simpa using h1
    have hd2 : decide (64 < n) = true := by simp; omega
    go_enter Try.func32, Try.ntmps32
    go_wp2_with fail
    exact end25 rfl rfl (heap_alloc_new _ _) rfl rfl ⟨rfl, (Below.refl _ _).alloc (Nat.le_refl _) _⟩
set_option maxHeartbeats 1000000 in
set_option maxRecDepth 100000 in
theorem new11_ok (m : Nat) (w : World) (h1 : 1 ≤ m) (h2 : m ≤ 64) : Calls Try.prog 33 #[.int .i64 m] w (NewOk m w) := by
  have hm := make84 m (by omega)
  have hd1 : decide ((m : Int) < 1) = false := by simp; omega
  have hd2 : decide (64 < (m : Int)) = false := by simp; omega
  have hd3 : decide (64 < m) = false := by simp; omega
  have hd4 : decide (m < 1) = false := by simp; omega
  have HO := Lib.hid (fun W => RwOwn.made W m (by omega))
  go_enter Try.func33, Try.ntmps33
  go_wp2_with fail
  refine end25 (n := 0) rfl rfl (heap_alloc_of (heap_alloc_new _ _)) rfl rfl ?_
  have hO := HO.out (w.alloc (.cells #[.slice (some ⟨w.heap.size + 1, 0, none⟩) m m] 25))
  have hs : (w.alloc (.cells #[.slice (some ⟨w.heap.size + 1, 0, none⟩) m m] 25)).heap.size = w.heap.size + 1 := by simp
  rw [hs] at hO
  exact ⟨w.heap.size + 1, rfl, by omega, hO, ((Below.refl _ _).alloc (Nat.le_refl _) _).alloc (by omega) _⟩
set_option maxRecDepth 100000 in
theorem new11_bad (n : Int) (w : World) (h : ¬ (1 ≤ n ∧ n ≤ 64)) : Calls Try.prog 33 #[.int .i64 n] w fun e w' => e = .returned (.tuple #[.agg #[.slice none 0 0], .int .i64 1]) ∧ Below w.heap.size w w' := by
  by_cases h1 : n < 1
  · have hd1 : decide (n < 1) = true := by simpa using h1
    go_enter Try.func33, Try.ntmps33
    go_wp2_with fail
    exact end25 rfl rfl (heap_alloc_new _ _) rfl rfl ⟨rfl, (Below.refl _ _).alloc (Nat.le_refl _) _⟩
  · have hd1 : decide (n < 1) = false := by simpa using h1
    have hd2 : decide (64 < n) = true := by simp; omega
    go_enter Try.func33, Try.ntmps33
    go_wp2_with fail
    exact end25 rfl rfl (heap_alloc_new _ _) rfl rfl ⟨rfl, (Below.refl _ _).alloc (Nat.le_refl _) _⟩
set_option maxRecDepth 100000 in
theorem there_calls (a : Option Addr) (n c : Nat) (id : Int) (w : World) : Calls Try.prog 57 #[.agg #[.slice a n c], .int .i64 id] w fun e w' => e = .returned (.bool (decide (0 ≤ id) && decide (id < n))) ∧ Below w.heap.size w w' := by
  cases h : decide (0 ≤ id)
  all_goals
    go_enter Try.func57, Try.ntmps57
    go_wp2_with fail
    go_ret
    exact ⟨by simp, (Below.refl _ _).alloc (Nat.le_refl _) _⟩
end Go.Proofs.Ytldkgmodmpnclaa
