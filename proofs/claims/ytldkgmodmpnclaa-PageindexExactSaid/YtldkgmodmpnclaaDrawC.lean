import Derived.Test.YtldkgmodmpnclaaDrawB
import Derived.Test.YtldkgmodmpnclaaPageG
namespace Go.Proofs.Ytldkgmodmpnclaa
open Go.RowKit Go.Proofs
set_option linter.unusedVariables false
set_option linter.unusedSimpArgs false
/-- Some cell that fits: set, or one of no data. -/
def AnyCell (g : Nat) (w : World) (e : Ending) (w' : World) : Prop := ∃ c : Cell, e = .returned (.agg #[.bool c.set, .string c.data]) ∧ cellFits c = true ∧ KB g w w' ∧ Cs w' g
/-- A block made ahead of draws. -/
theorem kb_new {g : Nat} {w w1 : World} {o : Obj} (h : Cs w g) (hk : KB g (w.alloc o) w1) : w1.heap[w.heap.size]? = some o :=
  (hk.block w.heap.size (by simp) (by have := h.lt; omega)).trans (heap_alloc_new w o)
theorem kb_row {g k : Nat} {w w1 : World} {o : Option Obj} (hk : KB g w w1) (h : w.heap[k]? = o) (hl : g < k) (hs : k < w.heap.size) : w1.heap[k]? = o := (hk.block k hs (by omega)).trans h
theorem KB.setB {g B : Nat} {a w : World} (h : KB g a w) (hB : a.heap.size ≤ B) (o : Nat) (v : Value) : KB g a (w.setCell ⟨B, o, none⟩ v) :=
  ⟨h.os, h.tape, h.output, Nat.le_trans h.size (by simp [World.setCell]), fun k hk hne => (Below.heap_setCell _ _ _ _ (by simp; omega)).trans (h.block k hk hne)⟩
theorem Cs.setB {g B : Nat} {w : World} (h : Cs w g) (hB : g < B) (o : Nat) (v : Value) : Cs (w.setCell ⟨B, o, none⟩ v) g := h.keepG ((Below.refl _ _).setCell (p := ⟨B, o, none⟩) (by simp; omega) _)
theorem KB.out {g : Nat} {w w1 : World} {o : Obj} (hk : KB g (w.alloc o) w1) : KB g w w1 := ((KB.refl g w).alloc o).trans hk
theorem heap_set2 {w : World} {b : Nat} {x y : Value} {t : TypeId} (h : w.heap[b]? = some (.cells #[x, y] t (0, 0))) (u v : Value) : ((w.setCell ⟨b, 0, none⟩ u).setCell ⟨b, 1, none⟩ v).heap[b]? = some (.cells #[u, v] t (0, 0)) := by
  rw [heap_setCell_same _ _ _ _ _ _ (heap_setCell_same _ _ _ _ _ _ h)]
  rfl
theorem none_fits : cellFits Cell.none = true := by kernel_rfl
theorem cell_size : (Try.prog.info? 27).map (·.size) = some 2 := by kernel_rfl
set_option maxHeartbeats 1000000 in
set_option maxRecDepth 100000 in
theorem cell_calls (g : Nat) (w : World) (h : Cs w g) :
    Calls Try.prog 72 #[.pointer (some ⟨g, 0, none⟩)] w (AnyCell g w) := by
  have hlt := h.lt
  go_enter Try.func72, Try.ntmps72
  go_wp2_with fail
  refine (next_calls g 3 _ (h.alloc _) (by omega) (by omega)).mono ?_
  rintro e w1 ⟨r, rfl, hr0, hr1, hk, h1⟩
  have hA := kb_new h hk
  have hk0 := hk.out
  have hsz : w.heap.size < w1.heap.size := heap_lt hA
  clear hk
  by_cases r0 : r = 0
  · subst r0
    have hc0 : w1.cell? ⟨w.heap.size, 0, none⟩ = some (.bool false) := by rw [heap_cell hA]; rfl
    have hc1 : w1.cell? ⟨w.heap.size, 1, none⟩ = some (.string ⟨#[]⟩) := by rw [heap_cell hA]; rfl
    have hf0 := heap_free hA 0
    have hf1 := heap_free hA 1
    have HA := Lib.hid hA; clear hA
    go_wp2_with fail
    refine bodyPost_ret (results_cell_row rfl _ _ w.heap.size _ _ _ _ rfl (heap_set2 HA.out _ _) Try.underlying27 rfl cell_size) rfl ?_
    exact ⟨Cell.none, rfl, none_fits, (hk0.setB (Nat.le_refl _) _ _).setB (Nat.le_refl _) _ _, (h1.setB hlt _ _).setB hlt _ _⟩
  · have hd0 : decide (r = 0) = false := by simp [r0]
    go_wp2_with fail
    refine (data_calls g _ h1).mono ?_
    rintro e w2 ⟨s, rfl, hs, hk2, h2⟩
    have hA2 := kb_row hk2 hA hlt hsz
    have hc0 : w2.cell? ⟨w.heap.size, 0, none⟩ = some (.bool false) := by rw [heap_cell hA2]; rfl
    have hc1 : w2.cell? ⟨w.heap.size, 1, none⟩ = some (.string ⟨#[]⟩) := by rw [heap_cell hA2]; rfl
    have hf0 := heap_free hA2 0
    have hf1 := heap_free hA2 1
    have hk3 := hk0.trans hk2
    have HA := Lib.hid hA2; clear hA hA2 hk0 hk2
    by_cases hs12 : s.size ≤ 12
    · have hm : min (s.size : Int) 12 = s.size := by omega
      have hfit : cellFits ⟨true, s⟩ = true := by simp [cellFits]; omega
      have HF := Lib.hid hfit; clear hfit
      go_wp2_with fail
      refine bodyPost_ret (results_cell_row rfl _ _ w.heap.size _ _ _ _ rfl (heap_set2 HA.out _ _) Try.underlying27 rfl cell_size) rfl ?_
      exact ⟨⟨true, _⟩, rfl, HF.out, (hk3.setB (Nat.le_refl _) _ _).setB (Nat.le_refl _) _ _, (h2.setB hlt _ _).setB hlt _ _⟩
    · have hm : min (s.size : Int) 12 = 12 := by omega
      have hfit : cellFits ⟨true, s.extract 0 12⟩ = true := by simp [cellFits, ByteArray.size_extract]; omega
      have HF := Lib.hid hfit; clear hfit
      go_wp2_with fail
      refine bodyPost_ret (results_cell_row rfl _ _ w.heap.size _ _ _ _ rfl (heap_set2 HA.out _ _) Try.underlying27 rfl cell_size) rfl ?_
      exact ⟨⟨true, _⟩, rfl, HF.out, (hk3.setB (Nat.le_refl _) _ _).setB (Nat.le_refl _) _ _, (h2.setB hlt _ _).setB hlt _ _⟩
theorem PgAt.kb {g B : Nat} {w w1 : World} {p : Page} (h : PgAt w B p) (hk : KB g w w1) (hg : g < B) : PgAt w1 B p := kb_row hk h.out hg h.lt
/-- A page under way: its cells fit. -/
def fits (p : Page) : Prop := ∀ c ∈ p.cells, cellFits c = true
theorem fits.put {p : Page} (h : fits p) {c : Cell} (hc : cellFits c = true) (j : Nat) : fits (p.put j c) := by
  intro d hd
  rcases List.mem_or_eq_of_mem_set hd with hd | rfl
  · exact h d hd
  · exact hc
theorem fits.ok {p : Page} (h : fits p) (hl : p.lsn ≠ 0) : cellsOk p = true := by
  refine List.all_eq_true.2 fun c hc => ?_
  simp [cellOk, h c hc, hl]
theorem fits_rep (a b : Int) : fits ⟨a, b, List.replicate 16 Cell.none, by simp⟩ := by
  intro c hc
  obtain rfl := (List.mem_replicate.1 hc).2
  exact none_fits
theorem ok_rep (a b : Int) : cellsOk ⟨a, b, List.replicate 16 Cell.none, by simp⟩ = true := by
  refine List.all_eq_true.2 fun c hc => ?_
  obtain rfl := (List.mem_replicate.1 hc).2
  simp only [cellOk, none_fits, Bool.true_and]
  rfl
/-- Some valid page with a given ID. -/
def AnyPage (g : Nat) (id : Int) (w : World) (e : Ending) (w' : World) : Prop := ∃ p : Page, e = .returned (.agg (pageC p)) ∧ p.id = id ∧ lsnOk p.lsn = true ∧ cellsOk p = true ∧ KB g w w' ∧ Cs w' g
theorem KB.setRowB {g B : Nat} {a w : World} (h : KB g a w) (hB : a.heap.size ≤ B) (cs : Array Value) : KB g a (w.setRow B cs) := by
  have hb := below_setRow (Below.refl B w) (Nat.le_refl B) cs
  exact ⟨hb.os.trans h.os, hb.tape.trans h.tape, hb.output.trans h.output, Nat.le_trans h.size hb.size, fun k hk hne => (hb.block k (by omega)).trans (h.block k hk hne)⟩
theorem Cs.setRowB {g B : Nat} {w : World} (h : Cs w g) (hB : g < B) (cs : Array Value) : Cs (w.setRow B cs) g := h.keepG ((below_setRow (Below.refl B w) (Nat.le_refl B) cs).mono (by omega))
theorem PgAt.setLsn {w : World} {b : Nat} {id l : Int} {cells : List Cell} {hc : cells.length = 16} (h : PgAt w b ⟨id, l, cells, hc⟩) (m : Int) : PgAt (w.setCell ⟨b, 1, none⟩ (.int .i64 m)) b ⟨id, m, cells, hc⟩ := by
  unfold PgAt
  rw [heap_setCell_same _ _ _ _ _ _ h.out]
  rfl
set_option maxHeartbeats 1000000 in
set_option maxRecDepth 100000 in
theorem cpage_calls (g : Nat) (id : Int) (w : World) (h : Cs w g) :
    Calls Try.prog 35 #[.pointer (some ⟨g, 0, none⟩), .int .i64 id] w (AnyPage g id w) := by
  have hlt := h.lt
  go_enter Try.func35, Try.ntmps35
  go_wp2_with (first
    | (refine wpList_alloc_row rfl 59 rfl (pageC Page.zero) zero59 ?_))
  refine (next_calls g 50 _ (h.alloc _) (by omega) (by omega)).mono ?_
  rintro e w1 ⟨r, rfl, hr0, hr1, hk, h1⟩
  have hZ1 : PgAt w1 w.heap.size Page.zero := kb_new h hk
  have hk1 := hk.out
  have hsz : w.heap.size < w1.heap.size := hZ1.lt
  clear hk h
  go_wp2_with (first
    | (refine wpList_build_row rfl 59 _ rfl (pageC ⟨id, r, List.replicate 16 Cell.none, by simp⟩) (built59_two id r) ?_)
    | (refine wpList_alloc_row rfl 59 rfl (pageC Page.zero) zero59 ?_)
    | (refine wpList_store_row rfl 59 (.tmp 5) (.tmp 10) rfl _ (pageC ⟨id, r, List.replicate 16 Cell.none, by simp⟩) rfl rfl _ _ (heap_alloc_new _ _) (page_size _) (by rw [pageC_size, pageC_size]) (pageC_oneCell _) ?_; rw [World.setRow_alloc_new]))
  refine (next_calls g 10 _ (h1.alloc _) (by omega) (by omega)).mono ?_
  rintro e w2 ⟨q, rfl, hq0, hq1, hk2, h2⟩
  have hZ2 := (hZ1.alloc _).kb hk2 (by omega)
  have hP2 : PgAt w2 w1.heap.size ⟨id, r, List.replicate 16 Cell.none, by simp⟩ := kb_new h1 hk2
  have hk2' := hk1.trans hk2.out
  have hgB := h1.lt
  obtain ⟨B, hB⟩ : ∃ B, w1.heap.size = B := ⟨_, rfl⟩
  rw [hB] at hP2 hsz hgB ⊢
  clear hZ1 hk1 hk2 h1 hB
  by_cases q9 : q = 9
  · subst q9
    go_wp2_with fail
    refine (next_calls g 2 _ h2 (by omega) (by omega)).mono ?_
    rintro e w2' ⟨y, rfl, hy0, hy1, hk2y, h2y⟩
    have hP2y := hP2.kb hk2y (by omega)
    have hZ2y := hZ2.kb hk2y (by omega)
    have hc0 : w2'.cell? ⟨B, 1, none⟩ = some (.int .i64 r) := by rw [heap_cell hP2y.out]; rfl
    have hf0 : w2'.frozen? ⟨B, 1, none⟩ = false := heap_free hP2y.out 1
    have hk2z := hk2'.trans hk2y
    clear hk2' hk2y h2 hP2 hZ2
    obtain ⟨l, hl⟩ : ∃ l, 1099511627776 - y = l := ⟨_, rfl⟩
    have hl1 : l ≤ 1099511627776 := by omega
    have hl0 : ¬ l = 0 := by omega
    have hd : decide (0 < l) = true := by simp; omega
    have hP3 := hP2y.setLsn l
    have hk3 : KB g w (w2'.setCell ⟨B, 1, none⟩ (.int .i64 l)) := hk2z.setB (by omega) _ _
    have hc3 : Cs (w2'.setCell ⟨B, 1, none⟩ (.int .i64 l)) g := h2y.setB (by omega) _ _
    have hZ := hZ2y.setCell (a := ⟨B, 1, none⟩) (.int .i64 l) (show w.heap.size ≠ B by omega)
    have hP := hP3
    clear hP3 hP2y hk2z h2y hZ2y
    go_wp2_with fail
    refine (next_calls g 6 _ hc3 (by omega) (by omega)).mono ?_
    rintro e w4 ⟨k0, rfl, hk00, hk01, hk4, hc4⟩
    have hP4 := hP.kb hk4 (by omega)
    have hZ4 := hZ.kb hk4 (by omega)
    have hkk4 := hk3.trans hk4
    have hfit := fits_rep id l
    obtain ⟨q0, hq0⟩ : ∃ q0 : Page, q0 = ⟨id, l, List.replicate 16 Cell.none, by simp⟩ := ⟨_, rfl⟩
    rw [← hq0] at hP4 hfit
    have hid0 : q0.id = id := by rw [hq0]
    have hll0 : q0.lsn = l := by rw [hq0]
    have HQ := Lib.hid hP4; have HF := Lib.hid hfit
    clear hq0 hP hZ hk3 hc3 hk4 hP4 hfit
    go_wp2_with fail
    go_loopw [6] (fun v wr => ∃ (k : Int) (q : Page), 0 ≤ k ∧ k < 6 ∧ v = .int .i64 k ∧ q.id = id ∧ q.lsn = l ∧ Hid (fits q) ∧ Hid (PgAt wr B q) ∧ PgAt wr w.heap.size Page.zero ∧ KB g w wr ∧ Cs wr g) (fun v _ => (intOf v).toNat)
    case atStart => exact ⟨k0, q0, hk00, hk01, rfl, hid0, hll0, HF, HQ, hZ4, hkk4, hc4⟩
    case round =>
      obtain ⟨k, q, hk0', hk6, rfl, hqi, hql, hqf, hqP, hqZ, hqk, hqc⟩ := hrel
      clear HF HQ hZ4 hkk4 hc4 hid0 hll0
      have HI := Lib.hid hqi; have HL := Lib.hid hql; clear hqi hql
      by_cases hkp : 0 < k
      · have hdec : decide (0 < k) = true := by simp; omega
        go_wp2_with fail
        refine (next_calls g 16 _ hqc (by omega) (by omega)).mono ?_
        rintro e w5 ⟨j, rfl, hj0, hj1, hk5, hc5⟩
        obtain ⟨j, rfl⟩ : ∃ n : Nat, j = n := ⟨j.toNat, by omega⟩
        go_wp2_with fail
        refine (cell_calls g _ hc5).mono ?_
        rintro e w6 ⟨c, rfl, hcf, hk6', hc6⟩
        have hkk := (hqk.trans hk5).trans hk6'
        have hP6 := (hqP.out.kb hk5 (by omega)).kb hk6' (by omega)
        have hZ6 := (hqZ.kb hk5 (by omega)).kb hk6' (by omega)
        obtain ⟨hcc1, hcc2⟩ := page_cell w6 B q hP6.out j (by omega)
        have hf1 : w6.frozen? ⟨B, 2 + j * 2, none⟩ = false := heap_free hP6.out _
        have hf2 : w6.frozen? ⟨B, 2 + j * 2 + 1, none⟩ = false := heap_free hP6.out _
        have HP6 := Lib.hid hP6; have HCF := Lib.hid hcf
        clear hqk hk5 hk6' hqP hqZ hqc hc5 hP6 hcf
        go_wp2_with fail
        go_roundw
        case rel => exact ⟨k - 1, q.put j c, by omega, by omega, by go_num, HI.out, HL.out, Lib.hid (hqf.out.put HCF.out j), Lib.hid (HP6.out.put (by omega) c), (hZ6.setCell _ (show w.heap.size ≠ B by omega)).setCell _ (show w.heap.size ≠ B by omega), (hkk.setB (by omega) _ _).setB (by omega) _ _, (hc6.setB (by omega) _ _).setB (by omega) _ _⟩
        case measure => simp [intOf]; omega
      · have hdec : decide (0 < k) = false := by simp; omega
        go_wp2_with (first
          | (refine wpList_load_row rfl 59 (.tmp 5) rfl B rfl _ _ _ _ hqP.out.out Try.underlying59 rfl (page_size _) ?_)
          | (refine wpList_store_row rfl 59 (.tmp 4) (.tmp 33) rfl w.heap.size (pageC q) rfl rfl _ _ hqZ.out (page_size _) (by rw [pageC_size, pageC_size]) (pageC_oneCell _) ?_))
        refine bodyPost_ret (results_cell_row rfl _ _ w.heap.size _ _ _ _ rfl (heap_setRow hqZ.out) Try.underlying59 rfl (page_size _)) rfl ?_
        refine ⟨q, rfl, HI.out, by rw [HL.out]; simp [lsnOk]; omega, hqf.out.ok (by rw [HL.out]; omega), ?_, ?_⟩
        · exact hqk.setRowB (Nat.le_refl _) _
        · exact hqc.setRowB hlt _
  · have hd9 : decide (q = 9) = false := by simp [q9]
    have hk3 := hk2'
    have hc3 := h2
    have hP := hP2
    have hZ := hZ2
    have hl1 : r ≤ 1099511627776 := by omega
    clear hk2' h2 hP2 hZ2
    have hlsn1 : w2.cell? ⟨B, 1, none⟩ = some (.int .i64 r) := by rw [heap_cell hP.out]; rfl
    by_cases hl0 : r = 0
    · subst hl0
      go_wp2_with (first
        | (refine wpList_load_row rfl 59 (.tmp 5) rfl B rfl _ _ _ _ hP.out Try.underlying59 rfl (page_size _) ?_)
        | (refine wpList_store_row rfl 59 (.tmp 4) (.tmp 33) rfl w.heap.size (pageC ⟨id, 0, List.replicate 16 Cell.none, by simp⟩) rfl rfl _ _ hZ.out (page_size _) (by rw [pageC_size, pageC_size]) (pageC_oneCell _) ?_))
      refine bodyPost_ret (results_cell_row rfl _ _ w.heap.size _ _ _ _ rfl (heap_setRow hZ.out) Try.underlying59 rfl (page_size _)) rfl ?_
      exact ⟨_, rfl, rfl, rfl, ok_rep _ _, hk3.setRowB (Nat.le_refl _) _, hc3.setRowB hlt _⟩
    · have hd : decide (0 < r) = true := by simp; omega
      go_wp2_with fail
      refine (next_calls g 6 _ hc3 (by omega) (by omega)).mono ?_
      rintro e w4 ⟨k0, rfl, hk00, hk01, hk4, hc4⟩
      have hP4 := hP.kb hk4 (by omega)
      have hZ4 := hZ.kb hk4 (by omega)
      have hkk4 := hk3.trans hk4
      have hfit := fits_rep id r
      obtain ⟨q0, hq0⟩ : ∃ q0 : Page, q0 = ⟨id, r, List.replicate 16 Cell.none, by simp⟩ := ⟨_, rfl⟩
      rw [← hq0] at hP4 hfit
      have hid0 : q0.id = id := by rw [hq0]
      have hll0 : q0.lsn = r := by rw [hq0]
      have HQ := Lib.hid hP4; have HF := Lib.hid hfit
      clear hq0 hP hZ hk3 hc3 hk4 hP4 hfit hlsn1
      go_wp2_with fail
      go_loopw [6] (fun v wr => ∃ (k : Int) (q : Page), 0 ≤ k ∧ k < 6 ∧ v = .int .i64 k ∧ q.id = id ∧ q.lsn = r ∧ Hid (fits q) ∧ Hid (PgAt wr B q) ∧ PgAt wr w.heap.size Page.zero ∧ KB g w wr ∧ Cs wr g) (fun v _ => (intOf v).toNat)
      case atStart => exact ⟨k0, q0, hk00, hk01, rfl, hid0, hll0, HF, HQ, hZ4, hkk4, hc4⟩
      case round =>
        obtain ⟨k, q, hk0', hk6, rfl, hqi, hql, hqf, hqP, hqZ, hqk, hqc⟩ := hrel
        clear HF HQ hZ4 hkk4 hc4 hid0 hll0
        have HI := Lib.hid hqi; have HL := Lib.hid hql; clear hqi hql
        by_cases hkp : 0 < k
        · have hdec : decide (0 < k) = true := by simp; omega
          go_wp2_with fail
          refine (next_calls g 16 _ hqc (by omega) (by omega)).mono ?_
          rintro e w5 ⟨j, rfl, hj0, hj1, hk5, hc5⟩
          obtain ⟨j, rfl⟩ : ∃ n : Nat, j = n := ⟨j.toNat, by omega⟩
          go_wp2_with fail
          refine (cell_calls g _ hc5).mono ?_
          rintro e w6 ⟨c, rfl, hcf, hk6', hc6⟩
          have hkk := (hqk.trans hk5).trans hk6'
          have hP6 := (hqP.out.kb hk5 (by omega)).kb hk6' (by omega)
          have hZ6 := (hqZ.kb hk5 (by omega)).kb hk6' (by omega)
          obtain ⟨hcc1, hcc2⟩ := page_cell w6 B q hP6.out j (by omega)
          have hf1 : w6.frozen? ⟨B, 2 + j * 2, none⟩ = false := heap_free hP6.out _
          have hf2 : w6.frozen? ⟨B, 2 + j * 2 + 1, none⟩ = false := heap_free hP6.out _
          have HP6 := Lib.hid hP6; have HCF := Lib.hid hcf
          clear hqk hk5 hk6' hqP hqZ hqc hc5 hP6 hcf
          go_wp2_with fail
          go_roundw
          case rel => exact ⟨k - 1, q.put j c, by omega, by omega, by go_num, HI.out, HL.out, Lib.hid (hqf.out.put HCF.out j), Lib.hid (HP6.out.put (by omega) c), (hZ6.setCell _ (show w.heap.size ≠ B by omega)).setCell _ (show w.heap.size ≠ B by omega), (hkk.setB (by omega) _ _).setB (by omega) _ _, (hc6.setB (by omega) _ _).setB (by omega) _ _⟩
          case measure => simp [intOf]; omega
        · have hdec : decide (0 < k) = false := by simp; omega
          go_wp2_with (first
            | (refine wpList_load_row rfl 59 (.tmp 5) rfl B rfl _ _ _ _ hqP.out.out Try.underlying59 rfl (page_size _) ?_)
            | (refine wpList_store_row rfl 59 (.tmp 4) (.tmp 33) rfl w.heap.size (pageC q) rfl rfl _ _ hqZ.out (page_size _) (by rw [pageC_size, pageC_size]) (pageC_oneCell _) ?_))
          refine bodyPost_ret (results_cell_row rfl _ _ w.heap.size _ _ _ _ rfl (heap_setRow hqZ.out) Try.underlying59 rfl (page_size _)) rfl ?_
          refine ⟨q, rfl, HI.out, by rw [HL.out]; simp [lsnOk]; omega, hqf.out.ok (by rw [HL.out]; omega), ?_, ?_⟩
          · exact hqk.setRowB (Nat.le_refl _) _
          · exact hqc.setRowB hlt _

end Go.Proofs.Ytldkgmodmpnclaa
