import Derived.Test.YtldkgmodmpnclaaPageA
import Derived.Test.YtldkgmodmpnclaaAggs
namespace Go.Proofs.Ytldkgmodmpnclaa
open Go.RowKit
set_option linter.unusedVariables false
set_option linter.unusedSimpArgs false
theorem cellOk_eq2 (n : Int) (c : Cell) (a b e : Bool) (h1 : cellFits c = a) (h2 : c.set = b) (h4 : (n == 0) = e) : cellOk n c = (a && !(b && e)) := by
  subst h1 h2 h4
  rfl
theorem page_cell (w : World) (g : Nat) (p : Page) (h : w.heap[g]? = some (.cells (pageC p) 59 (0, 0))) (j : Nat) (hj : j < 16) :
    w.cell? ⟨g, 2 + j * 2, none⟩ = some (.bool (p.cells.getD j Cell.none).set) ∧ w.cell? ⟨g, 2 + j * 2 + 1, none⟩ = some (.string (p.cells.getD j Cell.none).data) := by
  rw [heap_cell h, heap_cell h, show 2 + j * 2 = 2 + 2 * j by omega]
  exact ⟨pageC_set p j hj, pageC_data p j hj⟩
set_option maxHeartbeats 1000000 in
set_option maxRecDepth 100000 in
theorem cells02_calls (p : Page) (w : World) : Calls Try.prog 79 #[.agg (pageC p)] w fun e w' => e = .returned (.bool (cellsOk p)) ∧ Below w.heap.size w w' := by
  go_enter Try.func79, Try.ntmps79
  go_wp2
  go_loopw [3] (fun i wr => ∃ j : Nat, j ≤ 16 ∧ i = .int .i64 j ∧ (p.cells.take j).all (cellOk p.lsn) = true ∧ wr.heap[w.heap.size]? = some (.cells (pageC p) 59 (0, 0)) ∧ Below w.heap.size w wr) (fun i _ => 16 - (intOf i).toNat)
  case atStart => exact ⟨0, by omega, rfl, rfl, heap_alloc_new w _, (Below.refl _ _).alloc (Nat.le_refl _) _⟩
  case round =>
    obtain ⟨j, hj, rfl, ha, hb, hB⟩ := hrel
    have HA := Lib.hid ha; have HBk := Lib.hid hb
    have hz := heap_lt hb
    clear ha hb
    by_cases hlt : j < 16
    · have hdec : decide ((j : Int) < 16) = true := by simp; omega
      have hc1 : wr.cell? ⟨w.heap.size, 1, none⟩ = some (.int .i64 p.lsn) := by rw [heap_cell HBk.out, pageC_1]
      obtain ⟨hc2, hc3⟩ := page_cell wr w.heap.size p HBk.out j hlt
      obtain ⟨c, hc⟩ : ∃ c, p.cells.getD j Cell.none = c := ⟨_, rfl⟩
      rw [hc] at hc2 hc3
      have HC := Lib.hid hc; clear hc
      obtain ⟨b, hcs⟩ : ∃ b, c.set = b := ⟨_, rfl⟩
      obtain ⟨a, hca⟩ : ∃ a, cellFits c = a := ⟨_, rfl⟩
      obtain ⟨e, hce⟩ : ∃ e, (p.lsn == 0) = e := ⟨_, rfl⟩
      have hk := cellOk_eq2 p.lsn c a b e hca hcs hce
      have HV := Lib.hid (fun W => validCell02_calls c W)
      rw [hcs, hca] at HV
      rw [hcs] at hc2
      go_wp2_with fail
      refine (HV.out _).mono ?_
      rintro e w2 ⟨rfl, hb2⟩
      have hbk2 : w2.heap[w.heap.size]? = some (.cells (pageC p) 59 (0, 0)) := by rw [hb2.block _ hz]; exact HBk.out
      have d1 : w2.cell? ⟨w.heap.size, 1, none⟩ = some (.int .i64 p.lsn) := by rw [hb2.cell (p := ⟨w.heap.size, 1, none⟩) hz]; exact hc1
      have d2 : w2.cell? ⟨w.heap.size, 2 + j * 2, none⟩ = some (.bool b) := by rw [hb2.cell (p := ⟨w.heap.size, 2 + j * 2, none⟩) hz]; exact hc2
      have HB2 := Lib.hid hbk2; clear hbk2 hc1 hc2 hc3 HV
      cases a <;> cases b <;> cases e
      all_goals
        have HK := Lib.hid hk; clear hk
        go_wp2
        first
        | (go_ret
           exact ⟨by rw [cellsOk_not p j hlt c HC.out HK.out]; rfl, hB.trans (hb2.mono hB.size)⟩)
        | (go_roundw
           case rel => exact ⟨j + 1, by omega, by go_num, cellsOk_step p j hlt c HC.out HA.out HK.out, HB2.out, hB.trans (hb2.mono hB.size)⟩
           case measure => simp [intOf]; omega)
    · have hdec : decide ((j : Int) < 16) = false := by simp; omega
      obtain rfl : j = 16 := by omega
      go_wp2
      go_ret
      exact ⟨by rw [cellsOk_all p HA.out]; rfl, hB⟩
/-- A page lies in a block of its own. -/
def PgAt (w : World) (g : Nat) (p : Page) : Prop := w.heap[g]? = some (.cells (pageC p) 59 (0, 0))
theorem PgAt.out {w : World} {g : Nat} {p : Page} (h : PgAt w g p) : w.heap[g]? = some (.cells (pageC p) 59 (0, 0)) := h
theorem PgAt.new (w : World) (p : Page) : PgAt (w.alloc (.cells (pageC p) 59)) w.heap.size p := heap_alloc_new w _
theorem PgAt.below {w w' : World} {g B : Nat} {p : Page} (h : PgAt w g p) (hb : Below B w w') (hg : g < B) : PgAt w' g p := (hb.block g hg).trans h
theorem PgAt.lt {w : World} {g : Nat} {p : Page} (h : PgAt w g p) : g < w.heap.size := heap_lt h
theorem PgAt.lsn {w : World} {g : Nat} {p : Page} (h : PgAt w g p) : w.cell? ⟨g, 1, none⟩ = some (.int .i64 p.lsn) := by rw [heap_cell h, pageC_1]
theorem PgAt.id {w : World} {g : Nat} {p : Page} (h : PgAt w g p) : w.cell? ⟨g, 0, none⟩ = some (.int .i64 p.id) := by rw [heap_cell h, pageC_0]
theorem PgAt.alloc {w : World} {g : Nat} {p : Page} (h : PgAt w g p) (o : Obj) : PgAt (w.alloc o) g p := (Below.heap_alloc _ _ _ h.lt).trans h
theorem page_size : ∀ p : Page, (Try.prog.info? 59).map (·.size) = some (pageC p).size := fun p => by rw [pageC_size]; kernel_rfl

/-- The error of a page that has been told. -/
theorem check02_calls (p : Page) (w : World) : Calls Try.prog 80 #[.agg (pageC p)] w fun e w' => e = .returned (.int .i64 (pageErr p)) ∧ Below w.heap.size w w' := by
  unfold pageErr
  have HN := Lib.hid (fun W => numbers_calls p W)
  have HV := Lib.hid (fun W => cells02_calls p W)
  obtain ⟨a, hca⟩ : ∃ a, placed p = a := ⟨_, rfl⟩
  obtain ⟨b, hcb⟩ : ∃ b, cellsOk p = b := ⟨_, rfl⟩
  have HP := PgAt.new w p
  have HB := (Below.refl w.heap.size w).alloc (Nat.le_refl _) (.cells (pageC p) 59)
  rw [hca] at HN ⊢
  rw [hcb] at HV ⊢
  cases a <;> cases b
  all_goals
    go_enter Try.func80, Try.ntmps80
    go_wp2_with (refine wpList_load_row rfl 59 (.tmp 1) rfl w.heap.size rfl _ _ _ _ HP.out Try.underlying59 rfl (page_size p) ?_)
    refine (HN.out _).mono ?_
    rintro e w2 ⟨rfl, hb2⟩
    have HP2 := HP.below hb2 HP.lt
    go_wp2_with (refine wpList_load_row rfl 59 (.tmp 1) rfl w.heap.size rfl _ _ _ _ HP2.out Try.underlying59 rfl (page_size p) ?_)
    first
    | (go_ret
       exact ⟨rfl, HB.trans (hb2.mono (by simp))⟩)
    | (refine (HV.out _).mono ?_
       rintro e w3 ⟨rfl, hb3⟩
       go_wp2
       go_ret
       exact ⟨rfl, (HB.trans (hb2.mono (by simp))).trans (hb3.mono (HB.trans (hb2.mono (by simp))).size)⟩)

theorem valid_calls (p : Page) (w : World) : Calls Try.prog 43 #[.agg (pageC p)] w fun e w' => e = .returned (.bool (pageOk p)) ∧ Below w.heap.size w w' := by
  unfold pageOk
  have HN := Lib.hid (fun W => placed_calls p W)
  have HV := Lib.hid (fun W => cells_calls p W)
  obtain ⟨a, hca⟩ : ∃ a, placed p = a := ⟨_, rfl⟩
  obtain ⟨b, hcb⟩ : ∃ b, cellsOk p = b := ⟨_, rfl⟩
  have HP := PgAt.new w p
  have HB := (Below.refl w.heap.size w).alloc (Nat.le_refl _) (.cells (pageC p) 59)
  rw [hca] at HN ⊢
  rw [hcb] at HV ⊢
  cases a
  · go_enter Try.func43, Try.ntmps43
    go_wp2_with (refine wpList_load_row rfl 59 (.tmp 1) rfl w.heap.size rfl _ _ _ _ HP.out Try.underlying59 rfl (page_size p) ?_)
    refine (HN.out _).mono ?_
    rintro e w2 ⟨rfl, hb2⟩
    go_wp2
    go_ret
    exact ⟨rfl, HB.trans (hb2.mono (by simp))⟩
  · go_enter Try.func43, Try.ntmps43
    go_wp2_with (refine wpList_load_row rfl 59 (.tmp 1) rfl w.heap.size rfl _ _ _ _ HP.out Try.underlying59 rfl (page_size p) ?_)
    refine (HN.out _).mono ?_
    rintro e w2 ⟨rfl, hb2⟩
    have HP2 := HP.below hb2 HP.lt
    go_wp2_with (refine wpList_load_row_g rfl 59 (.tmp 1) rfl w.heap.size rfl _ _ _ _ HP2.out Try.underlying59 rfl (page_size p) ?_)
    refine (HV.out _).mono ?_
    rintro e w3 ⟨rfl, hb3⟩
    go_wp2
    go_ret
    exact ⟨by simp, (HB.trans (hb2.mono (by simp))).trans (hb3.mono (HB.trans (hb2.mono (by simp))).size)⟩

theorem valid02_calls (p : Page) (w : World) : Calls Try.prog 38 #[.agg (pageC p)] w fun e w' => e = .returned (.bool (pageOk p)) ∧ Below w.heap.size w w' := by
  unfold pageOk
  have HN := Lib.hid (fun W => numbers_calls p W)
  have HV := Lib.hid (fun W => cells02_calls p W)
  obtain ⟨a, hca⟩ : ∃ a, placed p = a := ⟨_, rfl⟩
  obtain ⟨b, hcb⟩ : ∃ b, cellsOk p = b := ⟨_, rfl⟩
  have HP := PgAt.new w p
  have HB := (Below.refl w.heap.size w).alloc (Nat.le_refl _) (.cells (pageC p) 59)
  rw [hca] at HN ⊢
  rw [hcb] at HV ⊢
  cases a
  · go_enter Try.func38, Try.ntmps38
    go_wp2_with (refine wpList_load_row rfl 59 (.tmp 1) rfl w.heap.size rfl _ _ _ _ HP.out Try.underlying59 rfl (page_size p) ?_)
    refine (HN.out _).mono ?_
    rintro e w2 ⟨rfl, hb2⟩
    go_wp2
    go_ret
    exact ⟨rfl, HB.trans (hb2.mono (by simp))⟩
  · go_enter Try.func38, Try.ntmps38
    go_wp2_with (refine wpList_load_row rfl 59 (.tmp 1) rfl w.heap.size rfl _ _ _ _ HP.out Try.underlying59 rfl (page_size p) ?_)
    refine (HN.out _).mono ?_
    rintro e w2 ⟨rfl, hb2⟩
    have HP2 := HP.below hb2 HP.lt
    go_wp2_with (refine wpList_load_row_g rfl 59 (.tmp 1) rfl w.heap.size rfl _ _ _ _ HP2.out Try.underlying59 rfl (page_size p) ?_)
    refine (HV.out _).mono ?_
    rintro e w3 ⟨rfl, hb3⟩
    go_wp2
    go_ret
    exact ⟨by simp, (HB.trans (hb2.mono (by simp))).trans (hb3.mono (HB.trans (hb2.mono (by simp))).size)⟩
end Go.Proofs.Ytldkgmodmpnclaa
