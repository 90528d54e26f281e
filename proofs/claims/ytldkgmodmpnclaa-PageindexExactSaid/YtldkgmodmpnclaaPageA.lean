import Derived.Test.YtldkgmodmpnclaaPlain
import Derived.Test.YtldkgmodmpnclaaCodec
namespace Go.Proofs.Ytldkgmodmpnclaa
open Go.RowKit
set_option linter.unusedVariables false
set_option linter.unusedSimpArgs false
/-! The walks of small functions on pages. -/
theorem range_page (w : World) (g : Nat) (p : Page) (h : w.heap[g]? = some (.cells (pageC p) 59 (0, 0))) : w.rangeAt g 2 (cellsV p.cells) := by
  intro j v hj
  rw [heap_cell h]
  show ((Value.int IntKind.i64 p.id :: .int .i64 p.lsn :: cellsV p.cells).toArray)[2 + j]? = _
  rw [List.getElem?_toArray, show 2 + j = j + 1 + 1 by omega]
  exact hj
theorem cellsV_extract (l : List Cell) (j : Nat) (h : j < l.length) : (cellsV l).toArray.extract (j * 2) (j * 2 + 2) = #[.bool (l.getD j Cell.none).set, .string (l.getD j Cell.none).data] := by
  have h2 := cellsV_set l j h
  have hl := cellsV_length l
  apply Array.ext_getElem?
  intro i
  rw [Array.getElem?_extract]
  match i with
  | 0 => simp only [Nat.add_zero, List.getElem?_toArray]; rw [if_pos (by simp; omega), show j * 2 = 2 * j by omega, h2.1]; rfl
  | 1 => simp only [List.getElem?_toArray]; rw [if_pos (by simp; omega), show j * 2 + 1 = 2 * j + 1 by omega, h2.2]; rfl
  | i + 2 => rw [if_neg (by simp; omega)]; rfl
theorem run_index_cells (w : World) (l : List Cell) (j : Nat) (hl : l.length = 16) (h : j < 16) :
    (Instr.index 57 (.agg (cellsV l).toArray) (.int .i64 (j : Int))).run Try.prog w = .ok (.agg #[.bool (l.getD j Cell.none).set, .string (l.getD j Cell.none).data]) w := by
  have hx := cellsV_extract l j (by omega)
  have hj : (0 : Int) ≤ (j : Int) ∧ (j : Int) < ((16 : Nat) : Int) := ⟨by omega, by omega⟩
  have hu := Try.underlying57
  have ha := Try.isAgg27
  have hs := Try.sizeOf27
  simp only [Instr.index, asIntOf, Sem.run_bind, Sem.run_pure, Result.andThen_ok, run_underlying hu, part]
  rw [if_pos hj]
  simp only [Sem.run_bind, hs, ha, Result.andThen_ok, if_true, Sem.run_pure, Int.toNat_natCast, hx]
theorem cellsOk_step (p : Page) (j : Nat) (h : j < 16) (c : Cell) (hc : p.cells.getD j Cell.none = c) (ha : (p.cells.take j).all (cellOk p.lsn) = true) (hk : cellOk p.lsn c = true) : (p.cells.take (j + 1)).all (cellOk p.lsn) = true := by
  have hj : j < p.cells.length := by rw [p.len]; exact h
  rw [List.take_succ_eq_append_getElem hj, List.all_append, ha]
  have : p.cells[j] = c := by rw [← hc, List.getD_eq_getElem?_getD, List.getElem?_eq_getElem hj]; rfl
  simp [this, hk]
theorem cellsOk_not (p : Page) (j : Nat) (h : j < 16) (c : Cell) (hc : p.cells.getD j Cell.none = c) (hk : cellOk p.lsn c = false) : cellsOk p = false := by
  have hj : j < p.cells.length := by rw [p.len]; exact h
  have : p.cells[j] = c := by rw [← hc, List.getD_eq_getElem?_getD, List.getElem?_eq_getElem hj]; rfl
  unfold cellsOk
  rw [List.all_eq_false]
  exact ⟨c, this ▸ List.getElem_mem hj, by simp [hk]⟩
theorem cellsOk_all (p : Page) (ha : (p.cells.take 16).all (cellOk p.lsn) = true) : cellsOk p = true := by
  rwa [List.take_of_length_le (by rw [p.len]; exact Nat.le_refl _)] at ha
theorem cellOk_eq (n : Int) (c : Cell) (a b d e : Bool) (h1 : decide (12 < (c.data.size : Int)) = a) (h2 : c.set = b) (h3 : c.data.toList.isEmpty = d) (h4 : (n == 0) = e) : cellOk n c = (!a && (b || d) && !(b && e)) := by
  subst h1 h2 h3 h4
  unfold cellOk cellFits
  have : decide ((c.data.size : Int) ≤ 12) = !decide (12 < (c.data.size : Int)) := by
    by_cases h : 12 < (c.data.size : Int)
    · simp [h]
    · simp [h]; omega
  rw [this]
  have : decide (n = 0) = (n == 0) := rfl
  rw [this]
theorem named_calls (n : Int) (w : World) : Calls Try.prog 86 #[.int .i64 n] w fun e w' => e = .returned (.bool (named n)) ∧ w = w' := by
  unfold named
  cases h : decide (0 ≤ n)
  all_goals
    go_enter Try.func86, Try.ntmps86
    go_wp2
    go_ret
    exact ⟨by simp, rfl⟩

theorem placed_calls (p : Page) (w : World) : Calls Try.prog 73 #[.agg (pageC p)] w fun e w' => e = .returned (.bool (placed p)) ∧ Below w.heap.size w w' := by
  have h0 := pageC_0 p
  have h1 := pageC_1 p
  unfold placed lsnOk
  cases h : named p.id <;> cases h2 : decide (0 ≤ p.lsn)
  all_goals
    go_enter Try.func73, Try.ntmps73
    go_wp2_with (go_at_call 86; refine (named_calls _ _).mono ?_; rintro e w' ⟨rfl, rfl⟩)
    go_ret
    exact ⟨by simp, (Below.refl _ _).alloc (Nat.le_refl _) _⟩

theorem numbers_calls (p : Page) (w : World) : Calls Try.prog 78 #[.agg (pageC p)] w fun e w' => e = .returned (.bool (placed p)) ∧ Below w.heap.size w w' := by
  have h0 := pageC_0 p
  have h1 := pageC_1 p
  unfold placed lsnOk named
  cases h : decide (0 ≤ p.id) <;> cases h3 : decide (p.id < 64) <;> cases h2 : decide (0 ≤ p.lsn)
  all_goals
    go_enter Try.func78, Try.ntmps78
    go_wp2
    go_ret
    exact ⟨by simp, (Below.refl _ _).alloc (Nat.le_refl _) _⟩

theorem validCell02_calls (c : Cell) (w : World) : Calls Try.prog 101 #[.agg #[.bool c.set, .string c.data]] w fun e w' => e = .returned (.bool (cellFits c)) ∧ Below w.heap.size w w' := by
  unfold cellFits
  cases h : decide ((c.data.size : Int) ≤ 12) <;> cases h2 : c.set
  all_goals
    go_enter Try.func101, Try.ntmps101
    go_wp2
    go_ret
    exact ⟨by simp, (Below.refl _ _).alloc (Nat.le_refl _) _⟩
set_option maxHeartbeats 1000000 in
set_option maxRecDepth 100000 in
theorem cells_calls (p : Page) (w : World) : Calls Try.prog 74 #[.agg (pageC p)] w fun e w' => e = .returned (.bool (cellsOk p)) ∧ Below w.heap.size w w' := by
  have hr := range_page (w.alloc (.cells (pageC p) 59)) w.heap.size p (heap_alloc_new w _)
  have HR := Lib.hid hr; clear hr
  go_enter Try.func74, Try.ntmps74
  go_wp2_with (refine wpList_load_mid rfl 57 (.tmp 5) rfl w.heap.size 2 rfl _ _ HR.out Try.underlying57 rfl (by rw [cellsV_length, p.len]; kernel_rfl) ?_)
  go_loopw [4, 7] (fun _ i wr => ∃ j : Nat, j ≤ 16 ∧ i = .int .i64 j ∧ (p.cells.take j).all (cellOk p.lsn) = true ∧ wr.heap[w.heap.size]? = some (.cells (pageC p) 59 (0, 0)) ∧ Below w.heap.size w wr) (fun _ i _ => 16 - (intOf i).toNat)
  case atStart => exact ⟨0, by omega, rfl, rfl, heap_alloc_new w _, (Below.refl _ _).alloc (Nat.le_refl _) _⟩
  case round =>
    clear HR
    obtain ⟨j, hj, rfl, ha, hb, hB⟩ := hrel
    have HA := Lib.hid ha; have HBk := Lib.hid hb
    have hz := heap_lt hb
    clear ha hb
    by_cases hlt : j < 16
    · have hdec : decide ((j : Int) < 16) = true := by simp; omega
      have hix := fun W => run_index_cells W p.cells j p.len hlt
      have hc1 : wr.cell? ⟨w.heap.size, 1, none⟩ = some (.int .i64 p.lsn) := by rw [heap_cell HBk.out, pageC_1]
      obtain ⟨c, hc⟩ : ∃ c, p.cells.getD j Cell.none = c := ⟨_, rfl⟩
      rw [hc] at hix
      have HC := Lib.hid hc; clear hc
      obtain ⟨b, hcs⟩ : ∃ b, c.set = b := ⟨_, rfl⟩
      obtain ⟨d, hcd⟩ : ∃ d, c.data.toList.isEmpty = d := ⟨_, rfl⟩
      obtain ⟨a, hca⟩ : ∃ a, decide (12 < (c.data.size : Int)) = a := ⟨_, rfl⟩
      obtain ⟨e, hce⟩ : ∃ e, (p.lsn == 0) = e := ⟨_, rfl⟩
      have hk := cellOk_eq p.lsn c a b d e hca hcs hcd hce
      cases a <;> cases b <;> cases d <;> cases e
      all_goals
        have HK := Lib.hid hk; clear hk
        go_wp2
        first
        | (go_ret
           exact ⟨by rw [cellsOk_not p j hlt c HC.out HK.out]; rfl, hB.alloc hB.size _⟩)
        | (go_roundw
           case rel => exact ⟨j + 1, by omega, by go_num, cellsOk_step p j hlt c HC.out HA.out HK.out, by rw [Below.heap_alloc _ _ _ hz]; exact HBk.out, hB.alloc hB.size _⟩
           case measure => simp [intOf]; omega)
    · have hdec : decide ((j : Int) < 16) = false := by simp; omega
      obtain rfl : j = 16 := by omega
      go_wp2
      go_ret
      exact ⟨by rw [cellsOk_all p HA.out]; rfl, hB⟩
end Go.Proofs.Ytldkgmodmpnclaa
