/- More steps in a region that draws its order: what is held may grow on the way; new blocks, stores and composite literals under names of their own. -/
import Derived.Test.YtldkgmodmpnclaaHeld
import Derived.Test.YtldkgmodmpnclaaLits
namespace Go.Proofs.Ytldkgmodmpnclaa
open Go.RowKit Go.Proofs
set_option linter.unusedVariables false
namespace Held
section
variable {P : Program} {md : Region.Mode} {ops : Array Oper} {Q : Exit → Act → World → Prop} {S S' : World → Prop}
/-- What is held may grow. -/
theorem more (hS : ∀ w, S' w → S w) : ∀ (fuel : Nat) (listed : Array Bool) (a : Act) (w : World), wpAnyH P md ops Q S' fuel listed a w → wpAnyH P md ops Q S fuel listed a w
  | 0, _, _, _, h => h
  | fuel + 1, _, _, _, h => ⟨h.1, fun i hi => wpOp_mono (fun a' w' h' => ⟨hS _ h'.1, more hS fuel _ a' w' h'.2⟩) (h.2 i hi)⟩
/-- What is asked at the end may be said anew. -/
theorem ends {Q' : Exit → Act → World → Prop} (hQ : ∀ e a w, Q' e a w → Q e a w) (h : ∀ i a w K, wpOp P ops Q' i K a w → wpOp P ops Q i K a w) : ∀ (fuel : Nat) (listed : Array Bool) (a : Act) (w : World), wpAnyH P md ops Q' S fuel listed a w → wpAnyH P md ops Q S fuel listed a w
  | 0, _, _, _, h0 => ⟨h0.1, hQ _ _ _ h0.2⟩
  | fuel + 1, _, _, _, h0 => ⟨fun hr => hQ _ _ _ (h0.1 hr), fun i hi => h _ _ _ _ (wpOp_mono (fun a' w' h' => ⟨h'.1, ends hQ h fuel _ a' w' h'.2⟩) (h0.2 i hi))⟩
end
end Held
variable {P : Program}
/-- A new block, under a name. -/
theorem wp_alloc_new {o : Oper} {a : Act} {w : World} {K : Act → World → Prop} {Q : Exit → Act → World → Prop} (ty : TypeId) (ho : o.op = .alloc ty)
    (cs : Array Value) (hz : ∀ w, (zeroValue ty).run P w = .ok (.agg cs) w)
    (h : ∀ D w', w.heap.size ≤ D → w'.heap[D]? = some (.cells cs ty (0, 0)) → Below w.heap.size w w' → K (a.put o.dst (.pointer (some ⟨D, 0, none⟩))) w') : Oper.wp P o a w K Q := by
  unfold Oper.wp execOp
  simp only [ho, Instr.alloc, Sem.run_bind, hz, Result.andThen_ok, run_newVar, Sem.run_pure, Value.cells]
  exact h _ _ (Nat.le_refl _) (heap_alloc_new _ _) ((Below.refl _ _).alloc (Nat.le_refl _) _)
/-- A page stored whole. -/
theorem wp_store_page {o : Oper} {a : Act} {w : World} {K : Act → World → Prop} {Q : Exit → Act → World → Prop} (x y : Operand) (ho : o.op = .store 59 x y) (D : Nat) (p q : Page) (hx : a.eval x = .pointer (some ⟨D, 0, none⟩)) (hy : a.eval y = .agg (pageC p))
    (hq : PgAt w D q) (h : ∀ w', PgAt w' D p → (∀ B W, B ≤ D → Below B W w → Below B W w') → K (a.put o.dst undef) w') : Oper.wp Try.prog o a w K Q :=
  wp_store_row 59 x y ho D (pageC p) hx hy 59 (pageC q) hq (page_size _) (by simp only [pageC_size]) (pageC_oneCell _) (h _ hq.row (fun B W hB hb => below_setRow hb hB _))
theorem Kp.put {B D : Nat} {W w w' : World} (h : Kp B W w) (hD : B ≤ D) (hk : ∀ B W, B ≤ D → Below B W w → Below B W w') : Kp B W w' :=
  ⟨hk _ _ hD h.below, Nat.le_trans h.size (hk B w hD (Below.refl _ _)).size⟩
theorem conv_byte_at (w : World) (N : Nat) (x : Int) {fr : Nat × Nat} (h : w.heap[N]? = some (.cells #[.int .u8 x] 5 fr)) : (convert 22 9 (.slice (some ⟨N, 0, none⟩) 1 1)).run Try.prog w = .ok (.string ⟨#[UInt8.ofNat x.toNat]⟩) w := by
  have h := run_convert_bytes_arg (P := Try.prog) w 22 5 Try.underlying22 Try.underlying5 N 0 1 1 [x] rfl
    (fun i hi => by
      obtain rfl : i = 0 := by omega
      rw [heap_cell h]
      rfl) 9 Try.underlying9
  simpa [strOfNums] using h
theorem run_byte1 (w : World) (n : Int) : (Instr.buildSlice 22 1 #[(0, .int .u8 n)]).run Try.prog w = .ok (.slice (some ⟨w.heap.size, 0, none⟩) 1 1) (w.alloc (.cells #[.int .u8 n] 5)) := by
  have hz := Try.zeroValue5 w
  unfold Instr.buildSlice
  simp only [Sem.run_bind, run_underlying Try.underlying22 w, Result.andThen_ok, Sem.run_pure]
  go_simp
/-- One byte as a slice, under a name. -/
theorem wp_byte1 {o : Oper} {a : Act} {w : World} {K : Act → World → Prop} {Q : Exit → Act → World → Prop} (x : Operand) (ho : o.op = .buildSlice 22 1 #[(0, x)]) (n : Int) (hx : a.eval x = .int .u8 n)
    (h : ∀ N w', w.heap.size ≤ N → w'.heap[N]? = some (.cells #[.int .u8 n] 5 (0, 0)) → Below w.heap.size w w' → K (a.put o.dst (.slice (some ⟨N, 0, none⟩) 1 1)) w') : Oper.wp Try.prog o a w K Q := by
  have h' := h _ _ (Nat.le_refl _) (heap_alloc_new w (.cells #[.int .u8 n] 5)) ((Below.refl _ _).alloc (Nat.le_refl _) _)
  have he : ((#[(0, x)] : Array (Nat × Operand)).map fun (i, x) => (i, a.eval x)) = #[(0, .int .u8 n)] := by simp [hx]
  have hr := run_byte1 w n
  rw [← he] at hr
  unfold Oper.wp execOp
  simp only [ho, Sem.run_bind, hr, Result.andThen_ok, Sem.run_pure]
  exact h'
end Go.Proofs.Ytldkgmodmpnclaa
