/- What a law's walk keeps from step to step: what lay there before the call is as it was, and block g holds choices. -/
import Derived.Test.YtldkgmodmpnclaaDrawF
import Derived.Test.YtldkgmodmpnclaaPlainF
import Derived.Test.YtldkgmodmpnclaaArgs
import Derived.Test.YtldkgmodmpnclaaHeldB
namespace Go.Proofs.Ytldkgmodmpnclaa
open Go.RowKit Go.Proofs
set_option linter.unusedVariables false
theorem wpList_ne59 {ops : Array Oper} {rest : List Oper} {o : Oper} {a : Act} {w : World} {Q : Exit → Act → World → Prop} (hw : Region.wanted o (yielded ops a.tmps) = true) (x y : Operand) (ty : TypeId) (ho : o.op = .binOp .neq 59 x y ty)
    (p q : Page) (hx : a.eval x = .agg (pageC p)) (hy : a.eval y = .agg (pageC q)) (hp : PgWf p) (hq : PgWf q)
    (h : wpList Try.prog ops Q rest (a.put o.dst (.bool (!decide (p = q)))) w) : wpList Try.prog ops Q (o :: rest) a w :=
  wpList_step fun K hK => by
    rw [if_pos hw]
    unfold Oper.wp execOp
    simp only [ho, hx, hy, Sem.run_bind, run_eqGuard_agg _ _ _ _ _ _ _ guard59, Result.andThen_ok, run_ne59 p q hp hq, Sem.run_pure]
    exact hK _ _ h
/-! ### In a region that draws its order -/
/-- A page compared with itself. -/
theorem wpList_same59 {ops : Array Oper} {rest : List Oper} {o : Oper} {a : Act} {w : World} {Q : Exit → Act → World → Prop} (hw : Region.wanted o (yielded ops a.tmps) = true) (x y : Operand) (ty : TypeId) (ho : o.op = .binOp .neq 59 x y ty)
    (p : Page) (hx : a.eval x = .agg (pageC p)) (hy : a.eval y = .agg (pageC p)) (hp : PgWf p)
    (h : wpList Try.prog ops Q rest (a.put o.dst (.bool false)) w) : wpList Try.prog ops Q (o :: rest) a w := by
  refine wpList_ne59 hw x y ty ho p p hx hy hp hp ?_
  rw [decide_eq_true (rfl : p = p)]
  exact h
theorem wpList_self59 {ops : Array Oper} {rest : List Oper} {o : Oper} {a : Act} {w : World} {Q : Exit → Act → World → Prop} (hw : Region.wanted o (yielded ops a.tmps) = true) (x y : Operand) (ty : TypeId) (ho : o.op = .binOp .eql 59 x y ty)
    (p : Page) (hx : a.eval x = .agg (pageC p)) (hy : a.eval y = .agg (pageC p)) (hp : PgWf p)
    (h : wpList Try.prog ops Q rest (a.put o.dst (.bool true)) w) : wpList Try.prog ops Q (o :: rest) a w := by
  refine wpList_eq59 hw x y ty ho p p hx hy hp hp ?_
  rw [decide_eq_true (rfl : p = p)]
  exact h
structure Fr (B g : Nat) (w0 w : World) : Prop where
  k : Kp B w0 w
  c : Cs w g
  bg : B ≤ g
namespace Fr
variable {B g : Nat} {w0 w w' : World}
theorem kb (h : Fr B g w0 w) (hk : KB g w w') (hc : Cs w' g) : Fr B g w0 w' :=
  ⟨⟨h.k.below.trans (hk.below h.k.size h.bg), Nat.le_trans h.k.size hk.size⟩, hc, h.bg⟩
theorem step (h : Fr B g w0 w) (hb : Below w.heap.size w w') : Fr B g w0 w' := ⟨h.k.step hb, h.c.keep hb, h.bg⟩
theorem alloc (h : Fr B g w0 w) (o : Obj) : Fr B g w0 (w.alloc o) := h.step ((Below.refl _ _).alloc (Nat.le_refl _) o)
theorem drew (h : Fr B g w0 w) : Fr B g w0 w.drew := h.step (Below.refl _ _).drew
theorem row (h : Fr B g w0 w) {D : Nat} (hD : g < D) (cs : Array Value) : Fr B g w0 (w.setRow D cs) :=
  ⟨⟨below_setRow h.k.below (Nat.le_of_lt (Nat.lt_of_le_of_lt h.bg hD)) cs, by simpa [World.setRow] using h.k.size⟩, h.c.setRowB hD cs, h.bg⟩
theorem lt (h : Fr B g w0 w) : g < w.heap.size := h.c.lt
theorem out (h : Fr B g w0 w) : Below B w0 w := h.k.below
theorem of (hb : Below B w0 w) (hc : Cs w g) (hg : B ≤ g) : Fr B g w0 w := ⟨⟨hb, Nat.le_of_lt (Nat.lt_of_le_of_lt hg hc.lt)⟩, hc, hg⟩
end Fr
end Go.Proofs.Ytldkgmodmpnclaa
