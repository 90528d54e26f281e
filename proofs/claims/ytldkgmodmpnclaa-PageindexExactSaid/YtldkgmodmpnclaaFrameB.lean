/- What a law's walk keeps, with a list of blocks that hold what is told of them. -/
import Derived.Test.YtldkgmodmpnclaaFrame
namespace Go.Proofs.Ytldkgmodmpnclaa
open Go.RowKit Go.Proofs
set_option linter.unusedVariables false
structure Fx (B g : Nat) (L : List (Nat × Obj)) (w0 w : World) : Prop where
  f : Fr B g w0 w
  m : ∀ x ∈ L, x.1 ≠ g ∧ w.heap[x.1]? = some x.2
namespace Fx
variable {B g : Nat} {L : List (Nat × Obj)} {w0 w w' : World}
theorem of (h : Fr B g w0 w) : Fx B g [] w0 w := ⟨h, fun x hx => by cases hx⟩
theorem c (h : Fx B g L w0 w) : Cs w g := h.f.c
theorem out (h : Fx B g L w0 w) : Below B w0 w := h.f.out
theorem kb (h : Fx B g L w0 w) (hk : KB g w w') (hc : Cs w' g) : Fx B g L w0 w' :=
  ⟨h.f.kb hk hc, fun x hx => ⟨(h.m x hx).1, (hk.block x.1 (heap_lt (h.m x hx).2) (h.m x hx).1).trans (h.m x hx).2⟩⟩
theorem step (h : Fx B g L w0 w) (hb : Below w.heap.size w w') : Fx B g L w0 w' :=
  ⟨h.f.step hb, fun x hx => ⟨(h.m x hx).1, (hb.block x.1 (heap_lt (h.m x hx).2)).trans (h.m x hx).2⟩⟩
theorem alloc (h : Fx B g L w0 w) (o : Obj) : Fx B g L w0 (w.alloc o) := h.step ((Below.refl _ _).alloc (Nat.le_refl _) o)
theorem drew (h : Fx B g L w0 w) : Fx B g L w0 w.drew := h.step (Below.refl _ _).drew
theorem add (h : Fx B g L w0 w) {b : Nat} {o : Obj} (hb : w.heap[b]? = some o) (hg : b ≠ g) : Fx B g ((b, o) :: L) w0 w :=
  ⟨h.f, fun x hx => by
    rcases List.mem_cons.1 hx with rfl | hx
    · exact ⟨hg, hb⟩
    · exact h.m x hx⟩
theorem new (h : Fx B g L w0 w) (cs : Array Value) (t : TypeId) : Fx B g ((w.heap.size, .cells cs t (0, 0)) :: L) w0 (w.alloc (.cells cs t (0, 0))) :=
  (h.alloc _).add (heap_alloc_new w _) (Nat.ne_of_gt h.f.lt)
theorem get (h : Fx B g L w0 w) {b : Nat} {o : Obj} (hx : (b, o) ∈ L) : w.heap[b]? = some o := (h.m _ hx).2
theorem sub (h : Fx B g L w0 w) {L' : List (Nat × Obj)} (hs : ∀ x ∈ L', x ∈ L) : Fx B g L' w0 w := ⟨h.f, fun x hx => h.m x (hs x hx)⟩
theorem row {D : Nat} {old : Array Value} {t : TypeId} (h : Fx B g ((D, .cells old t (0, 0)) :: L) w0 w) (hg : g < D) (hne : ∀ x ∈ L, x.1 ≠ D) (cs : Array Value) : Fx B g ((D, .cells cs t (0, 0)) :: L) w0 (w.setRow D cs) :=
  ⟨h.f.row hg cs, fun x hx => by
    rcases List.mem_cons.1 hx with rfl | hx
    · exact ⟨Nat.ne_of_gt hg, heap_setRow (h.get (List.mem_cons_self ..))⟩
    · exact ⟨(h.m x (List.mem_cons_of_mem _ hx)).1, (setRow_other w D x.1 cs (hne x hx)).trans (h.m x (List.mem_cons_of_mem _ hx)).2⟩⟩
theorem hd {b : Nat} {o : Obj} (h : Fx B g ((b, o) :: L) w0 w) : w.heap[b]? = some o := h.get (List.mem_cons_self ..)
theorem hd2 {b c : Nat} {o o' : Obj} (h : Fx B g ((c, o') :: (b, o) :: L) w0 w) : w.heap[b]? = some o := h.get (by simp)
theorem tl {y : Nat × Obj} (h : Fx B g (y :: L) w0 w) : Fx B g L w0 w := h.sub fun x hx => List.mem_cons_of_mem _ hx
theorem swap {y z : Nat × Obj} (h : Fx B g (y :: z :: L) w0 w) : Fx B g (z :: y :: L) w0 w := h.sub fun x hx => by
  rcases List.mem_cons.1 hx with rfl | hx
  · simp
  · rcases List.mem_cons.1 hx with rfl | hx
    · simp
    · simp [hx]
end Fx
/-- The cells of a page's block. -/
abbrev pgO (p : Page) : Obj := .cells (pageC p) 59 (0, 0)
/-- The cells of strings. -/
def strC (l : List ByteArray) : Array Value := (l.map Value.string).toArray
abbrev strO (l : List ByteArray) : Obj := .cells (strC l) 9 (0, 0)
theorem str_cell {w : World} {b : Nat} {l : List ByteArray} (h : w.heap[b]? = some (strO l)) (j : Nat) (x : ByteArray) (hx : l[j]? = some x) : w.cell? ⟨b, j, none⟩ = some (.string x) := by
  rw [heap_cell h]
  simp [strC, hx]
def intC (l : List Int) : Array Value := (l.map (Value.int .i64)).toArray
abbrev intO (l : List Int) : Obj := .cells (intC l) 3 (0, 0)
theorem int_cell {w : World} {b : Nat} {l : List Int} (h : w.heap[b]? = some (intO l)) (j : Nat) (x : Int) (hx : l[j]? = some x) : w.cell? ⟨b, j, none⟩ = some (.int .i64 x) := by
  rw [heap_cell h]
  simp [intC, hx]
end Go.Proofs.Ytldkgmodmpnclaa
