/- An index that came in as an argument: a slice of rows, each with three numbers. -/
import Derived.Test.YtldkgmodmpnclaaIxA
import Derived.OpenShut
import Derived.WideShapes
namespace Go.Proofs.Ytldkgmodmpnclaa
open Go.RowKit Go.Proofs Go.ChangeShapes Go.WideShapes
set_option linter.unusedVariables false
set_option linter.unusedSimpArgs false
/-- The rows of an index, in a block that was there before. -/
def Ri (w : World) (a : Option Addr) (n c : Nat) (l : List Row3) : Prop := ∀ g, w.heap.size ≤ g → RwAt w g a n c l
theorem Ri.keep {w w' : World} {a : Option Addr} {n c g : Nat} {l : List Row3} (h : Ri w a n c l) (hb : Below w.heap.size w w') (hg : w.heap.size ≤ g) : RwAt w' g a n c l := (h g hg).below hb
section
variable {H : Type} {enc : TypeId × Value → H} {w : World} {base : Nat} {sp : Nat → Bool} {held : Bool}
set_option maxRecDepth 100000 in
theorem open_row3 {fuel : Nat} {cs : List Value} {y : DataW H × List MemPlace} (h : DataW.trod enc Try.prog w base sp held fuel 84 cs = some y) : ∃ r : Row3, cs = r.cells := by
  obtain ⟨xs, n, _, rfl, hl, hlen, hf⟩ := DataW.trod_struct Try.underlying84 h
  have hc : cs.length = 3 := hl.trans (by kernel_rfl)
  have hx : xs.length = 3 := hlen
  match cs, hc, xs, hx with
  | [c0, c1, c2], _, [x0, x1, x2], _ =>
    have h0 := hf 0 _ rfl
    have h1 := hf 1 _ rfl
    have h2 := hf 2 _ rfl
    have K : Try.prog.cellsOf 3 = 1 := by kernel_rfl
    simp [K] at h0 h1 h2
    obtain ⟨n0, e0, _⟩ := DataW.trod_int Try.underlying3 h0
    obtain ⟨n1, e1, _⟩ := DataW.trod_int Try.underlying3 h1
    obtain ⟨n2, e2, _⟩ := DataW.trod_int Try.underlying3 h2
    simp at e0 e1 e2
    exact ⟨⟨n0, n1, n2⟩, by rw [e0, e1, e2]; rfl⟩
set_option maxRecDepth 100000 in
theorem open_index {r : Reach} {b0 : Nat} {v : Value} {d : DataW H} {ps : List MemPlace} (hval : Value.okWide Try.prog w r b0 25 v) (hd : DataW.Trod enc Try.prog w base sp held 25 v d ps) : ∃ a n c l, v = .agg #[.slice a n c] ∧ Ri w a n c l := by
  obtain ⟨cs, rfl, hcs⟩ := okWide_struct Try.underlying25 hval
  obtain ⟨fuel, hf⟩ := hd
  obtain ⟨y0, m, _, hl, h0⟩ := trod_struct1 Try.underlying25 hf
  have hc : cs.toList.length = 1 := hl.trans (by kernel_rfl)
  obtain ⟨x, hx⟩ : ∃ x, cs = #[x] := by
    obtain ⟨l⟩ := cs
    match l, hc with
    | [x], _ => exact ⟨x, rfl⟩
  subst hx
  have h1 : DataW.trod enc Try.prog w base sp held m 23 [x] = some y0 := h0
  rcases DataW.trod_slice Try.underlying23 h1 with ⟨h2, _⟩ | ⟨a, len, cap, elems, rest, k, _, h2, _, hb, hlc, hm, hlen, hel, _, _⟩
  · simp at h2
    subst h2
    exact ⟨none, 0, 0, [], rfl, fun g _ => RwAt.nil _ _⟩
  · simp at h2
    subst h2
    have hrow : ∀ i, i < len → ∃ r : Row3, w.cells? base (a.add (i * 3)) 3 = some r.cells := fun i hi => by
      have := hel i hi
      rw [show Try.prog.cellsOf 84 = 3 by kernel_rfl, List.getElem?_eq_getElem (by omega)] at this
      obtain ⟨cs', hcs', hy⟩ := Option.bind_eq_some_iff.1 this
      obtain ⟨r, rfl⟩ := open_row3 hy
      exact ⟨r, hcs'⟩
    obtain ⟨f, hf⟩ : ∃ f : Nat → Row3, ∀ i, i < len → w.cells? base (a.add (i * 3)) 3 = some (f i).cells :=
      ⟨fun i => if hi : i < len then (hrow i hi).choose else Row3.mk 0 0 0, fun i hi => by simp only [dif_pos hi]; exact (hrow i hi).choose_spec⟩
    refine ⟨some a, len, cap, (List.range len).map f, rfl, fun g hg => ⟨by simp, hlc, by simpa [maxLen] using hm, ?_⟩⟩
    by_cases hn : len = 0
    · exact .inl hn
    · refine .inr ?_
      have hc0 := (World.cells?_some (hf 0 (by omega))).2.2 0 (by omega)
      obtain ⟨b, off, spot⟩ := a
      have hsp : spot = none := by
        have : w.cell? ⟨b, off, spot⟩ = some (.int .i64 (f 0).lsn) := by simpa [Addr.add, Row3.cells] using hc0
        exact World.cell?_spot this
      subst hsp
      have hget : ∀ i, i < len → ∀ k, k < 3 → w.cell? ⟨b, off + i * 3 + k, none⟩ = (f i).cells[k]? := fun i hi k hk => by
        have := (World.cells?_some (hf i hi)).2.2 k hk
        rw [add_plain, add_plain] at this
        exact this
      have hbl : b < w.heap.size := World.block_lt_of_cell? w _ (by
        have := hget 0 (by omega) 0 (by omega)
        rw [this]
        rfl)
      refine ⟨b, off, rfl, by omega, fun i r hi => ?_⟩
      rw [List.getElem?_map] at hi
      obtain ⟨j, hj, rfl⟩ := Option.map_eq_some_iff.1 hi
      obtain ⟨hil, hie⟩ := List.getElem?_eq_some_iff.1 hj
      rw [List.length_range] at hil
      rw [List.getElem_range] at hie
      subst hie
      exact ⟨hget i hil 0 (by omega), hget i hil 1 (by omega), hget i hil 2 (by omega)⟩
end
end Go.Proofs.Ytldkgmodmpnclaa
