/- An entry that came in as an argument. -/
import Derived.Test.YtldkgmodmpnclaaEnA
import Derived.Test.YtldkgmodmpnclaaArgP
import Derived.WideShapes
namespace Go.Proofs.Ytldkgmodmpnclaa
open Go.RowKit Go.Proofs
set_option linter.unusedVariables false
set_option linter.unusedSimpArgs false
def entT : List TypeId := [3, 3, 3, 3, 3, 3, 3, 3, 4, 9, 4, 9, 9]
theorem cellTypes31 : Try.prog.cellTypes Try.prog.depth 31 = some entT := by kernel_rfl
theorem wf_has {n : Int} (h : IntKind.i64.has n) : wf64 n := by
  simp only [IntKind.has] at h
  simp [wf64, Lit.wf]
  exact h
set_option maxRecDepth 100000 in
theorem open_entry {W : World} {r : Reach} {base : Nat} {v : Value} (h : Value.okWide Try.prog W r base 31 v) : ∃ e : Ent, v = .agg e.cs ∧ EntWf e := by
  simp only [Value.okWide, Try.underlying31] at h
  obtain ⟨cs, rfl, hsz, ts, hts, _, hall⟩ := h
  rw [cellsOf31] at hsz
  rw [cellTypes31] at hts
  have hget : ∀ i, (hi : i < 13) → cs[i]? = some (cs[i]'(by omega)) := fun i hi => Array.getElem?_eq_getElem (by omega)
  obtain rfl := Option.some.inj hts
  have hi : ∀ i, i < 8 → ∃ n, cs[i]? = some (.int .i64 n) ∧ wf64 n := fun i hi => by
    obtain ⟨u, hu, hk⟩ := hall i _ (hget i (by omega))
    obtain rfl : 3 = u := by
      rcases (show i = 0 ∨ i = 1 ∨ i = 2 ∨ i = 3 ∨ i = 4 ∨ i = 5 ∨ i = 6 ∨ i = 7 by omega) with rfl | rfl | rfl | rfl | rfl | rfl | rfl | rfl <;> exact Option.some.inj hu
    obtain ⟨n, e, hn⟩ := cellW_int Try.underlying3 hk
    exact ⟨n, by rw [← e]; exact hget i (by omega), wf_has hn⟩
  have hb : ∀ i, i = 8 ∨ i = 10 → ∃ b, cs[i]? = some (.bool b) := fun i hi => by
    obtain ⟨u, hu, hk⟩ := hall i _ (hget i (by omega))
    obtain rfl : 4 = u := by
      rcases hi with rfl | rfl <;> exact Option.some.inj hu
    obtain ⟨b, e⟩ := cellW_bool Try.underlying4 hk
    exact ⟨b, by rw [← e]; exact hget i (by omega)⟩
  have hs : ∀ i, i = 9 ∨ i = 11 ∨ i = 12 → ∃ s, cs[i]? = some (.string s) ∧ s.size ≤ maxLen := fun i hi => by
    obtain ⟨u, hu, hk⟩ := hall i _ (hget i (by omega))
    obtain rfl : 9 = u := by
      rcases hi with rfl | rfl | rfl <;> exact Option.some.inj hu
    obtain ⟨s, e, hl⟩ := cellW_string Try.underlying9 hk
    refine ⟨s, by rw [← e]; exact hget i (by omega), ?_⟩
    have e1 : IntKind.i64.max = 9223372036854775807 := rfl
    rw [e1] at hl
    simp only [maxLen]
    omega
  obtain ⟨n0, e0, w0⟩ := hi 0 (by omega)
  obtain ⟨n1, e1, w1⟩ := hi 1 (by omega)
  obtain ⟨n2, e2, w2⟩ := hi 2 (by omega)
  obtain ⟨n3, e3, w3⟩ := hi 3 (by omega)
  obtain ⟨n4, e4, w4⟩ := hi 4 (by omega)
  obtain ⟨n5, e5, w5⟩ := hi 5 (by omega)
  obtain ⟨n6, e6, w6⟩ := hi 6 (by omega)
  obtain ⟨n7, e7, w7⟩ := hi 7 (by omega)
  obtain ⟨b8, e8⟩ := hb 8 (by omega)
  obtain ⟨s9, e9, w9⟩ := hs 9 (by omega)
  obtain ⟨b10, e10⟩ := hb 10 (by omega)
  obtain ⟨s11, e11, w11⟩ := hs 11 (by omega)
  obtain ⟨s12, e12, w12⟩ := hs 12 (by omega)
  refine ⟨⟨n0, n1, n2, n3, n4, n5, ⟨n6, n7, ⟨b8, s9⟩, ⟨b10, s11⟩⟩, s12⟩, ?_, ⟨w0, w1, w2, w3, w4, w5, ⟨w6, w7, w9, w11⟩, w12⟩⟩
  congr 1
  apply Array.ext_getElem?
  intro i
  by_cases hi : i < 13
  · rcases (show i = 0 ∨ i = 1 ∨ i = 2 ∨ i = 3 ∨ i = 4 ∨ i = 5 ∨ i = 6 ∨ i = 7 ∨ i = 8 ∨ i = 9 ∨ i = 10 ∨ i = 11 ∨ i = 12 by omega) with rfl | rfl | rfl | rfl | rfl | rfl | rfl | rfl | rfl | rfl | rfl | rfl | rfl
    · rw [e0]; rfl
    · rw [e1]; rfl
    · rw [e2]; rfl
    · rw [e3]; rfl
    · rw [e4]; rfl
    · rw [e5]; rfl
    · rw [e6]; rfl
    · rw [e7]; rfl
    · rw [e8]; rfl
    · rw [e9]; rfl
    · rw [e10]; rfl
    · rw [e11]; rfl
    · rw [e12]; rfl
  · rw [Array.getElem?_eq_none (by omega), Array.getElem?_eq_none (by simp; omega)]
end Go.Proofs.Ytldkgmodmpnclaa
