import Derived.Test.YtldkgmodmpnclaaDraw
import Derived.OpenShut
namespace Go.Proofs.Ytldkgmodmpnclaa
open Go.RowKit Go.Proofs
set_option linter.unusedSimpArgs false
set_option linter.unusedVariables false
/-- Arguments that are rows of bytes. -/
theorem Ls.none {w : World} : Ls w none 0 0 := ⟨by omega, by simp [maxLen], .inl rfl⟩
theorem Ls.of_ints {w : World} {x : Addr} {l c : Nat} {zs : List Int} (hl : l ≤ c) (hm : c ≤ maxLen) (hz : zs.length = c) (hcell : ∀ i, i < zs.length → w.cell? (x.add i) = some (.int .u8 (zs.getD i 0))) (hw : ∀ n ∈ zs, (Lit.int .u8 n).wf = true) : Ls w (some x) l c := by
  refine ⟨hl, hm, ?_⟩
  by_cases h0 : l = 0
  · exact .inl h0
  · obtain ⟨b, off, rfl, hc⟩ := ints_at hcell (by omega)
    refine .inr ⟨b, off, rfl, fun i hi => ?_⟩
    have hi' : i < zs.length := by omega
    have hmem : zs.getD i 0 ∈ zs := by
      rw [List.getD_eq_getElem?_getD, List.getElem?_eq_getElem hi']
      exact List.getElem_mem hi'
    have hwf := hw _ hmem
    obtain ⟨z, hz'⟩ : ∃ z, zs.getD i 0 = z := ⟨_, rfl⟩
    have hcz := hc i hi'
    rw [hz'] at hwf hcz
    have hb : 0 ≤ z ∧ z < 256 := by
      simp only [Lit.wf, Bool.and_eq_true, decide_eq_true_eq, show IntKind.u8.min = 0 from rfl, show IntKind.u8.max = 255 from rfl] at hwf
      omega
    refine ⟨z.toNat, by omega, ?_⟩
    rw [hcz, Int.toNat_of_nonneg hb.1]
end Go.Proofs.Ytldkgmodmpnclaa
