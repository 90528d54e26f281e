/- What is decoded is a page whose numbers and strings are comparable; a page that is decoded is valid, and has these bytes. -/
import Derived.Test.YtldkgmodmpnclaaEq
import Derived.Test.YtldkgmodmpnclaaPlainT
namespace Go.Proofs.Ytldkgmodmpnclaa
open Go.RowKit Go.Proofs
theorem wf_zero : PgWf Page.zero := PgWf.new (show (Lit.int .i64 0).wf = true by decide)
theorem named_wf {id : Int} (h : named id = true) : (Lit.int .i64 id).wf = true := by
  simp only [named, Bool.and_eq_true, decide_eq_true_eq] at h
  exact WalkArith.wf_i64 (by omega)
theorem decP_wf (s : ByteArray) : PgWf (decP s).1 := by
  unfold decP
  split
  · exact wf_zero
  · split
    · exact wf_zero
    · split
      · exact wf_zero
      · split
        · exact wf_zero
        · split
          · rename_i h
            exact PgWf.ok h.2.1
          · exact wf_zero
theorem decP_ok {s : ByteArray} (h : (decP s).2 = 0) : pageOk (decP s).1 = true ∧ encBytes (decP s).1 = s := by
  unfold decP at h ⊢
  split at h <;> rename_i h1
  · simp at h
  · rw [if_neg h1]
    split at h <;> rename_i h2
    · simp at h
    · rw [if_neg h2]
      split at h <;> rename_i h3
      · simp at h
      · rw [if_neg h3]
        split at h <;> rename_i h4
        · simp at h
        · rw [if_neg h4]
          split at h <;> rename_i h5
          · rw [if_pos h5]
            exact ⟨h5.2.1, h5.2.2⟩
          · simp at h
theorem idP_wf (s : ByteArray) (id : Int) : PgWf (idP s id).1 := by
  unfold idP
  split
  · exact wf_zero
  · rename_i h
    split
    · exact PgWf.new (named_wf (by simpa using h))
    · split
      · exact wf_zero
      · split
        · exact wf_zero
        · exact decP_wf s
end Go.Proofs.Ytldkgmodmpnclaa
