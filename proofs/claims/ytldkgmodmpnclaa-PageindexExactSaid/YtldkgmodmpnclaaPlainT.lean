import Derived.Test.YtldkgmodmpnclaaPlainC
namespace Go.Proofs.Ytldkgmodmpnclaa
open Go.RowKit Go.Proofs
set_option linter.unusedVariables false
set_option linter.unusedSimpArgs false
/-- The bytes of the two positions are the same. -/
def ends (s : ByteArray) : Prop := ∀ i, i < 8 → bt s i = bt s (248 + i)
theorem ends_of {s : ByteArray} (h : s.extract 0 8 = s.extract 248 256) : ends s := by
  intro i hi
  have : bt (s.extract 0 8) i = bt (s.extract 248 256) i := by rw [h]
  rw [bt_extract _ _ _ _ (by omega), bt_extract _ _ _ _ (by omega), Nat.zero_add] at this
  exact this
theorem ends_enc {p : Page} (h : cellsOk p = true) : ends (encBytes p) := fun i hi => by rw [enc_lsn h i hi, enc_lsn2 h i hi]
theorem ends_zeros : ends (zeros 256) := fun i hi => by rw [bt_zeros, bt_zeros]
theorem bt_mix (s t : ByteArray) (k i : Nat) (hs : s.size = 256) (ht : t.size = 256) (hk : k ≤ 256) (hi : i < 256) : bt (s.extract 0 k ++ t.extract k 256) i = if i < k then bt s i else bt t i := by
  have hz : (s.extract 0 k).size = k := by rw [ByteArray.size_extract]; omega
  split
  · rw [bt_left _ _ _ (by omega), bt_extract _ _ _ _ (by omega), Nat.zero_add]
  · rw [bt_right _ _ _ (by omega), hz, bt_extract _ _ _ _ (by omega), show k + (i - k) = i by omega]
theorem mix_size (s t : ByteArray) (k : Nat) (hs : s.size = 256) (ht : t.size = 256) (hk : k ≤ 256) : (s.extract 0 k ++ t.extract k 256).size = 256 := by
  rw [ByteArray.size_append, ByteArray.size_extract, ByteArray.size_extract]
  omega
/-- Of two versions, the first bytes of the one and the other bytes of the other one: one of both, if its positions agree. -/
theorem tear {s t : ByteArray} {k : Nat} (hs : s.size = 256) (ht : t.size = 256) (h1 : ends s) (h2 : ends t) (hne : ¬ ∀ i, i < 8 → bt s i = bt t i) (hk : k ≤ 256)
    (h : ends (s.extract 0 k ++ t.extract k 256)) : s.extract 0 k ++ t.extract k 256 = s ∨ s.extract 0 k ++ t.extract k 256 = t := by
  have hz := mix_size s t k hs ht hk
  by_cases ha : k < 8
  · right
    refine bt_ext (by rw [hz, ht]) fun i hi => ?_
    rw [hz] at hi
    rw [bt_mix s t k i hs ht hk hi]
    split
    · have e := h i (by omega)
      rw [bt_mix s t k i hs ht hk hi, if_pos (by assumption), bt_mix s t k (248 + i) hs ht hk (by omega), if_neg (by omega), ← h2 i (by omega)] at e
      exact e
    · rfl
  · by_cases hb : 248 < k
    · left
      refine bt_ext (by rw [hz, hs]) fun i hi => ?_
      rw [hz] at hi
      rw [bt_mix s t k i hs ht hk hi]
      split
      · rfl
      · have e := h (i - 248) (by omega)
        rw [bt_mix s t k (i - 248) hs ht hk (by omega), if_pos (by omega), show 248 + (i - 248) = i by omega, bt_mix s t k i hs ht hk hi, if_neg (by assumption)] at e
        rw [← e, h1 (i - 248) (by omega), show 248 + (i - 248) = i by omega]
    · exfalso
      apply hne
      intro i hi
      have e := h i hi
      rw [bt_mix s t k i hs ht hk (by omega), if_pos (by omega), bt_mix s t k (248 + i) hs ht hk (by omega), if_neg (by omega), ← h2 i hi] at e
      exact e
theorem getV_congr (s t : ByteArray) (h : ∀ i, i < 8 → bt s i = bt t i) : getV s 0 8 = getV t 0 8 := by
  unfold getV
  rw [getU_eq _ _ _ (by omega), getU_eq _ _ _ (by omega), leN_congr s t 0 0 8 (fun i hi => by rw [Nat.zero_add]; exact h i hi)]
theorem lsn_enc {p : Page} (h : pageOk p = true) : getV (encBytes p) 0 8 = p.lsn := congrArg Page.lsn (rdPage_enc h)
theorem lsn_zeros : getV (zeros 256) 0 8 = 0 := by
  unfold getV
  rw [getU_eq _ _ _ (by omega), leN_of (zeros 256) 0 0 8 (by omega) (fun i _ => by rw [bt_zeros, leByte_zero]), Nat.zero_mod]
  exact wrap64_small 0 (by decide)
/-- Where Identify answers OK, the positions agree. -/
theorem ends_ok {x : ByteArray} {id : Int} (h : (idP x id).2 = 0) : ends x ∧ (idP x id).1.id = id := by
  unfold idP at h ⊢
  split at h
  · exact absurd h (by simp)
  · rename_i hn
    rw [if_neg hn]
    by_cases h7 : (decP x).2 = 7
    · rw [if_pos h7]
      refine ⟨?_, rfl⟩
      unfold decP at h7
      split at h7
      · simp at h7
      · split at h7
        · rename_i e
          rw [e]
          exact ends_zeros
        · split at h7
          · simp at h7
          · split at h7
            · simp at h7
            · split at h7 <;> simp at h7
    · rw [if_neg h7] at h ⊢
      by_cases h0 : (decP x).2 = 0
      · rw [if_neg (by omega)] at h ⊢
        by_cases hid : (decP x).1.id = id
        · rw [if_neg (by omega)]
          refine ⟨?_, hid⟩
          unfold decP at h0
          split at h0
          · simp at h0
          · split at h0
            · simp at h0
            · split at h0
              · simp at h0
              · rename_i he
                exact ends_of (Decidable.not_not.1 he)
        · rw [if_pos hid] at h
          exact absurd h (by simp)
      · rw [if_pos h0] at h
        exact absurd h h0
end Go.Proofs.Ytldkgmodmpnclaa
