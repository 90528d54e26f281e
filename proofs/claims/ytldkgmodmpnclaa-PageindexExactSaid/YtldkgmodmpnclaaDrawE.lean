import Derived.Test.YtldkgmodmpnclaaHeld
namespace Go.Proofs.Ytldkgmodmpnclaa
open Go.RowKit Go.Proofs
set_option linter.unusedVariables false
set_option linter.unusedSimpArgs false
/-- Some string of at most k bytes. -/
def AnyStrK (k : Nat) (g : Nat) (w : World) (e : Ending) (w' : World) : Prop := ∃ s : ByteArray, e = .returned (.string s) ∧ s.size ≤ k ∧ KB g w w' ∧ Cs w' g
set_option maxHeartbeats 1000000 in
set_option maxRecDepth 100000 in
theorem spoilt_calls (g : Nat) (s : ByteArray) (w : World) (h : Cs w g) (hs : s.size ≤ 10000) :
    Calls Try.prog 29 #[.pointer (some ⟨g, 0, none⟩), .string s] w (AnyStrK (s.size + 1) g w) := by
  have hcv := conv_byte1
  by_cases h0 : s.size = 0
  · have hd : ((s.size : Int) == 0) = true := by rw [h0]; rfl
    have H0 := Lib.hid h0; clear h0
    go_enter Try.func29, Try.ntmps29
    go_wp2_with fail
    refine (next_calls g 256 _ h (by omega) (by omega)).mono ?_
    rintro e w1 ⟨r, rfl, hr0, hr1, hk, h1⟩
    go_wp2_with fail
    go_ret
    exact ⟨_, rfl, by show 1 ≤ s.size + 1; omega, hk.alloc _, h1.alloc _⟩
  · have hd : ((s.size : Int) == 0) = false := by rw [beq_eq_false_iff_ne]; omega
    have H0 := Lib.hid h0; clear h0
    go_enter Try.func29, Try.ntmps29
    go_wp2_with fail
    refine (next_calls g s.size _ h (by have := H0.out; omega) (by omega)).mono ?_
    rintro e w1 ⟨k, rfl, hk0, hk1, hk, h1⟩
    obtain ⟨k, rfl⟩ : ∃ n : Nat, k = n := ⟨k.toNat, by omega⟩
    go_wp2_with fail
    refine (next_calls g 4 _ h1 (by omega) (by omega)).mono ?_
    rintro e w2 ⟨r, rfl, hr0, hr1, hk2, h2⟩
    have hkk := hk.trans hk2
    have i1 : (k : Int) ≤ s.size := by omega
    have i2 : k ≤ s.size := by omega
    have i3 : IntKind.i64.wrap ((k : Int) + 1) = (k : Int) + 1 := IntWalk.i64_in _ (by omega)
    have i4 : (0 : Int) ≤ (k : Int) + 1 := by omega
    have i5 : (k : Int) + 1 ≤ s.size := by omega
    have i6 : ((k : Int) + 1).toNat = k + 1 := by omega
    have i7 : (s.extract 0 k).size = k := by rw [ByteArray.size_extract]; omega
    have i8 : (s.extract (k + 1) s.size).size = s.size - (k + 1) := by rw [ByteArray.size_extract]; omega
    clear hk hk2 h1 h
    by_cases r0 : r = 0
    · subst r0
      have hn1 : ¬ 9223372036854775807 < (s.extract 0 k).size + (s.extract (k + 1) s.size).size := by omega
      go_wp2_with fail
      go_region
      go_wp2_with fail
      go_ret
      exact ⟨_, rfl, by rw [ByteArray.size_append, i7, i8]; omega, hkk.drew, h2.drew⟩
    · have hd0 : decide (r = 0) = false := by simp [r0]
      by_cases r1 : r = 1
      · subst r1
        go_wp2_with fail
        refine (next_calls g 256 _ h2 (by omega) (by omega)).mono ?_
        rintro e w3 ⟨x, rfl, hx0, hx1, hk3, h3⟩
        go_wp2_with fail
        go_ret
        exact ⟨_, rfl, by rw [ByteArray.size_append]; exact Nat.le_refl _, (hkk.trans hk3).alloc _, h3.alloc _⟩
      · have hd1 : decide (r = 1) = false := by simp [r1]
        have n1 : ¬ 9223372036854775807 < k + 1 := by omega
        have n2 : ¬ 9223372036854775807 < k + 1 + (s.size - (k + 1)) := by omega
        go_wp2_with fail
        refine wp_region_held_drew (S := (fun w_ => KB g w2 w_ ∧ Cs w_ g)) (by kernel_rfl) ⟨(KB.refl g w2).drew, h2.drew⟩ (fun hHeld => ?_)
        refine Held.takeL (i := 0) (v := ?_) rfl (by kernel_rfl) (by kernel_rfl) (by kernel_rfl) (fun _ _ _ h => h) (.inl ⟨by kernel_rfl, ?_⟩) (by assumption) ?_
        rotate_left
        · (intro w_ hSw; go_simp; first | done | with_reducible rfl)
        try simp only [Act.put, List.setIfInBounds_toArray, List.set_cons_zero, List.set_cons_succ]
        refine Held.takeL (i := 1) (v := ?_) rfl (by kernel_rfl) (by kernel_rfl) (by kernel_rfl) (fun _ _ _ h => h) (.inl ⟨by kernel_rfl, ?_⟩) (by assumption) ?_
        rotate_left
        · (intro w_ hSw; go_simp; first | done | with_reducible rfl)
        try simp only [Act.put, List.setIfInBounds_toArray, List.set_cons_zero, List.set_cons_succ]
        refine Held.takeL (i := 2) (v := ?_) rfl (by kernel_rfl) (by kernel_rfl) (by kernel_rfl) (fun _ _ _ h => h) (.inl ⟨by kernel_rfl, ?_⟩) (by assumption) ?_
        rotate_left
        · (intro w_ hSw; go_simp; first | done | with_reducible rfl)
        try simp only [Act.put, List.setIfInBounds_toArray, List.set_cons_zero, List.set_cons_succ]
        refine Held.takeL (i := 3) (v := ?_) rfl (by kernel_rfl) (by kernel_rfl) (by kernel_rfl) (fun _ _ _ h => h) (.inl ⟨by kernel_rfl, ?_⟩) (by assumption) ?_
        rotate_left
        · (intro w_ hSw; go_simp; first | done | with_reducible rfl)
        try simp only [Act.put, List.setIfInBounds_toArray, List.set_cons_zero, List.set_cons_succ]
        refine Held.takeL (i := 4) (v := ?_) rfl (by kernel_rfl) (by kernel_rfl) (by kernel_rfl) (fun _ _ _ h => h) (.inl ⟨by kernel_rfl, ?_⟩) (by assumption) ?_
        rotate_left
        · (intro w_ hSw; go_simp; first | done | with_reducible rfl)
        try simp only [Act.put, List.setIfInBounds_toArray, List.set_cons_zero, List.set_cons_succ]
        refine Held.takeL (i := 5) (v := ?_) rfl (by kernel_rfl) (by kernel_rfl) (by kernel_rfl) (fun _ _ _ h => h) (.inl ⟨by kernel_rfl, ?_⟩) (by assumption) ?_
        rotate_left
        · (intro w_ hSw; go_simp; first | done | with_reducible rfl)
        try simp only [Act.put, List.setIfInBounds_toArray, List.set_cons_zero, List.set_cons_succ]
        refine Held.takeL (i := 6) (v := ?_) rfl (by kernel_rfl) (by kernel_rfl) (by kernel_rfl) (fun _ _ _ h => h) (.inl ⟨by kernel_rfl, ?_⟩) (by assumption) ?_
        rotate_left
        · (intro w_ hSw; go_simp; first | done | with_reducible rfl)
        try simp only [Act.put, List.setIfInBounds_toArray, List.set_cons_zero, List.set_cons_succ]
        refine Held.takeL (i := 14) (v := ?_) rfl (by kernel_rfl) (by kernel_rfl) (by kernel_rfl) (fun _ _ _ h => h) (.inl ⟨by kernel_rfl, ?_⟩) (by assumption) ?_
        rotate_left
        · (intro w_ hSw; go_simp; first | done | with_reducible rfl)
        try simp only [Act.put, List.setIfInBounds_toArray, List.set_cons_zero, List.set_cons_succ]
        refine Held.takeL (i := 15) (v := ?_) rfl (by kernel_rfl) (by kernel_rfl) (by kernel_rfl) (fun _ _ _ h => h) (.inl ⟨by kernel_rfl, ?_⟩) (by assumption) ?_
        rotate_left
        · (intro w_ hSw; go_simp; first | done | with_reducible rfl)
        try simp only [Act.put, List.setIfInBounds_toArray, List.set_cons_zero, List.set_cons_succ]
        refine Held.takeL (i := 16) (v := ?_) rfl (by kernel_rfl) (by kernel_rfl) (by kernel_rfl) (fun _ _ _ h => h) (.inl ⟨by kernel_rfl, ?_⟩) (by assumption) ?_
        rotate_left
        · (intro w_ hSw; go_simp; first | done | with_reducible rfl)
        try simp only [Act.put, List.setIfInBounds_toArray, List.set_cons_zero, List.set_cons_succ]
        refine Held.takeL (i := 17) (v := ?_) rfl (by kernel_rfl) (by kernel_rfl) (by kernel_rfl) (fun _ _ _ h => h) (.inl ⟨by kernel_rfl, ?_⟩) (by assumption) ?_
        rotate_left
        · (intro w_ hSw; go_simp; first | done | with_reducible rfl)
        try simp only [Act.put, List.setIfInBounds_toArray, List.set_cons_zero, List.set_cons_succ]
        refine wpAnyH_ready (rs := [7]) (by kernel_rfl) (by simp) ?_
        refine Held.consL rfl (fun K hK => ?_) AllReadyH.nil
        go_simp
        refine (next_calls g 255 _ hHeld.2 (by omega) (by omega)).mono ?_
        rintro e_ w3 ⟨x, rfl, hx0, hx1, hk3, h3⟩
        have j1 : IntKind.i64.wrap (1 + x) = 1 + x := IntWalk.i64_in _ (by omega)
        have hS3 := hHeld.1.trans hk3
        refine hK.out _ _ ⟨hS3, h3⟩ (fun hHeld => ?_)
        clear hK K
        try simp only [Act.put, List.setIfInBounds_toArray, List.set_cons_zero, List.set_cons_succ]
        refine Held.takeL (i := 8) (v := ?_) rfl (by kernel_rfl) (by kernel_rfl) (by kernel_rfl) (fun _ _ _ h => h) (.inl ⟨by kernel_rfl, ?_⟩) (by assumption) ?_
        rotate_left
        · (intro w_ hSw; go_simp; first | done | with_reducible rfl)
        try simp only [Act.put, List.setIfInBounds_toArray, List.set_cons_zero, List.set_cons_succ]
        refine Held.takeL (i := 9) (v := ?_) rfl (by kernel_rfl) (by kernel_rfl) (by kernel_rfl) (fun _ _ _ h => h) (.inl ⟨by kernel_rfl, ?_⟩) (by assumption) ?_
        rotate_left
        · (intro w_ hSw; go_simp; first | done | with_reducible rfl)
        try simp only [Act.put, List.setIfInBounds_toArray, List.set_cons_zero, List.set_cons_succ]
        refine Held.takeL (i := 10) (v := ?_) rfl (by kernel_rfl) (by kernel_rfl) (by kernel_rfl) (fun _ _ _ h => h) (.inl ⟨by kernel_rfl, ?_⟩) (by assumption) ?_
        rotate_left
        · (intro w_ hSw; go_simp; first | done | with_reducible rfl)
        try simp only [Act.put, List.setIfInBounds_toArray, List.set_cons_zero, List.set_cons_succ]
        refine wpAnyH_ready (rs := [11]) (by kernel_rfl) (by simp) ?_
        refine Held.consL rfl (fun K hK => ?_) AllReadyH.nil
        go_simp
        refine hK.out _ _ ⟨hHeld.1.alloc _, hHeld.2.alloc _⟩ (fun hHeld => ?_)
        clear hK K
        try simp only [Act.put, List.setIfInBounds_toArray, List.set_cons_zero, List.set_cons_succ]
        refine wpAnyH_ready (rs := [12]) (by kernel_rfl) (by simp) ?_
        refine Held.consL rfl (fun K hK => ?_) AllReadyH.nil
        go_simp
        refine hK.out _ _ hHeld (fun hHeld => ?_)
        clear hK K
        try simp only [Act.put, List.setIfInBounds_toArray, List.set_cons_zero, List.set_cons_succ]
        refine Held.takeL (i := 13) (v := ?_) rfl (by kernel_rfl) (by kernel_rfl) (by kernel_rfl) (fun _ _ _ h => h) (.inl ⟨by kernel_rfl, ?_⟩) (by assumption) ?_
        rotate_left
        · (intro w_ hSw; go_simp; first | done | with_reducible rfl)
        try simp only [Act.put, List.setIfInBounds_toArray, List.set_cons_zero, List.set_cons_succ]
        refine Held.takeL (i := 18) (v := ?_) rfl (by kernel_rfl) (by kernel_rfl) (by kernel_rfl) (fun _ _ _ h => h) (.inl ⟨by kernel_rfl, ?_⟩) (by assumption) ?_
        rotate_left
        · (intro w_ hSw; go_simp; first | done | with_reducible rfl)
        try simp only [Act.put, List.setIfInBounds_toArray, List.set_cons_zero, List.set_cons_succ]
        refine Held.takeL (i := 19) (v := ?_) rfl (by kernel_rfl) (by kernel_rfl) (by kernel_rfl) (fun _ _ _ h => h) (.inl ⟨by kernel_rfl, ?_⟩) (by assumption) ?_
        rotate_left
        · (intro w_ hSw; go_simp; first | done | with_reducible rfl)
        try simp only [Act.put, List.setIfInBounds_toArray, List.set_cons_zero, List.set_cons_succ]
        refine wpAnyH_done (by kernel_rfl) ?_ _
        go_wp2_with fail
        go_ret
        exact ⟨_, rfl, by rw [ByteArray.size_append, ByteArray.size_append, i7, i8]; show k + 1 + (s.size - (k + 1)) ≤ s.size + 1; omega, hkk.trans hHeld.1, hHeld.2⟩
end Go.Proofs.Ytldkgmodmpnclaa
