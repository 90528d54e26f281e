/- PageindexReturns' walk: an index comes back out of its bytes, and changes of it commute. -/
import Derived.Test.YtldkgmodmpnclaaLwA
namespace Go.Proofs.Ytldkgmodmpnclaa
open Go.RowKit Go.Proofs
set_option linter.unusedVariables false
set_option linter.unusedSimpArgs false
set_option maxHeartbeats 4000000 in
set_option maxRecDepth 100000 in
theorem back_calls (a : Option Addr) (n c : Nat) (x1 : Bool) (w : World) (h : Ls w a n c) :
    Calls Try.prog 4 #[.slice a n c, .bool x1] w fun e w' => e = .returned (.bool true) ∧ Below w.heap.size w w' := by
  obtain ⟨B0, hB0⟩ : ∃ B, w.heap.size = B := ⟨_, rfl⟩
  rw [hB0]
  go_enter Try.func4, Try.ntmps4
  go_wp2_with fail
  refine (awake11_calls _).mono ?_
  rintro e w1 ⟨rfl, hb1⟩
  go_wp2_with fail
  refine (newCodes_calls a n c 100 _ (h.keep hb1) (by omega)).mono ?_
  rintro e w2 ⟨g, rfl, hg, hb2, hc2⟩
  have hF2 : Fr B0 g w w2 := Fr.of ((hb1.mono (by omega)).trans (hb2.mono (by have := hb1.size; omega))) hc2 (by have := hb1.size; omega)
  clear hb1 hb2 hg h hc2
  go_wp2_with fail
  refine (index_calls g _ hF2.c).mono ?_
  rintro e w3 ⟨b, N, l, rfl, hb, hO, hall, hn1, hn5, hk, hc⟩
  have hF3 := hF2.kb hk hc
  have hlN : l.length = N := hO.len
  have hok : idxOk l = true := by
    unfold idxOk
    rw [hall, hlN]
    simp
    omega
  have hgb : g < b := by have := hF2.lt; omega
  have hR := hO.rw (g := g) (by omega)
  have hS := (Sx.of hF3).box hR
  have hR3 := hR.alloc (.cells #[.slice (some ⟨b, 0, none⟩) N N] 25)
  obtain ⟨D6, hD6⟩ : ∃ D, w3.heap.size = D := ⟨_, rfl⟩
  have hg6 : g < D6 := by rw [← hD6]; exact hF3.lt
  obtain ⟨W3, hW3⟩ : ∃ W, w3.alloc (.cells #[.slice (some ⟨b, 0, none⟩) N N] 25) = W := ⟨_, rfl⟩
  rw [hW3] at hS hR3
  rw [hD6] at hS
  obtain ⟨s, hs⟩ : ∃ s, encI l = s := ⟨_, rfl⟩
  have hsz := encI_size hok
  have hdec := decI_encI hok
  have HEn := Lib.hid (fun a n c W h => encIdx_calls g a n c l W h)
  have HDe := Lib.hid (fun W h1 => decIdx_calls g s W (by rw [hs, hlN] at hsz; omega) h1)
  rw [hs, hlN] at hsz
  rw [hs] at hdec
  rw [encE_ok hok, hs] at HEn
  rw [hdec] at HDe
  have HOK := Lib.hid hok
  have HLN := Lib.hid hlN
  have HW3 := Lib.hid hW3
  clear hk hc hF2 hO hR hF3 hall hs hdec hok hW3 hb
  go_wp2_with fail
  rw [HW3.out]
  try rw [hD6]
  refine (HEn.out _ _ _ _ hR3).mono ?_
  rintro e w4 ⟨rfl, hb4⟩
  have hS4 := hS.step hb4
  clear hS hb4 hR3 HW3 HEn
  go_wp2_with fail
  refine (HDe.out _ hS4.lt).mono ?_
  rintro e w5 ⟨a9, n9, c9, rfl, hR9, hb5⟩
  obtain rfl : N = n9 := by rw [← hR9.len]; exact HLN.out.symm
  have hS5 := (hS4.step hb5).box hR9
  have hR5 := hR9.alloc (.cells #[.slice a9 N c9] 25)
  obtain ⟨D9, hD9⟩ : ∃ D, w5.heap.size = D := ⟨_, rfl⟩
  obtain ⟨W5, hW5⟩ : ∃ W, w5.alloc (.cells #[.slice a9 N c9] 25) = W := ⟨_, rfl⟩
  rw [hW5] at hS5 hR5
  rw [hD9] at hS5
  obtain ⟨a6, c6, p2, p3, p4⟩ := (hS5.ix (D := D6) (l := l) (by simp)).len HLN.out
  have P2 : (w5.alloc (.cells #[.slice a9 N c9] 25)).cell? ⟨D6, 0, none⟩ = some (.slice a6 N c6) := by rw [hW5]; exact p2
  have HW5 := Lib.hid hW5
  clear hS4 hb5 hR9 HDe hW5 p2 p3
  go_wp2_with fail
  rw [HW5.out]
  try rw [hD9]
  refine (same_calls g g _ _ _ _ _ _ l _ p4 hR5).mono ?_
  rintro e w6 ⟨rfl, hb6⟩
  have hS6 := (hS5.sub (L' := []) (X' := [(D6, l)]) (by simp) (by simp)).step hb6
  obtain ⟨a6', c6', p2, p3, _⟩ := (hS6.ix (D := D6) (l := l) (by simp)).len HLN.out
  have x1_ : IntKind.i64.wrap (24 * (N : Int)) = 24 * (N : Int) := IntWalk.i64_in _ (by omega)
  have x2_ : IntKind.i64.wrap (2 + 24 * (N : Int)) = 2 + 24 * (N : Int) := IntWalk.i64_in _ (by omega)
  have x3_ : ((s.size : Int) != 2 + 24 * (N : Int)) = false := by simp; omega
  clear hS5 hb6 p4 hR5 HW5 P2 hsz
  go_wp2_with fail
  refine (next_calls g 80 _ hS6.c (by omega) (by omega)).mono ?_
  rintro e w7 ⟨r1, rfl, hr10, hr11, hk, hc⟩
  have hS7 := (hS6.kb hk hc).new (ent7 90 r1 0).cs 31
  obtain ⟨D11, hD11⟩ : ∃ D, w7.heap.size = D := ⟨_, rfl⟩
  obtain ⟨W7, hW7⟩ : ∃ W, w7.alloc (.cells (ent7 90 r1 0).cs 31) = W := ⟨_, rfl⟩
  rw [hW7] at hS7
  rw [hD11] at hS7
  clear hk hc hS6 p2 p3 x1_ x2_ x3_
  go_wp2_with (first
    | (refine wpList_alloc_row rfl 31 rfl _ zero31 ?_)
    | (refine wpList_store_row rfl 31 (.tmp 11) (.tmp 65) rfl _ (ent7 90 r1 0).cs rfl rfl _ _ (heap_alloc_new _ _) (info31 _) rfl (by simp [Value.oneCell']) ?_; rw [World.setRow_alloc_new, hW7]))
  rw [hD11]
  clear hW7
  obtain ⟨a6, c6, p2, p3, _⟩ := (hS7.ix (D := D6) (l := l) (by simp)).len HLN.out
  have hlt6 : D6 < W7.heap.size := hS7.ltX (D6, l) (by simp)
  have hlt11 : D11 < W7.heap.size := hS7.ltL _ (List.mem_cons_self ..)
  try simp only [Act.put, List.setIfInBounds_toArray, List.set_cons_zero, List.set_cons_succ]
  apply wp_merge3 (fun (D12 : Nat) (r2 k : Int) W => Kg g W7 W ∧ W.heap[D12]? = some (.cells (ent7 91 r2 k).cs 31 (0, 0)) ∧ W7.heap.size ≤ D12 ∧ (0 ≤ r2 ∧ r2 < 80) ∧ (0 ≤ k ∧ k < N))
  · refine wp_region_held_drew (S := Kg g W7) (by kernel_rfl) (Kg.start hS7.c) (fun hHeld => ?_)
    refine Held.takeL (i := 0) (v := ?_) rfl (by kernel_rfl) (by kernel_rfl) (by kernel_rfl) (fun _ _ _ h => h) (.inl ⟨by kernel_rfl, ?_⟩) (by assumption) ?_
    rotate_left
    · (intro w_ hSw; go_simp; first | done | with_reducible rfl)
    try simp only [Act.put, List.setIfInBounds_toArray, List.set_cons_zero, List.set_cons_succ]
    refine Held.takeL (i := 2) (v := ?_) rfl (by kernel_rfl) (by kernel_rfl) (by kernel_rfl) (fun _ _ _ h => h) (.inl ⟨by kernel_rfl, ?_⟩) (by assumption) ?_
    rotate_left
    · (intro w_ hSw; go_simp; first | done | with_reducible rfl)
    try simp only [Act.put, List.setIfInBounds_toArray, List.set_cons_zero, List.set_cons_succ]
    refine Held.takeL (i := 3) (v := ?_) rfl (by kernel_rfl) (by kernel_rfl) (by kernel_rfl) (fun _ _ _ h => h) (.inl ⟨by kernel_rfl, ?_⟩) (by assumption) ?_
    rotate_left
    · (intro w_ hSw; go_simp; first | done | with_reducible rfl)
    try simp only [Act.put, List.setIfInBounds_toArray, List.set_cons_zero, List.set_cons_succ]
    refine Held.takeL (i := 4) (v := ?_) rfl (by kernel_rfl) (by kernel_rfl) (by kernel_rfl) (fun _ _ _ h => h) (.inl ⟨by kernel_rfl, ?_⟩) (by assumption) ?_
    rotate_left
    · (intro w_ hSw; have p2_ := hSw.cell p2 hlt6 (by omega); go_simp; first | done | with_reducible rfl)
    try simp only [Act.put, List.setIfInBounds_toArray, List.set_cons_zero, List.set_cons_succ]
    refine Held.takeL (i := 5) (v := ?_) rfl (by kernel_rfl) (by kernel_rfl) (by kernel_rfl) (fun _ _ _ h => h) (.inl ⟨by kernel_rfl, ?_⟩) (by assumption) ?_
    rotate_left
    · (intro w_ hSw; go_simp; first | done | with_reducible rfl)
    try simp only [Act.put, List.setIfInBounds_toArray, List.set_cons_zero, List.set_cons_succ]
    refine wpAnyH_ready (rs := [1, 9]) (by kernel_rfl) (by simp) ?_
    refine Held.consL rfl (fun K hK => ?_) (Held.consL rfl (fun K hK => ?_) AllReadyH.nil)
    · go_simp
      refine (next_calls g 80 _ hHeld.c (by omega) (by omega)).mono ?_
      rintro e_ w_r2 ⟨r2, rfl, hr20, hr21, hk, hc⟩
      have hH := hHeld.kb hk hc
      clear hk hc
      refine hK.out _ _ hH (fun hHeld => ?_)
      clear hK K
      try simp only [Act.put, List.setIfInBounds_toArray, List.set_cons_zero, List.set_cons_succ]
      clear hH
      refine wpAnyH_ready (rs := [6, 9]) (by kernel_rfl) (by simp) ?_
      refine Held.consL rfl (fun K hK => ?_) (Held.consL rfl (fun K hK => ?_) AllReadyH.nil)
      · go_simp
        refine (next_calls g N _ hHeld.c (by omega) (by omega)).mono ?_
        rintro e_ w_k ⟨k, rfl, hk0, hk1, hk, hc⟩
        have hH := hHeld.kb hk hc
        clear hk hc
        refine hK.out _ _ hH (fun hHeld => ?_)
        clear hK K
        try simp only [Act.put, List.setIfInBounds_toArray, List.set_cons_zero, List.set_cons_succ]
        clear hH
        refine Held.takeL (i := 7) (v := ?_) rfl (by kernel_rfl) (by kernel_rfl) (by kernel_rfl) (fun _ _ _ h => h) (.inl ⟨by kernel_rfl, ?_⟩) (by assumption) ?_
        rotate_left
        · (intro w_ hSw; go_simp; first | done | with_reducible rfl)
        try simp only [Act.put, List.setIfInBounds_toArray, List.set_cons_zero, List.set_cons_succ]
        refine Held.takeL (i := 8) (v := ?_) rfl (by kernel_rfl) (by kernel_rfl) (by kernel_rfl) (fun _ _ _ h => h) (.inl ⟨by kernel_rfl, ?_⟩) (by assumption) ?_
        rotate_left
        · (intro w_ hSw; go_simp; first | done | with_reducible rfl)
        try simp only [Act.put, List.setIfInBounds_toArray, List.set_cons_zero, List.set_cons_succ]
        refine wpAnyH_ready (rs := [9]) (by kernel_rfl) (by simp) ?_
        refine Held.consL rfl (fun K hK => ?_) AllReadyH.nil
        rw [if_pos (by kernel_rfl)]
        refine wp_alloc_new 31 (by kernel_rfl) _ zero31 ?_
        rintro D12 wa_ hD12 hT hba
        have hg12 : g < D12 := Nat.lt_of_lt_of_le hHeld.lt hD12
        have hD12 : W7.heap.size ≤ D12 := Nat.le_trans hHeld.k.size hD12
        have hH := hHeld.step hba
        clear hba
        refine hK.out _ _ hH (fun hHeld => ?_)
        clear hK K
        try simp only [Act.put, List.setIfInBounds_toArray, List.set_cons_zero, List.set_cons_succ]
        clear hH
        refine wpAnyH_ready (rs := [10]) (by kernel_rfl) (by simp) ?_
        refine Held.consL rfl (fun K hK => ?_) AllReadyH.nil
        rw [if_pos (by kernel_rfl)]
        refine wp_store_ent (.tmp 12) (.tmp 74) (by kernel_rfl) D12 (ent7 91 r2 k) _ (by rfl) (by rfl) hT ?_
        intro wz_ hT2 hoth hbel
        have hH := hHeld.high hD12 hg12 (hbel _ _ (Nat.le_refl _) (Below.refl _ _))
        refine hK.out _ _ hH (fun hHeld => ?_)
        clear hK K
        try simp only [Act.put, List.setIfInBounds_toArray, List.set_cons_zero, List.set_cons_succ]
        clear hoth hbel hH
        refine wpAnyH_done (by kernel_rfl) ?_ _
        exact Merge3.mk D12 r2 k ⟨hHeld, hT2, hD12, ⟨hr20, hr21⟩, ⟨hk0, hk1⟩⟩
      · rw [if_pos (by kernel_rfl)]
        refine wp_alloc_new 31 (by kernel_rfl) _ zero31 ?_
        rintro D12 wa_ hD12 hT hba
        have hg12 : g < D12 := Nat.lt_of_lt_of_le hHeld.lt hD12
        have hD12 : W7.heap.size ≤ D12 := Nat.le_trans hHeld.k.size hD12
        have hH := hHeld.step hba
        clear hba
        refine hK.out _ _ hH (fun hHeld => ?_)
        clear hK K
        try simp only [Act.put, List.setIfInBounds_toArray, List.set_cons_zero, List.set_cons_succ]
        clear hH
        refine wpAnyH_ready (rs := [6]) (by kernel_rfl) (by simp) ?_
        refine Held.consL rfl (fun K hK => ?_) AllReadyH.nil
        go_simp
        refine (next_calls g N _ hHeld.c (by omega) (by omega)).mono ?_
        rintro e_ w_k ⟨k, rfl, hk0, hk1, hk, hc⟩
        have hH := hHeld.kb hk hc
        have hT := (hk.block D12 (heap_lt hT) (by omega)).trans hT
        clear hk hc
        refine hK.out _ _ hH (fun hHeld => ?_)
        clear hK K
        try simp only [Act.put, List.setIfInBounds_toArray, List.set_cons_zero, List.set_cons_succ]
        clear hH
        refine Held.takeL (i := 7) (v := ?_) rfl (by kernel_rfl) (by kernel_rfl) (by kernel_rfl) (fun _ _ _ h => h) (.inl ⟨by kernel_rfl, ?_⟩) (by assumption) ?_
        rotate_left
        · (intro w_ hSw; go_simp; first | done | with_reducible rfl)
        try simp only [Act.put, List.setIfInBounds_toArray, List.set_cons_zero, List.set_cons_succ]
        refine Held.takeL (i := 8) (v := ?_) rfl (by kernel_rfl) (by kernel_rfl) (by kernel_rfl) (fun _ _ _ h => h) (.inl ⟨by kernel_rfl, ?_⟩) (by assumption) ?_
        rotate_left
        · (intro w_ hSw; go_simp; first | done | with_reducible rfl)
        try simp only [Act.put, List.setIfInBounds_toArray, List.set_cons_zero, List.set_cons_succ]
        refine wpAnyH_ready (rs := [10]) (by kernel_rfl) (by simp) ?_
        refine Held.consL rfl (fun K hK => ?_) AllReadyH.nil
        rw [if_pos (by kernel_rfl)]
        refine wp_store_ent (.tmp 12) (.tmp 74) (by kernel_rfl) D12 (ent7 91 r2 k) _ (by rfl) (by rfl) hT ?_
        intro wz_ hT2 hoth hbel
        have hH := hHeld.high hD12 hg12 (hbel _ _ (Nat.le_refl _) (Below.refl _ _))
        refine hK.out _ _ hH (fun hHeld => ?_)
        clear hK K
        try simp only [Act.put, List.setIfInBounds_toArray, List.set_cons_zero, List.set_cons_succ]
        clear hoth hbel hH
        refine wpAnyH_done (by kernel_rfl) ?_ _
        exact Merge3.mk D12 r2 k ⟨hHeld, hT2, hD12, ⟨hr20, hr21⟩, ⟨hk0, hk1⟩⟩
    · rw [if_pos (by kernel_rfl)]
      refine wp_alloc_new 31 (by kernel_rfl) _ zero31 ?_
      rintro D12 wa_ hD12 hT hba
      have hg12 : g < D12 := Nat.lt_of_lt_of_le hHeld.lt hD12
      have hD12 : W7.heap.size ≤ D12 := Nat.le_trans hHeld.k.size hD12
      have hH := hHeld.step hba
      clear hba
      refine hK.out _ _ hH (fun hHeld => ?_)
      clear hK K
      try simp only [Act.put, List.setIfInBounds_toArray, List.set_cons_zero, List.set_cons_succ]
      clear hH
      refine wpAnyH_ready (rs := [1]) (by kernel_rfl) (by simp) ?_
      refine Held.consL rfl (fun K hK => ?_) AllReadyH.nil
      go_simp
      refine (next_calls g 80 _ hHeld.c (by omega) (by omega)).mono ?_
      rintro e_ w_r2 ⟨r2, rfl, hr20, hr21, hk, hc⟩
      have hH := hHeld.kb hk hc
      have hT := (hk.block D12 (heap_lt hT) (by omega)).trans hT
      clear hk hc
      refine hK.out _ _ hH (fun hHeld => ?_)
      clear hK K
      try simp only [Act.put, List.setIfInBounds_toArray, List.set_cons_zero, List.set_cons_succ]
      clear hH
      refine wpAnyH_ready (rs := [6]) (by kernel_rfl) (by simp) ?_
      refine Held.consL rfl (fun K hK => ?_) AllReadyH.nil
      go_simp
      refine (next_calls g N _ hHeld.c (by omega) (by omega)).mono ?_
      rintro e_ w_k ⟨k, rfl, hk0, hk1, hk, hc⟩
      have hH := hHeld.kb hk hc
      have hT := (hk.block D12 (heap_lt hT) (by omega)).trans hT
      clear hk hc
      refine hK.out _ _ hH (fun hHeld => ?_)
      clear hK K
      try simp only [Act.put, List.setIfInBounds_toArray, List.set_cons_zero, List.set_cons_succ]
      clear hH
      refine Held.takeL (i := 7) (v := ?_) rfl (by kernel_rfl) (by kernel_rfl) (by kernel_rfl) (fun _ _ _ h => h) (.inl ⟨by kernel_rfl, ?_⟩) (by assumption) ?_
      rotate_left
      · (intro w_ hSw; go_simp; first | done | with_reducible rfl)
      try simp only [Act.put, List.setIfInBounds_toArray, List.set_cons_zero, List.set_cons_succ]
      refine Held.takeL (i := 8) (v := ?_) rfl (by kernel_rfl) (by kernel_rfl) (by kernel_rfl) (fun _ _ _ h => h) (.inl ⟨by kernel_rfl, ?_⟩) (by assumption) ?_
      rotate_left
      · (intro w_ hSw; go_simp; first | done | with_reducible rfl)
      try simp only [Act.put, List.setIfInBounds_toArray, List.set_cons_zero, List.set_cons_succ]
      refine wpAnyH_ready (rs := [10]) (by kernel_rfl) (by simp) ?_
      refine Held.consL rfl (fun K hK => ?_) AllReadyH.nil
      rw [if_pos (by kernel_rfl)]
      refine wp_store_ent (.tmp 12) (.tmp 74) (by kernel_rfl) D12 (ent7 91 r2 k) _ (by rfl) (by rfl) hT ?_
      intro wz_ hT2 hoth hbel
      have hH := hHeld.high hD12 hg12 (hbel _ _ (Nat.le_refl _) (Below.refl _ _))
      refine hK.out _ _ hH (fun hHeld => ?_)
      clear hK K
      try simp only [Act.put, List.setIfInBounds_toArray, List.set_cons_zero, List.set_cons_succ]
      clear hoth hbel hH
      refine wpAnyH_done (by kernel_rfl) ?_ _
      exact Merge3.mk D12 r2 k ⟨hHeld, hT2, hD12, ⟨hr20, hr21⟩, ⟨hk0, hk1⟩⟩
  rintro D12 r2 k W10 ⟨hG, hT12, hD12, ⟨hr20, hr21⟩, ⟨hk0, hk1⟩⟩
  have hS10 := (hS7.kg hG).add hT12 (by omega)
  clear hS7 hG p2 p3 hT12
  obtain ⟨k, rfl⟩ : ∃ m : Nat, k = m := ⟨k.toNat, by omega⟩
  go_wp2_with fail
  refine (next_calls g 9 _ hS10.c (by omega) (by omega)).mono ?_
  rintro e w11 ⟨u, rfl, hu0, hu1, hk, hc⟩
  have hS11 := hS10.kb hk hc
  have hwu : IntKind.i64.wrap (1 + u) = 1 + u := IntWalk.i64_in _ (by omega)
  clear hk hc hS10
  go_wp2_with fail
  refine (next_calls g 50 _ hS11.c (by omega) (by omega)).mono ?_
  rintro e W11 ⟨y, rfl, hy0, hy1, hk, hc⟩
  have hS12 := hS11.kb hk hc
  clear hk hc hS11
  obtain ⟨l1, l2, l3, m1, m2, p2, c1, c2, c3, c4, ⟨c5, c6⟩, ⟨c7, c8⟩, z1, z2, z3, z4, z5, z6⟩ := chain (k := k) (r1 := r1) (r2 := r2) (x := 1 + u) (y := y) HOK.out HLN.out (by omega) (by omega) (by omega) (by omega) (by omega) (by omega)
  have C1 := Lib.hid c1; have C2 := Lib.hid c2; have C3 := Lib.hid c3; have C4 := Lib.hid c4; have C5 := Lib.hid c5; have C6 := Lib.hid c6; have C7 := Lib.hid c7; have C8 := Lib.hid c8
  have Z1 := Lib.hid z1; have Z2 := Lib.hid z2; have Z3 := Lib.hid z3; have Z4 := Lib.hid z4; have Z5 := Lib.hid z5; have Z6 := Lib.hid z6
  have WF1 := Lib.hid (ent7_wf (lsn := 90) (ref := r1) (page := 0) (by omega) (by omega) (by omega))
  have WF2 := Lib.hid (ent7_wf (lsn := 91) (ref := r2) (page := k) (by omega) (by omega) (by omega))
  have HN := Lib.hid (fun g a n c l e he W h hg => note_calls g a n c l e he W h hg)
  have HI := Lib.hid (fun g a n c x y l W h hg => setImage_calls g a n c 0 x y l W h hg)
  clear c1 c2 c3 c4 c5 c6 c7 c8 z1 z2 z3 z4 z5 z6
  have h12 : W11.heap[D12]? = some (.cells (ent7 91 r2 k).cs 31 (0, 0)) := hS12.f.hd
  have h11 : W11.heap[D11]? = some (.cells (ent7 90 r1 0).cs 31 (0, 0)) := hS12.f.hd2
  have n12 : D12 ≠ g := hS12.neL _ (List.mem_cons_self ..)
  have n11 : D11 ≠ g := hS12.neL (D11, _) (List.mem_cons_of_mem _ (List.mem_cons_self ..))
  go_wp2_with fail
  try simp only [Act.put, List.setIfInBounds_toArray, List.set_cons_zero, List.set_cons_succ]
  apply wp_merge2 (fun (X Y : Nat) W => Kg g W11 W ∧ W.heap[X]? = some (.cells (ent7 90 r1 0).cs 31 (0, 0)) ∧ W.heap[Y]? = some (.cells (ent7 91 r2 k).cs 31 (0, 0)) ∧ W11.heap.size ≤ X ∧ W11.heap.size ≤ Y ∧ X ≠ Y)
  · refine wp_region_held_drew (S := Kg g W11) (by kernel_rfl) (Kg.start hS12.c) (fun hHeld => ?_)
    refine Held.takeL (i := 0) (v := .agg (ent7 90 r1 0).cs) rfl (by kernel_rfl) (by kernel_rfl) (by kernel_rfl) (fun _ _ _ h => h) ?_ (by assumption) ?_
    · exact yields_ent (by kernel_rfl) (.tmp 11) (by kernel_rfl) D11 (by kernel_rfl) (ent7 90 r1 0) (fun w_ hSw => hSw.blk h11 n11)
    try simp only [Act.put, List.setIfInBounds_toArray, List.set_cons_zero, List.set_cons_succ]
    refine Held.takeL (i := 1) (v := .agg (ent7 91 r2 k).cs) rfl (by kernel_rfl) (by kernel_rfl) (by kernel_rfl) (fun _ _ _ h => h) ?_ (by assumption) ?_
    · exact yields_ent (by kernel_rfl) (.tmp 12) (by kernel_rfl) D12 (by kernel_rfl) (ent7 91 r2 k) (fun w_ hSw => hSw.blk h12 n12)
    try simp only [Act.put, List.setIfInBounds_toArray, List.set_cons_zero, List.set_cons_succ]
    refine wpAnyH_ready (rs := [2, 3]) (by kernel_rfl) (by simp) ?_
    refine Held.consL rfl (fun K hK => ?_) (Held.consL rfl (fun K hK => ?_) AllReadyH.nil)
    · rw [if_pos (by kernel_rfl)]
      refine wp_alloc_new 31 (by kernel_rfl) _ zero31 ?_
      rintro X wa_ hDX hTX hba
      have hgX : g < X := Nat.lt_of_lt_of_le hHeld.lt hDX
      have hDX : W11.heap.size ≤ X := Nat.le_trans hHeld.k.size hDX
      have hH := hHeld.step hba
      clear hba
      refine hK.out _ _ hH (fun hHeld => ?_)
      clear hK K
      try simp only [Act.put, List.setIfInBounds_toArray, List.set_cons_zero, List.set_cons_succ]
      clear hH
      refine wpAnyH_ready (rs := [3]) (by kernel_rfl) (by simp) ?_
      refine Held.consL rfl (fun K hK => ?_) AllReadyH.nil
      rw [if_pos (by kernel_rfl)]
      refine wp_alloc_new 31 (by kernel_rfl) _ zero31 ?_
      rintro Y wa_ hDY hTY hba
      have hgY : g < Y := Nat.lt_of_lt_of_le hHeld.lt hDY
      have hneXY : X ≠ Y := by have := heap_lt hTX; omega
      have hTX := (hba.block X (heap_lt hTX)).trans hTX
      have hDY : W11.heap.size ≤ Y := Nat.le_trans hHeld.k.size hDY
      have hH := hHeld.step hba
      clear hba
      refine hK.out _ _ hH (fun hHeld => ?_)
      clear hK K
      try simp only [Act.put, List.setIfInBounds_toArray, List.set_cons_zero, List.set_cons_succ]
      clear hH
      refine wpAnyH_ready (rs := [4]) (by kernel_rfl) (by simp) ?_
      refine Held.consL rfl (fun K hK => ?_) AllReadyH.nil
      rw [if_pos (by kernel_rfl)]
      refine wp_store_ent (.tmp 15) (.tmp 80) (by kernel_rfl) X (ent7 90 r1 0) _ (by rfl) (by rfl) hTX ?_
      intro wz_ hTN hoth hbel
      have hH := hHeld.high hDX hgX (hbel _ _ (Nat.le_refl _) (Below.refl _ _))
      have hTY := (hoth Y (by omega)).trans hTY
      clear hTX
      have hTX := hTN
      refine hK.out _ _ hH (fun hHeld => ?_)
      clear hK K
      try simp only [Act.put, List.setIfInBounds_toArray, List.set_cons_zero, List.set_cons_succ]
      clear hoth hbel hH hTN
      refine wpAnyH_ready (rs := [5]) (by kernel_rfl) (by simp) ?_
      refine Held.consL rfl (fun K hK => ?_) AllReadyH.nil
      rw [if_pos (by kernel_rfl)]
      refine wp_store_ent (.tmp 16) (.tmp 81) (by kernel_rfl) Y (ent7 91 r2 k) _ (by rfl) (by rfl) hTY ?_
      intro wz_ hTN hoth hbel
      have hH := hHeld.high hDY hgY (hbel _ _ (Nat.le_refl _) (Below.refl _ _))
      have hTX := (hoth X (by omega)).trans hTX
      clear hTY
      have hTY := hTN
      refine hK.out _ _ hH (fun hHeld => ?_)
      clear hK K
      try simp only [Act.put, List.setIfInBounds_toArray, List.set_cons_zero, List.set_cons_succ]
      clear hoth hbel hH hTN
      refine wpAnyH_done (by kernel_rfl) ?_ _
      exact Merge2.mk X Y ⟨hHeld, hTX, hTY, hDX, hDY, hneXY⟩
    · rw [if_pos (by kernel_rfl)]
      refine wp_alloc_new 31 (by kernel_rfl) _ zero31 ?_
      rintro Y wa_ hDY hTY hba
      have hgY : g < Y := Nat.lt_of_lt_of_le hHeld.lt hDY
      have hDY : W11.heap.size ≤ Y := Nat.le_trans hHeld.k.size hDY
      have hH := hHeld.step hba
      clear hba
      refine hK.out _ _ hH (fun hHeld => ?_)
      clear hK K
      try simp only [Act.put, List.setIfInBounds_toArray, List.set_cons_zero, List.set_cons_succ]
      clear hH
      refine wpAnyH_ready (rs := [2]) (by kernel_rfl) (by simp) ?_
      refine Held.consL rfl (fun K hK => ?_) AllReadyH.nil
      rw [if_pos (by kernel_rfl)]
      refine wp_alloc_new 31 (by kernel_rfl) _ zero31 ?_
      rintro X wa_ hDX hTX hba
      have hgX : g < X := Nat.lt_of_lt_of_le hHeld.lt hDX
      have hneXY : X ≠ Y := by have := heap_lt hTY; omega
      have hTY := (hba.block Y (heap_lt hTY)).trans hTY
      have hDX : W11.heap.size ≤ X := Nat.le_trans hHeld.k.size hDX
      have hH := hHeld.step hba
      clear hba
      refine hK.out _ _ hH (fun hHeld => ?_)
      clear hK K
      try simp only [Act.put, List.setIfInBounds_toArray, List.set_cons_zero, List.set_cons_succ]
      clear hH
      refine wpAnyH_ready (rs := [4]) (by kernel_rfl) (by simp) ?_
      refine Held.consL rfl (fun K hK => ?_) AllReadyH.nil
      rw [if_pos (by kernel_rfl)]
      refine wp_store_ent (.tmp 15) (.tmp 80) (by kernel_rfl) X (ent7 90 r1 0) _ (by rfl) (by rfl) hTX ?_
      intro wz_ hTN hoth hbel
      have hH := hHeld.high hDX hgX (hbel _ _ (Nat.le_refl _) (Below.refl _ _))
      have hTY := (hoth Y (by omega)).trans hTY
      clear hTX
      have hTX := hTN
      refine hK.out _ _ hH (fun hHeld => ?_)
      clear hK K
      try simp only [Act.put, List.setIfInBounds_toArray, List.set_cons_zero, List.set_cons_succ]
      clear hoth hbel hH hTN
      refine wpAnyH_ready (rs := [5]) (by kernel_rfl) (by simp) ?_
      refine Held.consL rfl (fun K hK => ?_) AllReadyH.nil
      rw [if_pos (by kernel_rfl)]
      refine wp_store_ent (.tmp 16) (.tmp 81) (by kernel_rfl) Y (ent7 91 r2 k) _ (by rfl) (by rfl) hTY ?_
      intro wz_ hTN hoth hbel
      have hH := hHeld.high hDY hgY (hbel _ _ (Nat.le_refl _) (Below.refl _ _))
      have hTX := (hoth X (by omega)).trans hTX
      clear hTY
      have hTY := hTN
      refine hK.out _ _ hH (fun hHeld => ?_)
      clear hK K
      try simp only [Act.put, List.setIfInBounds_toArray, List.set_cons_zero, List.set_cons_succ]
      clear hoth hbel hH hTN
      refine wpAnyH_done (by kernel_rfl) ?_ _
      exact Merge2.mk X Y ⟨hHeld, hTX, hTY, hDX, hDY, hneXY⟩
  rintro X Y W12 ⟨hG, hTX, hTY, hDX, hDY, hneXY⟩
  have hgX : g < X := Nat.lt_of_lt_of_le hS12.lt hDX
  have hgY : g < Y := Nat.lt_of_lt_of_le hS12.lt hDY
  cases x1
  · have hS14 := ((hS12.kg hG).add hTX (Nat.ne_of_gt hgX)).add hTY (Nat.ne_of_gt hgY)
    clear hG hS12 h11 h12 n11 n12 hTX hTY
    obtain ⟨a6, c6, p6, f6, h6⟩ := (hS14.ix (D := D6) (l := l) (by simp)).len HLN.out
    have t11 := hS14.get (b := D11) (o := .cells (ent7 90 r1 0).cs 31 (0, 0)) (by simp)
    go_wp2_with (refine wpList_load_ent (by rfl) (.tmp 11) rfl D11 rfl (ent7 90 r1 0) t11 ?_)
    refine (HN.out g a6 N c6 l (ent7 90 r1 0) WF1.out _ h6 hS14.lt).mono ?_
    rintro e w15 ⟨a15, n15, c15, rfl, hR15, hb15⟩
    rw [C1.out] at hR15 ⊢
    have hR15 : RwAt w15 g a15 n15 c15 l1 := hR15
    obtain rfl : N = n15 := by rw [← hR15.len]; exact Z1.out.symm
    have hSa := hS14.step hb15
    have hlL := hSa.ltL
    have hlX := hSa.ltX
    have hg17 := hSa.lt
    have hS15 := hSa.box hR15
    have hQ15 := hR15.alloc (.cells #[.slice a15 N c15] 25)
    obtain ⟨D17, hD17⟩ : ∃ D, w15.heap.size = D := ⟨_, rfl⟩
    obtain ⟨W15, hW15⟩ : ∃ W, w15.alloc (.cells #[.slice a15 N c15] 25) = W := ⟨_, rfl⟩
    rw [hW15] at hS15 hQ15
    rw [hD17] at hS15 hlL hlX hg17
    have HlL := Lib.hid hlL; have HlX := Lib.hid hlX
    have t12 := hS15.get (b := D12) (o := .cells (ent7 91 r2 k).cs 31 (0, 0)) (by simp)
    have HW15 := Lib.hid hW15
    clear hSa hlL hlX hR15 hb15 hS14 p6 f6 h6 t11 hW15
    go_wp2_with (refine wpList_load_ent (by rfl) (.tmp 12) rfl D12 rfl (ent7 91 r2 k) (by rw [HW15.out]; exact t12) ?_)
    rw [HW15.out]
    try rw [hD17]
    refine (HN.out g a15 N c15 l1 (ent7 91 r2 k) WF2.out _ hQ15 hS15.lt).mono ?_
    rintro e w16 ⟨a16, n16, c16, rfl, hR16, hb16⟩
    rw [C2.out] at hR16 ⊢
    have hR16 : RwAt w16 g a16 n16 c16 l2 := hR16
    obtain rfl : N = n16 := by rw [← hR16.len]; exact Z2.out.symm
    have hS16 := hS15.step hb16
    obtain ⟨a17, c17, p17, f17, h17⟩ := (hS16.ix (D := D17) (l := l1) (by simp)).len Z1.out
    obtain ⟨_, _, _, hblk16, _, _⟩ := hS16.ix (D := D17) (l := l1) (by simp)
    have hS17 := hS16.put (D := D17) hg17 HlL.out HlX.out hR16
    obtain ⟨W16, hW16⟩ : ∃ W, w16.setCell ⟨D17, 0, none⟩ (.slice a16 N c16) = W := ⟨_, rfl⟩
    rw [hW16] at hS17
    have HW16 := Lib.hid hW16
    clear hW16
    clear hS15 hS16 hb16 hQ15 t12 h17 HW15
    have hq : RwAt W16 g a16 N c16 l2 := by rw [← HW16.out]; exact hR16.setCell (hR16.ne_box hblk16) _ _
    go_wp2_with fail
    rw [HW16.out]
    refine (HI.out g a16 N c16 (1 + u) y l2 _ hq hS17.lt).mono ?_
    clear hq hR16 hblk16 p17 f17
    rintro e w17 ⟨a_17, n17, c_17, rfl, hR17, hb17⟩
    rw [C3.out] at hR17 ⊢
    have hR17 : RwAt w17 g a_17 n17 c_17 l3 := hR17
    obtain rfl : N = n17 := by rw [← hR17.len]; exact Z3.out.symm
    have hS17b := hS17.step hb17
    obtain ⟨a17, c17, p17, f17, h17⟩ := (hS17b.ix (D := D17) (l := l2) (by simp)).len Z2.out
    have hS18 := hS17b.put (D := D17) hg17 HlL.out HlX.out hR17
    obtain ⟨W17, hW17⟩ : ∃ W, w17.setCell ⟨D17, 0, none⟩ (.slice a_17 N c_17) = W := ⟨_, rfl⟩
    rw [hW17] at hS18
    have HW17 := Lib.hid hW17
    clear hW17
    clear hS17 hS17b hb17 h17 hR17 HW16
    obtain ⟨a6, c6, p6, f6, h6⟩ := (hS18.ix (D := D6) (l := l) (by simp)).len HLN.out
    have p6' : (w17.setCell ⟨D17, 0, none⟩ (.slice a_17 N c_17)).cell? ⟨D6, 0, none⟩ = some (.slice a6 N c6) := by rw [HW17.out]; exact p6
    go_wp2_with fail
    rw [HW17.out]
    refine (HI.out g a6 N c6 (1 + u) y l _ h6 hS18.lt).mono ?_
    clear p6' p6 f6 h6 p17 f17
    rintro e w18 ⟨a18, n18, c18, rfl, hR18, hb18⟩
    rw [C4.out] at hR18 ⊢
    have hR18 : RwAt w18 g a18 n18 c18 m1 := hR18
    obtain rfl : N = n18 := by rw [← hR18.len]; exact Z4.out.symm
    have hSa := hS18.step hb18
    have hlL := hSa.ltL
    have hlX := hSa.ltX
    have hg21 := hSa.lt
    have hS19 := hSa.box hR18
    have hQ18 := hR18.alloc (.cells #[.slice a18 N c18] 25)
    obtain ⟨D21, hD21⟩ : ∃ D, w18.heap.size = D := ⟨_, rfl⟩
    obtain ⟨W18, hW18⟩ : ∃ W, w18.alloc (.cells #[.slice a18 N c18] 25) = W := ⟨_, rfl⟩
    rw [hW18] at hS19 hQ18
    rw [hD21] at hS19 hlL hlX hg21
    have HlL := Lib.hid hlL; have HlX := Lib.hid hlX
    have tX := hS19.get (b := X) (o := .cells (ent7 90 r1 0).cs 31 (0, 0)) (by simp)
    have HW18 := Lib.hid hW18
    clear hSa hlL hlX hR18 hb18 hS18 HW17 hW18
    go_wp2_with (refine wpList_load_ent (by rfl) (.tmp 15) rfl X rfl (ent7 90 r1 0) (by rw [HW18.out]; exact tX) ?_)
    rw [HW18.out]
    try rw [hD21]
    refine (HN.out g a18 N c18 m1 (ent7 90 r1 0) WF1.out _ hQ18 hS19.lt).mono ?_
    rintro e w19 ⟨a19, n19, c19, rfl, hR19, hb19⟩
    rw [C5.out] at hR19 ⊢
    have hR19 : RwAt w19 g a19 n19 c19 m2 := hR19
    obtain rfl : N = n19 := by rw [← hR19.len]; exact Z5.out.symm
    have hS19b := hS19.step hb19
    obtain ⟨a21, c21, p21, f21, h21⟩ := (hS19b.ix (D := D21) (l := m1) (by simp)).len Z4.out
    obtain ⟨_, _, _, hblk19, _, _⟩ := hS19b.ix (D := D21) (l := m1) (by simp)
    have hS20 := hS19b.put (D := D21) hg21 HlL.out HlX.out hR19
    obtain ⟨W19, hW19⟩ : ∃ W, w19.setCell ⟨D21, 0, none⟩ (.slice a19 N c19) = W := ⟨_, rfl⟩
    rw [hW19] at hS20
    have HW19 := Lib.hid hW19
    clear hW19
    have hq : RwAt W19 g a19 N c19 m2 := by rw [← HW19.out]; exact hR19.setCell (hR19.ne_box hblk19) _ _
    have tY := hS20.get (b := Y) (o := .cells (ent7 91 r2 k).cs 31 (0, 0)) (by simp)
    clear hS19 hS19b hb19 h21 hQ18 tX HW18 hR19 hblk19
    go_wp2_with (refine wpList_load_ent (by rfl) (.tmp 16) rfl Y rfl (ent7 91 r2 k) (by rw [HW19.out]; exact tY) ?_)
    rw [HW19.out]
    refine (HN.out g a19 N c19 m2 (ent7 91 r2 k) WF2.out _ hq hS20.lt).mono ?_
    clear hq tY p21 f21
    rintro e w20 ⟨a20, n20, c20, rfl, hR20, hb20⟩
    rw [C6.out] at hR20 ⊢
    have hR20 : RwAt w20 g a20 n20 c20 l3 := hR20
    obtain rfl : N = n20 := by rw [← hR20.len]; exact Z3.out.symm
    have hS20b := hS20.step hb20
    obtain ⟨a21, c21, p21, f21, h21⟩ := (hS20b.ix (D := D21) (l := m2) (by simp)).len Z5.out
    obtain ⟨_, _, _, hblk20, _, _⟩ := hS20b.ix (D := D21) (l := m2) (by simp)
    have hS21 := hS20b.put (D := D21) hg21 HlL.out HlX.out hR20
    obtain ⟨W20, hW20⟩ : ∃ W, w20.setCell ⟨D21, 0, none⟩ (.slice a20 N c20) = W := ⟨_, rfl⟩
    rw [hW20] at hS21
    have HW20 := Lib.hid hW20
    clear hW20
    have hq : RwAt W20 g a20 N c20 l3 := by rw [← HW20.out]; exact hR20.setCell (hR20.ne_box hblk20) _ _
    clear hS20 hS20b hb20 h21 hR20 hblk20 HW19
    obtain ⟨a17, c17, p17, f17, h17⟩ := (hS21.ix (D := D17) (l := l3) (by simp)).len Z3.out
    have p17' : (w20.setCell ⟨D21, 0, none⟩ (.slice a20 N c20)).cell? ⟨D17, 0, none⟩ = some (.slice a17 N c17) := by rw [HW20.out]; exact p17
    go_wp2_with fail
    rw [HW20.out]
    refine (same_calls g g _ _ _ _ _ _ l3 _ h17 hq).mono ?_
    rintro e w21 ⟨rfl, hb21⟩
    have hF := Lib.hid (hS21.step hb21).out
    clear hS21 hb21 h17 hq p17 p17' f17 p21 f21
    go_wp2_with fail
    go_ret
    exact ⟨rfl, hF.out⟩
  · go_wp2_with fail
    try simp only [Act.put, List.setIfInBounds_toArray, List.set_cons_zero, List.set_cons_succ]
    refine wp_region_held_drew (S := Kg g W11) (by kernel_rfl) ⟨hG.k.drew, hG.c.drew⟩ (fun hHeld => ?_)
    refine Held.takeL (i := 0) (v := .agg (ent7 91 r2 k).cs) rfl (by kernel_rfl) (by kernel_rfl) (by kernel_rfl) (fun _ _ _ h => h) ?_ (by assumption) ?_
    · exact yields_ent (by kernel_rfl) (.tmp 12) (by kernel_rfl) D12 (by kernel_rfl) (ent7 91 r2 k) (fun w_ hSw => hSw.blk h12 n12)
    try simp only [Act.put, List.setIfInBounds_toArray, List.set_cons_zero, List.set_cons_succ]
    refine Held.takeL (i := 1) (v := .agg (ent7 90 r1 0).cs) rfl (by kernel_rfl) (by kernel_rfl) (by kernel_rfl) (fun _ _ _ h => h) ?_ (by assumption) ?_
    · exact yields_ent (by kernel_rfl) (.tmp 11) (by kernel_rfl) D11 (by kernel_rfl) (ent7 90 r1 0) (fun w_ hSw => hSw.blk h11 n11)
    try simp only [Act.put, List.setIfInBounds_toArray, List.set_cons_zero, List.set_cons_succ]
    refine wpAnyH_ready (rs := [2]) (by kernel_rfl) (by simp) ?_
    refine Held.consL rfl (fun K hK => ?_) AllReadyH.nil
    rw [if_pos (by kernel_rfl)]
    refine wp_store_ent (.tmp 15) (.tmp 83) (by kernel_rfl) X (ent7 91 r2 k) _ (by rfl) (by rfl) hTX ?_
    intro wz_ hTN hoth hbel
    have hH := hHeld.high hDX hgX (hbel _ _ (Nat.le_refl _) (Below.refl _ _))
    have hTY := (hoth Y (by omega)).trans hTY
    clear hTX
    have hTX := hTN
    refine hK.out _ _ hH (fun hHeld => ?_)
    clear hK K
    try simp only [Act.put, List.setIfInBounds_toArray, List.set_cons_zero, List.set_cons_succ]
    clear hoth hbel hH hTN
    refine wpAnyH_ready (rs := [3]) (by kernel_rfl) (by simp) ?_
    refine Held.consL rfl (fun K hK => ?_) AllReadyH.nil
    rw [if_pos (by kernel_rfl)]
    refine wp_store_ent (.tmp 16) (.tmp 84) (by kernel_rfl) Y (ent7 90 r1 0) _ (by rfl) (by rfl) hTY ?_
    intro wz_ hTN hoth hbel
    have hH := hHeld.high hDY hgY (hbel _ _ (Nat.le_refl _) (Below.refl _ _))
    have hTX := (hoth X (by omega)).trans hTX
    clear hTY
    have hTY := hTN
    refine hK.out _ _ hH (fun hHeld => ?_)
    clear hK K
    try simp only [Act.put, List.setIfInBounds_toArray, List.set_cons_zero, List.set_cons_succ]
    clear hoth hbel hH hTN
    refine wpAnyH_done (by kernel_rfl) ?_ _
    have hG := hHeld
    clear hHeld
    have hS14 := ((hS12.kg hG).add hTX (Nat.ne_of_gt hgX)).add hTY (Nat.ne_of_gt hgY)
    clear hG hS12 h11 h12 n11 n12 hTX hTY
    obtain ⟨a6, c6, p6, f6, h6⟩ := (hS14.ix (D := D6) (l := l) (by simp)).len HLN.out
    have t11 := hS14.get (b := D11) (o := .cells (ent7 90 r1 0).cs 31 (0, 0)) (by simp)
    go_wp2_with (refine wpList_load_ent (by rfl) (.tmp 11) rfl D11 rfl (ent7 90 r1 0) t11 ?_)
    refine (HN.out g a6 N c6 l (ent7 90 r1 0) WF1.out _ h6 hS14.lt).mono ?_
    rintro e w15 ⟨a15, n15, c15, rfl, hR15, hb15⟩
    rw [C1.out] at hR15 ⊢
    have hR15 : RwAt w15 g a15 n15 c15 l1 := hR15
    obtain rfl : N = n15 := by rw [← hR15.len]; exact Z1.out.symm
    have hSa := hS14.step hb15
    have hlL := hSa.ltL
    have hlX := hSa.ltX
    have hg17 := hSa.lt
    have hS15 := hSa.box hR15
    have hQ15 := hR15.alloc (.cells #[.slice a15 N c15] 25)
    obtain ⟨D17, hD17⟩ : ∃ D, w15.heap.size = D := ⟨_, rfl⟩
    obtain ⟨W15, hW15⟩ : ∃ W, w15.alloc (.cells #[.slice a15 N c15] 25) = W := ⟨_, rfl⟩
    rw [hW15] at hS15 hQ15
    rw [hD17] at hS15 hlL hlX hg17
    have HlL := Lib.hid hlL; have HlX := Lib.hid hlX
    have t12 := hS15.get (b := D12) (o := .cells (ent7 91 r2 k).cs 31 (0, 0)) (by simp)
    have HW15 := Lib.hid hW15
    clear hSa hlL hlX hR15 hb15 hS14 p6 f6 h6 t11 hW15
    go_wp2_with (refine wpList_load_ent (by rfl) (.tmp 12) rfl D12 rfl (ent7 91 r2 k) (by rw [HW15.out]; exact t12) ?_)
    rw [HW15.out]
    try rw [hD17]
    refine (HN.out g a15 N c15 l1 (ent7 91 r2 k) WF2.out _ hQ15 hS15.lt).mono ?_
    rintro e w16 ⟨a16, n16, c16, rfl, hR16, hb16⟩
    rw [C2.out] at hR16 ⊢
    have hR16 : RwAt w16 g a16 n16 c16 l2 := hR16
    obtain rfl : N = n16 := by rw [← hR16.len]; exact Z2.out.symm
    have hS16 := hS15.step hb16
    obtain ⟨a17, c17, p17, f17, h17⟩ := (hS16.ix (D := D17) (l := l1) (by simp)).len Z1.out
    obtain ⟨_, _, _, hblk16, _, _⟩ := hS16.ix (D := D17) (l := l1) (by simp)
    have hS17 := hS16.put (D := D17) hg17 HlL.out HlX.out hR16
    obtain ⟨W16, hW16⟩ : ∃ W, w16.setCell ⟨D17, 0, none⟩ (.slice a16 N c16) = W := ⟨_, rfl⟩
    rw [hW16] at hS17
    have HW16 := Lib.hid hW16
    clear hW16
    clear hS15 hS16 hb16 hQ15 t12 h17 HW15
    have hq : RwAt W16 g a16 N c16 l2 := by rw [← HW16.out]; exact hR16.setCell (hR16.ne_box hblk16) _ _
    go_wp2_with fail
    rw [HW16.out]
    refine (HI.out g a16 N c16 (1 + u) y l2 _ hq hS17.lt).mono ?_
    clear hq hR16 hblk16 p17 f17
    rintro e w17 ⟨a_17, n17, c_17, rfl, hR17, hb17⟩
    rw [C3.out] at hR17 ⊢
    have hR17 : RwAt w17 g a_17 n17 c_17 l3 := hR17
    obtain rfl : N = n17 := by rw [← hR17.len]; exact Z3.out.symm
    have hS17b := hS17.step hb17
    obtain ⟨a17, c17, p17, f17, h17⟩ := (hS17b.ix (D := D17) (l := l2) (by simp)).len Z2.out
    have hS18 := hS17b.put (D := D17) hg17 HlL.out HlX.out hR17
    obtain ⟨W17, hW17⟩ : ∃ W, w17.setCell ⟨D17, 0, none⟩ (.slice a_17 N c_17) = W := ⟨_, rfl⟩
    rw [hW17] at hS18
    have HW17 := Lib.hid hW17
    clear hW17
    clear hS17 hS17b hb17 h17 hR17 HW16
    obtain ⟨a6, c6, p6, f6, h6⟩ := (hS18.ix (D := D6) (l := l) (by simp)).len HLN.out
    have p6' : (w17.setCell ⟨D17, 0, none⟩ (.slice a_17 N c_17)).cell? ⟨D6, 0, none⟩ = some (.slice a6 N c6) := by rw [HW17.out]; exact p6
    go_wp2_with fail
    rw [HW17.out]
    refine (HI.out g a6 N c6 (1 + u) y l _ h6 hS18.lt).mono ?_
    clear p6' p6 f6 h6 p17 f17
    rintro e w18 ⟨a18, n18, c18, rfl, hR18, hb18⟩
    rw [C4.out] at hR18 ⊢
    have hR18 : RwAt w18 g a18 n18 c18 m1 := hR18
    obtain rfl : N = n18 := by rw [← hR18.len]; exact Z4.out.symm
    have hSa := hS18.step hb18
    have hlL := hSa.ltL
    have hlX := hSa.ltX
    have hg21 := hSa.lt
    have hS19 := hSa.box hR18
    have hQ18 := hR18.alloc (.cells #[.slice a18 N c18] 25)
    obtain ⟨D21, hD21⟩ : ∃ D, w18.heap.size = D := ⟨_, rfl⟩
    obtain ⟨W18, hW18⟩ : ∃ W, w18.alloc (.cells #[.slice a18 N c18] 25) = W := ⟨_, rfl⟩
    rw [hW18] at hS19 hQ18
    rw [hD21] at hS19 hlL hlX hg21
    have HlL := Lib.hid hlL; have HlX := Lib.hid hlX
    have tX := hS19.get (b := X) (o := .cells (ent7 91 r2 k).cs 31 (0, 0)) (by simp)
    have HW18 := Lib.hid hW18
    clear hSa hlL hlX hR18 hb18 hS18 HW17 hW18
    go_wp2_with (refine wpList_load_ent (by rfl) (.tmp 15) rfl X rfl (ent7 91 r2 k) (by rw [HW18.out]; exact tX) ?_)
    rw [HW18.out]
    try rw [hD21]
    refine (HN.out g a18 N c18 m1 (ent7 91 r2 k) WF2.out _ hQ18 hS19.lt).mono ?_
    rintro e w19 ⟨a19, n19, c19, rfl, hR19, hb19⟩
    rw [C7.out] at hR19 ⊢
    have hR19 : RwAt w19 g a19 n19 c19 p2 := hR19
    obtain rfl : N = n19 := by rw [← hR19.len]; exact Z6.out.symm
    have hS19b := hS19.step hb19
    obtain ⟨a21, c21, p21, f21, h21⟩ := (hS19b.ix (D := D21) (l := m1) (by simp)).len Z4.out
    obtain ⟨_, _, _, hblk19, _, _⟩ := hS19b.ix (D := D21) (l := m1) (by simp)
    have hS20 := hS19b.put (D := D21) hg21 HlL.out HlX.out hR19
    obtain ⟨W19, hW19⟩ : ∃ W, w19.setCell ⟨D21, 0, none⟩ (.slice a19 N c19) = W := ⟨_, rfl⟩
    rw [hW19] at hS20
    have HW19 := Lib.hid hW19
    clear hW19
    have hq : RwAt W19 g a19 N c19 p2 := by rw [← HW19.out]; exact hR19.setCell (hR19.ne_box hblk19) _ _
    have tY := hS20.get (b := Y) (o := .cells (ent7 90 r1 0).cs 31 (0, 0)) (by simp)
    clear hS19 hS19b hb19 h21 hQ18 tX HW18 hR19 hblk19
    go_wp2_with (refine wpList_load_ent (by rfl) (.tmp 16) rfl Y rfl (ent7 90 r1 0) (by rw [HW19.out]; exact tY) ?_)
    rw [HW19.out]
    refine (HN.out g a19 N c19 p2 (ent7 90 r1 0) WF1.out _ hq hS20.lt).mono ?_
    clear hq tY p21 f21
    rintro e w20 ⟨a20, n20, c20, rfl, hR20, hb20⟩
    rw [C8.out] at hR20 ⊢
    have hR20 : RwAt w20 g a20 n20 c20 l3 := hR20
    obtain rfl : N = n20 := by rw [← hR20.len]; exact Z3.out.symm
    have hS20b := hS20.step hb20
    obtain ⟨a21, c21, p21, f21, h21⟩ := (hS20b.ix (D := D21) (l := p2) (by simp)).len Z6.out
    obtain ⟨_, _, _, hblk20, _, _⟩ := hS20b.ix (D := D21) (l := p2) (by simp)
    have hS21 := hS20b.put (D := D21) hg21 HlL.out HlX.out hR20
    obtain ⟨W20, hW20⟩ : ∃ W, w20.setCell ⟨D21, 0, none⟩ (.slice a20 N c20) = W := ⟨_, rfl⟩
    rw [hW20] at hS21
    have HW20 := Lib.hid hW20
    clear hW20
    have hq : RwAt W20 g a20 N c20 l3 := by rw [← HW20.out]; exact hR20.setCell (hR20.ne_box hblk20) _ _
    clear hS20 hS20b hb20 h21 hR20 hblk20 HW19
    obtain ⟨a17, c17, p17, f17, h17⟩ := (hS21.ix (D := D17) (l := l3) (by simp)).len Z3.out
    have p17' : (w20.setCell ⟨D21, 0, none⟩ (.slice a20 N c20)).cell? ⟨D17, 0, none⟩ = some (.slice a17 N c17) := by rw [HW20.out]; exact p17
    go_wp2_with fail
    rw [HW20.out]
    refine (same_calls g g _ _ _ _ _ _ l3 _ h17 hq).mono ?_
    rintro e w21 ⟨rfl, hb21⟩
    have hF := Lib.hid (hS21.step hb21).out
    clear hS21 hb21 h17 hq p17 p17' f17 p21 f21
    go_wp2_with fail
    go_ret
    exact ⟨rfl, hF.out⟩
end Go.Proofs.Ytldkgmodmpnclaa
