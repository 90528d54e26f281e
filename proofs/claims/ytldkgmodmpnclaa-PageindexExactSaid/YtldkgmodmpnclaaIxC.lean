/- The index: Encode and Decode. -/
import Derived.Test.YtldkgmodmpnclaaIxB
import Derived.Test.YtldkgmodmpnclaaTail
/-! The bytes of an index: the walks, of the program and of the reference. -/
namespace Go.Proofs.Ytldkgmodmpnclaa
open Go.RowKit Go.Proofs
set_option linter.unusedVariables false
set_option linter.unusedSimpArgs false
def putRow (s : ByteArray) (r : Row3) : ByteArray := s ++ leB r.lsn 8 ++ leB r.image 8 ++ leB r.ilsn 8
/-- The bytes of the first j rows. -/
def encUp (l : List Row3) (j : Nat) : ByteArray := (l.take j).foldl putRow (ByteArray.empty ++ leB l.length 2)
def encI (l : List Row3) : ByteArray := if idxOk l then encUp l l.length else ByteArray.empty
def encE (l : List Row3) : Int := if idxOk l then 0 else 28
theorem encUp_zero (l : List Row3) : encUp l 0 = ByteArray.empty ++ leB l.length 2 := rfl
theorem encUp_step (l : List Row3) (j : Nat) (r : Row3) (h : l[j]? = some r) : encUp l (j + 1) = putRow (encUp l j) r := by
  unfold encUp
  rw [List.take_add_one, h, List.foldl_append]
  rfl
theorem putRow_size (s : ByteArray) (r : Row3) : (putRow s r).size = s.size + 24 := by
  unfold putRow
  simp only [ByteArray.size_append, leB_size]
theorem encUp_size (l : List Row3) (j : Nat) (h : j ≤ l.length) : (encUp l j).size = 2 + 24 * j := by
  induction j with
  | zero => rw [encUp_zero, ByteArray.size_append, leB_size]; rfl
  | succ j ih =>
    rw [encUp_step l j (l[j]'(by omega)) (by simp), putRow_size, ih (by omega)]
    omega
set_option maxHeartbeats 4000000 in
set_option maxRecDepth 100000 in
theorem encIdx_calls (g : Nat) (a : Option Addr) (n c : Nat) (l : List Row3) (w : World) (h : RwAt w g a n c l) :
    Calls Try.prog 25 #[.agg #[.slice a n c]] w fun e w' => e = .returned (.tuple #[.string (encI l), .int .i64 (encE l)]) ∧ Below w.heap.size w w' := by
  obtain ⟨A, hA⟩ : ∃ A, w.heap.size = A := ⟨_, rfl⟩
  obtain ⟨W, hW⟩ : ∃ W, w.alloc (.cells #[.slice a n c] 25) = W := ⟨_, rfl⟩
  have hWs : W.heap.size = A + 1 := by rw [← hW]; simp [hA]
  have hWa : W.heap[A]? = some (.cells #[.slice a n c] 25 (0, 0)) := by rw [← hW, ← hA]; exact heap_alloc_new _ _
  have hb : Below A w W := by rw [← hW, ← hA]; exact (Below.refl _ _).alloc (Nat.le_refl _) _
  have H1 : RwAt W g a n c l := by rw [← hW]; exact h.alloc _
  have hWac : W.cell? ⟨A, 0, none⟩ = some (.slice a n c) := by rw [heap_cell hWa]; rfl
  have hln := h.len
  have hle := h.le
  have htop := h.top
  have HV := Lib.hid (fun W h => validIdx_calls g a n c l W h)
  obtain ⟨b0, e0⟩ : ∃ b, idxOk l = b := ⟨_, rfl⟩
  rw [e0] at HV
  have hI : encI l = if b0 then encUp l n else ByteArray.empty := by unfold encI; rw [e0, hln]
  have hE : encE l = if b0 then 0 else 28 := by unfold encE; rw [e0]
  have HI := Lib.hid hI; have HE := Lib.hid hE
  have H := Lib.hid H1
  have HB := Lib.hid hb
  have HLN := Lib.hid hln
  have HE0 := Lib.hid e0
  have HW := Lib.hid (show ∀ W', Below (A + 1) W W' → W'.cell? ⟨A, 0, none⟩ = some (.slice a n c) from fun W' hB => (hB.cell (p := ⟨A, 0, none⟩) (show A < A + 1 by omega)).trans hWac)
  have HWW := Lib.hid hW
  clear h H1 hWa hb hln e0 hI hE hW
  rw [hA]
  go_enter Try.func25, Try.ntmps25
  go_wp2_with fail
  rw [HWW.out]
  try rw [hA]
  refine (HV.out W H.out).mono ?_
  rintro e w1 ⟨rfl, hB1⟩
  rw [hWs] at hB1
  have hc1 := HW.out w1 hB1
  cases b0
  · have HF := Lib.hid (HB.out.trans (hB1.mono (by omega)))
    go_wp2_with fail
    go_ret2
    exact ⟨by rw [HI.out, HE.out]; rfl, HF.out⟩
  · obtain ⟨hn1, hn2⟩ := idxOk_len HE0.out
    rw [HLN.out] at hn1 hn2
    have hs1 := hB1.size
    go_wp2_with fail
    refine (putC_int ⟨#[]⟩ n 2 _ (by omega) (by omega) (by show 0 ≤ _; omega)).mono ?_
    rintro e w2 ⟨rfl, hB2⟩
    have hB2 := hB1.trans (hB2.mono (by omega))
    have hc2 := HW.out w2 hB2
    have HB2 := Lib.hid hB2
    clear hB1 hc1 hB2
    go_wp2_with fail
    go_loopw [4, 17] (fun s i wr => ∃ j : Nat, j ≤ n ∧ i = .int .i64 j ∧ s = .string (encUp l j) ∧ Below (A + 1) W wr) (fun _ i _ => n - (intOf i).toNat)
    case atStart => exact ⟨0, by omega, rfl, by rw [encUp_zero, HLN.out]; rfl, HB2.out⟩
    case round =>
      clear hc2
      obtain ⟨j, hj, rfl, rfl, hB⟩ := hrel
      have hsr := hB.size
      by_cases hlt : j < n
      · have hdec : decide (j < n) = true := by simp; omega
        obtain ⟨b, off, r, rfl, hr, hrg, hb0⟩ := (H.out.below (hB.mono (by omega))).row j hlt
        have hz : (encUp l j).size = 2 + 24 * j := encUp_size l j (by rw [HLN.out]; omega)
        have hst := encUp_step l j r hr
        obtain ⟨s, hs⟩ : ∃ s, encUp l j = s := ⟨_, rfl⟩
        rw [hs] at hz hst ⊢
        have HZ := Lib.hid hz
        have HST := Lib.hid hst
        have hN := heap_alloc_new wr (.cells #[.int .i64 r.lsn, .int .i64 r.image, .int .i64 r.ilsn] 84)
        have hBn := hB.alloc (by omega) (.cells #[.int .i64 r.lsn, .int .i64 r.image, .int .i64 r.ilsn] 84)
        obtain ⟨D, hD⟩ : ∃ D, wr.heap.size = D := ⟨_, rfl⟩
        obtain ⟨wn, hwn⟩ : ∃ wn, wr.alloc (.cells #[.int .i64 r.lsn, .int .i64 r.image, .int .i64 r.ilsn] 84) = wn := ⟨_, rfl⟩
        rw [hD, hwn] at hN
        rw [hwn] at hBn
        have hDl := heap_lt hN
        have HN := Lib.hid hN
        have HBn := Lib.hid hBn
        have HWN := Lib.hid hwn
        clear hr hz hst hs hB hN hBn hwn
        go_wp2_with (refine wpList_load_row3 (.tmp 19) ⟨rfl, rfl⟩ b (off + j * 3) rfl r hrg ?_)
        rw [HWN.out]
        try rw [hD]
        have hS : ∀ w', Kp wn.heap.size wn w' → w'.cell? ⟨D, 0, none⟩ = some (.int .i64 r.lsn) ∧ w'.cell? ⟨D, 1, none⟩ = some (.int .i64 r.image) ∧ w'.cell? ⟨D, 2, none⟩ = some (.int .i64 r.ilsn) := fun w' h => by
          have := (h.below.block D hDl).trans HN.out
          exact ⟨by rw [heap_cell this]; rfl, by rw [heap_cell this]; rfl, by rw [heap_cell this]; rfl⟩
        refine wp_region_held_drew (S := Kp wn.heap.size wn) (by kernel_rfl) (Kp.start wn _ (Nat.le_refl _)) (fun hHeld => ?_)
        refine Held.takeL (i := 0) (v := ?_) rfl (by kernel_rfl) (by kernel_rfl) (by kernel_rfl) (fun _ _ _ h => h) (.inl ⟨by kernel_rfl, ?_⟩) (by assumption) ?_
        rotate_left
        · (intro w_ hSw; go_simp; first | done | with_reducible rfl)
        try simp only [Act.put, List.setIfInBounds_toArray, List.set_cons_zero, List.set_cons_succ]
        refine Held.takeL (i := 1) (v := ?_) rfl (by kernel_rfl) (by kernel_rfl) (by kernel_rfl) (fun _ _ _ h => h) (.inl ⟨by kernel_rfl, ?_⟩) (by assumption) ?_
        rotate_left
        · (intro w_ hSw; go_simp; first | done | with_reducible rfl)
        try simp only [Act.put, List.setIfInBounds_toArray, List.set_cons_zero, List.set_cons_succ]
        refine Held.takeL (i := 2) (v := ?_) rfl (by kernel_rfl) (by kernel_rfl) (by kernel_rfl) (fun _ _ _ h => h) (.inl ⟨by kernel_rfl, ?_⟩) (by assumption) ?_
        rotate_left
        · (intro w_ hSw; obtain ⟨q0, q1, q2⟩ := hS w_ hSw; go_simp; first | done | with_reducible rfl)
        try simp only [Act.put, List.setIfInBounds_toArray, List.set_cons_zero, List.set_cons_succ]
        refine Held.takeL (i := 4) (v := ?_) rfl (by kernel_rfl) (by kernel_rfl) (by kernel_rfl) (fun _ _ _ h => h) (.inl ⟨by kernel_rfl, ?_⟩) (by assumption) ?_
        rotate_left
        · (intro w_ hSw; go_simp; first | done | with_reducible rfl)
        try simp only [Act.put, List.setIfInBounds_toArray, List.set_cons_zero, List.set_cons_succ]
        refine Held.takeL (i := 5) (v := ?_) rfl (by kernel_rfl) (by kernel_rfl) (by kernel_rfl) (fun _ _ _ h => h) (.inl ⟨by kernel_rfl, ?_⟩) (by assumption) ?_
        rotate_left
        · (intro w_ hSw; obtain ⟨q0, q1, q2⟩ := hS w_ hSw; go_simp; first | done | with_reducible rfl)
        try simp only [Act.put, List.setIfInBounds_toArray, List.set_cons_zero, List.set_cons_succ]
        refine Held.takeL (i := 7) (v := ?_) rfl (by kernel_rfl) (by kernel_rfl) (by kernel_rfl) (fun _ _ _ h => h) (.inl ⟨by kernel_rfl, ?_⟩) (by assumption) ?_
        rotate_left
        · (intro w_ hSw; go_simp; first | done | with_reducible rfl)
        try simp only [Act.put, List.setIfInBounds_toArray, List.set_cons_zero, List.set_cons_succ]
        refine Held.takeL (i := 8) (v := ?_) rfl (by kernel_rfl) (by kernel_rfl) (by kernel_rfl) (fun _ _ _ h => h) (.inl ⟨by kernel_rfl, ?_⟩) (by assumption) ?_
        rotate_left
        · (intro w_ hSw; obtain ⟨q0, q1, q2⟩ := hS w_ hSw; go_simp; first | done | with_reducible rfl)
        try simp only [Act.put, List.setIfInBounds_toArray, List.set_cons_zero, List.set_cons_succ]
        refine wpAnyH_ready (rs := [3]) (by kernel_rfl) (by simp) ?_
        refine Held.consL rfl (fun K hK => ?_) AllReadyH.nil
        go_simp
        refine (putC_int _ _ 8 _ (by omega) (by omega) ?_).mono ?_
        · first | (show s.size ≤ _; have := HZ.out; omega) | (show (s ++ leB r.lsn 8).size ≤ _; have := HZ.out; rw [ByteArray.size_append, leB_size]; omega) | (show (s ++ leB r.lsn 8 ++ leB r.image 8).size ≤ _; have := HZ.out; rw [ByteArray.size_append, ByteArray.size_append, leB_size, leB_size]; omega)
        rintro e_ w7 ⟨rfl, hbp⟩
        refine hK.out _ _ (hHeld.step hbp) (fun hHeld => ?_)
        clear hK K
        try simp only [Act.put, List.setIfInBounds_toArray, List.set_cons_zero, List.set_cons_succ]
        refine wpAnyH_ready (rs := [6]) (by kernel_rfl) (by simp) ?_
        refine Held.consL rfl (fun K hK => ?_) AllReadyH.nil
        go_simp
        refine (putC_int _ _ 8 _ (by omega) (by omega) ?_).mono ?_
        · first | (show s.size ≤ _; have := HZ.out; omega) | (show (s ++ leB r.lsn 8).size ≤ _; have := HZ.out; rw [ByteArray.size_append, leB_size]; omega) | (show (s ++ leB r.lsn 8 ++ leB r.image 8).size ≤ _; have := HZ.out; rw [ByteArray.size_append, ByteArray.size_append, leB_size, leB_size]; omega)
        rintro e_ w8 ⟨rfl, hbp⟩
        refine hK.out _ _ (hHeld.step hbp) (fun hHeld => ?_)
        clear hK K
        try simp only [Act.put, List.setIfInBounds_toArray, List.set_cons_zero, List.set_cons_succ]
        refine wpAnyH_ready (rs := [9]) (by kernel_rfl) (by simp) ?_
        refine Held.consL rfl (fun K hK => ?_) AllReadyH.nil
        go_simp
        refine (putC_int _ _ 8 _ (by omega) (by omega) ?_).mono ?_
        · first | (show s.size ≤ _; have := HZ.out; omega) | (show (s ++ leB r.lsn 8).size ≤ _; have := HZ.out; rw [ByteArray.size_append, leB_size]; omega) | (show (s ++ leB r.lsn 8 ++ leB r.image 8).size ≤ _; have := HZ.out; rw [ByteArray.size_append, ByteArray.size_append, leB_size, leB_size]; omega)
        rintro e_ w9 ⟨rfl, hbp⟩
        refine hK.out _ _ (hHeld.step hbp) (fun hHeld => ?_)
        clear hK K
        try simp only [Act.put, List.setIfInBounds_toArray, List.set_cons_zero, List.set_cons_succ]
        refine Held.takeL (i := 10) (v := ?_) rfl (by kernel_rfl) (by kernel_rfl) (by kernel_rfl) (fun _ _ _ h => h) (.inl ⟨by kernel_rfl, ?_⟩) (by assumption) ?_
        rotate_left
        · (intro w_ hSw; go_simp; first | done | with_reducible rfl)
        try simp only [Act.put, List.setIfInBounds_toArray, List.set_cons_zero, List.set_cons_succ]
        refine wpAnyH_done (by kernel_rfl) ?_ _
        have HKf := Lib.hid (show Below (A + 1) W w9 from HBn.out.trans (hHeld.below.mono (by have := HBn.out.size; omega)))
        go_wp2_with fail
        go_roundw
        case rel => exact ⟨j + 1, by omega, by go_num, by rw [HST.out]; rfl, HKf.out⟩
        case measure => simp [intOf]; omega
      · have hdec : decide (j < n) = false := by simp; omega
        obtain rfl : j = n := by omega
        have HF := Lib.hid (HB.out.trans (hB.mono (by omega)))
        go_wp2_with fail
        go_ret2
        exact ⟨by rw [HI.out, HE.out]; rfl, HF.out⟩
set_option maxHeartbeats 4000000 in
set_option maxRecDepth 100000 in
theorem encIdx11_calls (g : Nat) (a : Option Addr) (n c : Nat) (l : List Row3) (w : World) (h : RwAt w g a n c l) :
    Calls Try.prog 26 #[.agg #[.slice a n c]] w fun e w' => e = .returned (.tuple #[.string (encI l), .int .i64 (encE l)]) ∧ Below w.heap.size w w' := by
  obtain ⟨A, hA⟩ : ∃ A, w.heap.size = A := ⟨_, rfl⟩
  obtain ⟨W, hW⟩ : ∃ W, w.alloc (.cells #[.slice a n c] 25) = W := ⟨_, rfl⟩
  have hWs : W.heap.size = A + 1 := by rw [← hW]; simp [hA]
  have hWa : W.heap[A]? = some (.cells #[.slice a n c] 25 (0, 0)) := by rw [← hW, ← hA]; exact heap_alloc_new _ _
  have hb : Below A w W := by rw [← hW, ← hA]; exact (Below.refl _ _).alloc (Nat.le_refl _) _
  have H1 : RwAt W g a n c l := by rw [← hW]; exact h.alloc _
  have hWac : W.cell? ⟨A, 0, none⟩ = some (.slice a n c) := by rw [heap_cell hWa]; rfl
  have hln := h.len
  have hle := h.le
  have htop := h.top
  have HV := Lib.hid (fun W h => valid11_calls g a n c l W h)
  obtain ⟨b0, e0⟩ : ∃ b, idxOk l = b := ⟨_, rfl⟩
  rw [e0] at HV
  have hI : encI l = if b0 then encUp l n else ByteArray.empty := by unfold encI; rw [e0, hln]
  have hE : encE l = if b0 then 0 else 28 := by unfold encE; rw [e0]
  have HI := Lib.hid hI; have HE := Lib.hid hE
  have H := Lib.hid H1
  have HB := Lib.hid hb
  have HLN := Lib.hid hln
  have HE0 := Lib.hid e0
  have HW := Lib.hid (show ∀ W', Below (A + 1) W W' → W'.cell? ⟨A, 0, none⟩ = some (.slice a n c) from fun W' hB => (hB.cell (p := ⟨A, 0, none⟩) (show A < A + 1 by omega)).trans hWac)
  have HWW := Lib.hid hW
  clear h H1 hWa hb hln e0 hI hE hW
  rw [hA]
  go_enter Try.func26, Try.ntmps26
  go_wp2_with fail
  rw [HWW.out]
  try rw [hA]
  refine (HV.out W H.out).mono ?_
  rintro e w1 ⟨rfl, hB1⟩
  rw [hWs] at hB1
  have hc1 := HW.out w1 hB1
  cases b0
  · have HF := Lib.hid (HB.out.trans (hB1.mono (by omega)))
    go_wp2_with fail
    go_ret2
    exact ⟨by rw [HI.out, HE.out]; rfl, HF.out⟩
  · obtain ⟨hn1, hn2⟩ := idxOk_len HE0.out
    rw [HLN.out] at hn1 hn2
    have hs1 := hB1.size
    go_wp2_with fail
    refine (put01_int ⟨#[]⟩ n 2 _ (by omega) (by omega) (by show 0 ≤ _; omega)).mono ?_
    rintro e w2 ⟨rfl, hB2⟩
    have hB2 := hB1.trans (hB2.mono (by omega))
    have HB2 := Lib.hid hB2
    clear hB1 hc1 hB2
    go_wp2_with fail
    go_loopw [4, 5] (fun s i wr => ∃ j : Nat, j ≤ n ∧ i = .int .i64 j ∧ s = .string (encUp l j) ∧ Below (A + 1) W wr) (fun _ i _ => n - (intOf i).toNat)
    case atStart => exact ⟨0, by omega, rfl, by rw [encUp_zero, HLN.out]; rfl, HB2.out⟩
    case round =>
      obtain ⟨j, hj, rfl, rfl, hB⟩ := hrel
      have hsr := hB.size
      have hc1 := HW.out wr hB
      by_cases hlt : j < n
      · have hdec : decide (j < n) = true := by simp; omega
        obtain ⟨b, off, r, rfl, hr, hrg, hb0⟩ := (H.out.below (hB.mono (by omega))).row j hlt
        have hz : (encUp l j).size = 2 + 24 * j := encUp_size l j (by rw [HLN.out]; omega)
        have hst := encUp_step l j r hr
        obtain ⟨s, hs⟩ : ∃ s, encUp l j = s := ⟨_, rfl⟩
        rw [hs] at hz hst ⊢
        have HZ := Lib.hid hz
        have HST := Lib.hid hst
        have i0 : (0 : Int) ≤ (j : Int) := by omega
        have i1 : (j : Int) < (n : Int) := by omega
        have HRG := Lib.hid (show ∀ W', Below wr.heap.size wr W' → W'.cell? ⟨b, off + j * 3, none⟩ = some (.int .i64 r.lsn) ∧ W'.cell? ⟨b, off + j * 3 + 1, none⟩ = some (.int .i64 r.image) ∧ W'.cell? ⟨b, off + j * 3 + 2, none⟩ = some (.int .i64 r.ilsn) from fun W' h => by
          have k0 := hrg 0 _ rfl
          have k1 := hrg 1 _ rfl
          have k2 := hrg 2 _ rfl
          exact ⟨(h.cell (p := ⟨b, off + j * 3 + 0, none⟩) hb0).trans k0, (h.cell (p := ⟨b, off + j * 3 + 1, none⟩) hb0).trans k1, (h.cell (p := ⟨b, off + j * 3 + 2, none⟩) hb0).trans k2⟩)
        obtain ⟨q0, q1, q2⟩ := HRG.out wr (Below.refl _ _)
        have HBr := Lib.hid hB
        clear hr hz hst hs hrg hB
        go_wp2_with fail
        refine (put01_int _ _ 8 _ (by omega) (by omega) (by have := HZ.out; omega)).mono ?_
        rintro e w3 ⟨rfl, hb3⟩
        have HB3 := Lib.hid hb3
        have hc3 := HW.out w3 (HBr.out.trans (hb3.mono (by omega)))
        clear q0 q1 q2 hc1 hb3
        obtain ⟨q0, q1, q2⟩ := HRG.out w3 HB3.out
        go_wp2_with fail
        refine (put01_int _ _ 8 _ (by omega) (by omega) (by show (s ++ leB r.lsn 8).size ≤ _; have := HZ.out; rw [ByteArray.size_append, leB_size]; omega)).mono ?_
        rintro e w4 ⟨rfl, hb4⟩
        have HB4 := Lib.hid (HB3.out.trans (hb4.mono HB3.out.size))
        have hc4 := HW.out w4 (HBr.out.trans (HB4.out.mono (by omega)))
        clear q0 q1 q2 hc3 hb4
        obtain ⟨q0, q1, q2⟩ := HRG.out w4 HB4.out
        go_wp2_with fail
        refine (put01_int _ _ 8 _ (by omega) (by omega) (by show (s ++ leB r.lsn 8 ++ leB r.image 8).size ≤ _; have := HZ.out; rw [ByteArray.size_append, ByteArray.size_append, leB_size, leB_size]; omega)).mono ?_
        rintro e w5 ⟨rfl, hb5⟩
        have HKf := Lib.hid (HBr.out.trans ((HB4.out.trans (hb5.mono HB4.out.size)).mono (by omega)))
        clear q0 q1 q2 hc4 hb5
        go_wp2_with fail
        go_roundw
        case rel => exact ⟨j + 1, by omega, by go_num, by rw [HST.out]; rfl, HKf.out⟩
        case measure => simp [intOf]; omega
      · have hdec : decide (j < n) = false := by simp; omega
        obtain rfl : j = n := by omega
        have HF := Lib.hid (HB.out.trans (hB.mono (by omega)))
        go_wp2_with fail
        go_ret2
        exact ⟨by rw [HI.out, HE.out]; rfl, HF.out⟩
end Go.Proofs.Ytldkgmodmpnclaa
/-! What bytes mean as an index: the program's walk. -/
namespace Go.Proofs.Ytldkgmodmpnclaa
open Go.RowKit Go.Proofs
set_option linter.unusedVariables false
set_option linter.unusedSimpArgs false
/-- Row i of the bytes. -/
def rdRow (s : ByteArray) (i : Nat) : Row3 := ⟨getV s (2 + 24 * i) 8, getV s (2 + 24 * i + 8) 8, getV s (2 + 24 * i + 16) 8⟩
def rdRows (s : ByteArray) (n : Nat) : List Row3 := (List.range n).map (rdRow s)
/-- What Decode answers. -/
def decI (s : ByteArray) : List Row3 × Int :=
  if s.size < 2 then ([], 5) else if s.size < 2 + 24 * leN s 0 2 then ([], 5) else if 2 + 24 * leN s 0 2 < s.size then ([], 4)
  else if idxOk (rdRows s (leN s 0 2)) = false then ([], 28) else (rdRows s (leN s 0 2), 0)
theorem rdRows_succ (s : ByteArray) (j : Nat) : rdRows s (j + 1) = rdRows s j ++ [rdRow s j] := by
  unfold rdRows
  rw [List.range_succ, List.map_append]
  rfl
theorem rdRows_length (s : ByteArray) (n : Nat) : (rdRows s n).length = n := by simp [rdRows]
theorem RwAt.of_owns {w : World} {base g n : Nat} {v : Value} {l : List Row3} (h : w.ownsRow base 84 3 v n (rowsV l)) (hg : g < base) : ∃ a c, v = .slice a n c ∧ RwAt w g a n c l := by
  by_cases hv : v = .slice none 0 0
  · obtain ⟨h1, ⟨_, rfl⟩ | ⟨b, cap, cur, e, _⟩⟩ := h
    · rw [rowsV_length] at h1
      obtain rfl : l = [] := List.length_eq_zero_iff.1 (by omega)
      exact ⟨none, 0, hv, RwAt.nil _ _⟩
    · rw [hv] at e
      cases e
  · obtain ⟨b, c, rfl, hb, hO⟩ := RwOwn.of h hv
    exact ⟨_, c, rfl, hO.rw (by omega)⟩
theorem owns_below {w w' : World} {base n : Nat} {v : Value} {xs : List Value} (h : w.ownsRow base 84 3 v n xs) (hb : Below w.heap.size w w') : w'.ownsRow base 84 3 v n xs :=
  h.kept (row := none) ⟨hb.os, hb.tape, hb.output, hb.size, fun k hk _ => hb.block k hk⟩ (by cases v.ownBlock <;> simp)
/-- A row as a slice of one. -/
theorem wp_row1 {o : Oper} {act : Act} {w : World} {K : Act → World → Prop} {Q : Exit → Act → World → Prop} (x : Operand) (ho : o.op = .buildSlice 23 1 #[(0, x)]) (r : Row3) (hx : act.eval x = .agg #[.int .i64 r.lsn, .int .i64 r.image, .int .i64 r.ilsn]) (g : Nat) (hg : g < w.heap.size)
    (h : ∀ N w', w.heap.size ≤ N → RwAt w' g (some ⟨N, 0, none⟩) 1 1 [r] → Below w.heap.size w w' → K (act.put o.dst (.slice (some ⟨N, 0, none⟩) 1 1)) w') : Oper.wp Try.prog o act w K Q := by
  have hO : RwOwn (w.alloc (.cells #[.int .i64 r.lsn, .int .i64 r.image, .int .i64 r.ilsn] 84)) w.heap.size 1 1 [r] := ⟨⟨_, heap_alloc_new _ _, rfl⟩, rfl, Nat.le_refl _, by omega⟩
  refine wp_buildSlice_rows 23 84 3 1 #[(0, x)] ho [#[.int .i64 r.lsn, .int .i64 r.image, .int .i64 r.ilsn]] (.agg #[.int .i64 0, .int .i64 0, .int .i64 0]) Try.underlying23 (by kernel_rfl) Try.zeroValue84 (fun q hq => by simp at hq; subst hq; rfl) (by simp) (by simp) rfl (by simp [hx]) ?_
  exact h _ _ (Nat.le_refl _) (hO.rw (by omega)) ((Below.refl _ _).alloc (Nat.le_refl _) _)
theorem getF_calls (s : ByteArray) (i f p : Nat) (w : World) (hp : w.cell? ⟨p, 0, none⟩ = some (.string s)) (hs : s.size ≤ 1000000) (hi : 2 + 24 * i + 8 * f + 8 ≤ s.size) (hf : f ≤ 2) :
    Calls Try.prog 70 #[.int .i64 i, .int .i64 f, .pointer (some ⟨p, 0, none⟩)] w fun e w' => e = .returned (.int .i64 (getV s (2 + 24 * i + 8 * f) 8)) ∧ w = w' := by
  have i1 : IntKind.i64.wrap ((i : Int) * 24) = (i : Int) * 24 := IntWalk.i64_in _ (by omega)
  have i2 : IntKind.i64.wrap (2 + (i : Int) * 24) = 2 + (i : Int) * 24 := IntWalk.i64_in _ (by omega)
  have i3 : IntKind.i64.wrap ((f : Int) * 8) = (f : Int) * 8 := IntWalk.i64_in _ (by omega)
  have i4 : IntKind.i64.wrap (2 + (i : Int) * 24 + (f : Int) * 8) = 2 + (i : Int) * 24 + (f : Int) * 8 := IntWalk.i64_in _ (by omega)
  have i5 : (2 + (i : Int) * 24 + (f : Int) * 8).toNat = 2 + 24 * i + 8 * f := by omega
  go_enter Try.func70, Try.ntmps70
  go_wp2_with fail
  refine (getC_int s _ 8 _ (by omega) (by omega) (by omega) (by omega) (by omega)).mono ?_
  rintro e w' ⟨rfl, rfl⟩
  go_wp2_with fail
  go_ret
  exact ⟨rfl, rfl⟩
theorem decI_short1 {s : ByteArray} (h : s.size < 2) : decI s = ([], 5) := by unfold decI; rw [if_pos h]
theorem decI_short2 {s : ByteArray} {n : Nat} (hn : leN s 0 2 = n) (h : ¬ s.size < 2) (h2 : s.size < 2 + 24 * n) : decI s = ([], 5) := by unfold decI; rw [hn, if_neg h, if_pos h2]
theorem decI_form {s : ByteArray} {n : Nat} (hn : leN s 0 2 = n) (h : ¬ s.size < 2) (h2 : ¬ s.size < 2 + 24 * n) (h3 : 2 + 24 * n < s.size) : decI s = ([], 4) := by unfold decI; rw [hn, if_neg h, if_neg h2, if_pos h3]
theorem decI_bad {s : ByteArray} {n : Nat} (hn : leN s 0 2 = n) (h : s.size = 2 + 24 * n) (hk : idxOk (rdRows s n) = false) : decI s = ([], 28) := by unfold decI; rw [hn, if_neg (by omega), if_neg (by omega), if_neg (by omega), if_pos hk]
theorem decI_ok {s : ByteArray} {n : Nat} (hn : leN s 0 2 = n) (h : s.size = 2 + 24 * n) (hk : idxOk (rdRows s n) = true) : decI s = (rdRows s n, 0) := by unfold decI; rw [hn, if_neg (by omega), if_neg (by omega), if_neg (by omega), if_neg (by simp [hk])]
set_option maxHeartbeats 4000000 in
set_option maxRecDepth 100000 in
theorem decIdx_calls (g : Nat) (s : ByteArray) (w : World) (hs : s.size ≤ 1000000) (hg : g < w.heap.size) : Calls Try.prog 30 #[.string s] w (IdxAns g (decI s) w) := by
  obtain ⟨A, hA⟩ : ∃ A, w.heap.size = A := ⟨_, rfl⟩
  obtain ⟨W, hW⟩ : ∃ W, (w.alloc (.cells #[.string s] 9)).alloc (.cells #[.slice none 0 0] 25) = W := ⟨_, rfl⟩
  have hWs : W.heap.size = A + 2 := by rw [← hW]; simp [hA]
  have hWa : W.heap[A]? = some (.cells #[.string s] 9 (0, 0)) := by rw [← hW, ← hA]; exact heap_alloc_of (heap_alloc_new _ _)
  have hWb : W.heap[A + 1]? = some (.cells #[.slice none 0 0] 25 (0, 0)) := by
    have hs1 : (w.alloc (.cells #[.string s] 9)).heap.size = A + 1 := by simp [hA]
    rw [← hW, ← hs1]
    exact heap_alloc_new _ _
  have hb : Below A w W := by rw [← hW, ← hA]; exact ((Below.refl _ _).alloc (Nat.le_refl _) _).alloc (by simp) _
  have hWc : W.cell? ⟨A, 0, none⟩ = some (.string s) := by rw [heap_cell hWa]; rfl
  have hWd : W.cell? ⟨A + 1, 0, none⟩ = some (.slice none 0 0) := by rw [heap_cell hWb]; rfl
  have hWf : W.frozen? ⟨A + 1, 0, none⟩ = false := heap_free hWb 0
  have HWa := Lib.hid hWa
  have HWb := Lib.hid hWb
  have HB := Lib.hid hb
  have HW := Lib.hid hW
  clear hWa hWb hb hW
  rw [hA] at hg
  by_cases h2 : s.size < 2
  · have hI := Lib.hid (decI_short1 h2)
    go_enter Try.func30, Try.ntmps30
    go_wp2_with fail
    rw [HW.out]
    try rw [hA]
    refine (getC_short s 0 2 _ (by omega) (by omega) (by omega) (by omega)).mono ?_
    rintro e w1 ⟨rfl, rfl⟩
    go_wp2_with fail
    rw [hI.out]
    exact end25s rfl rfl HWb.out rfl rfl ⟨none, 0, 0, rfl, RwAt.nil _ _, by rw [hA]; exact setCell_below HB.out (by omega) _⟩
  obtain ⟨n, hn⟩ : ∃ n, leN s 0 2 = n := ⟨_, rfl⟩
  have hn16 : n < 65536 := by rw [← hn]; exact leN_lt s 0 2
  have hgv : getV s (0 : Int).toNat (2 : Int).toNat = (n : Int) := by
    show getV s 0 2 = _
    rw [getV_small s 0 2 (by omega), hn]
  have w1_ : IntKind.i64.wrap ((n : Int) * 24) = (n : Int) * 24 := IntWalk.i64_in _ (by omega)
  have w2_ : IntKind.i64.wrap (2 + (n : Int) * 24) = 2 + (n : Int) * 24 := IntWalk.i64_in _ (by omega)
  have HG := Lib.hid (fun W => getC_int s 0 2 W (by omega) (by omega) (by omega) (by omega) (by omega))
  rw [hgv] at HG
  have HN := Lib.hid hn
  have H2 := Lib.hid h2
  clear hn h2 hgv
  by_cases h3 : s.size < 2 + 24 * n
  · have hI := Lib.hid (decI_short2 HN.out H2.out h3)
    have d1 : decide ((s.size : Int) < 2 + (n : Int) * 24) = true := by simp; omega
    go_enter Try.func30, Try.ntmps30
    go_wp2_with fail
    rw [HW.out]
    try rw [hA]
    refine (HG.out _).mono ?_
    rintro e w1 ⟨rfl, rfl⟩
    go_wp2_with fail
    rw [hI.out]
    exact end25s rfl rfl HWb.out rfl rfl ⟨none, 0, 0, rfl, RwAt.nil _ _, by rw [hA]; exact setCell_below HB.out (by omega) _⟩
  have d1 : decide ((s.size : Int) < 2 + (n : Int) * 24) = false := by simp; omega
  by_cases h4 : 2 + 24 * n < s.size
  · have hI := Lib.hid (decI_form HN.out H2.out h3 h4)
    have d2 : decide (2 + (n : Int) * 24 < (s.size : Int)) = true := by simp; omega
    go_enter Try.func30, Try.ntmps30
    go_wp2_with fail
    rw [HW.out]
    try rw [hA]
    refine (HG.out _).mono ?_
    rintro e w1 ⟨rfl, rfl⟩
    go_wp2_with fail
    rw [hI.out]
    exact end25s rfl rfl HWb.out rfl rfl ⟨none, 0, 0, rfl, RwAt.nil _ _, by rw [hA]; exact setCell_below HB.out (by omega) _⟩
  have d2 : decide (2 + (n : Int) * 24 < (s.size : Int)) = false := by simp; omega
  have hsz : s.size = 2 + 24 * n := by omega
  have HSZ := Lib.hid hsz
  obtain ⟨W2, hW2⟩ : ∃ W2, W.alloc (.cells #[.slice none 0 0] 25) = W2 := ⟨_, rfl⟩
  have m0 : W2.heap[A]? = some (.cells #[.string s] 9 (0, 0)) := by rw [← hW2]; exact heap_alloc_of HWa.out
  have m1 : W2.heap[A + 1]? = some (.cells #[.slice none 0 0] 25 (0, 0)) := by rw [← hW2]; exact heap_alloc_of HWb.out
  have m2 : W2.heap[A + 2]? = some (.cells #[.slice none 0 0] 25 (0, 0)) := by rw [← hW2, ← hWs]; exact heap_alloc_new _ _
  have m3 : Below A w W2 := by rw [← hW2]; exact HB.out.alloc (by omega) _
  have m4 : W2.heap.size = A + 3 := by rw [← hW2]; simp [hWs]
  have HM := Lib.hid (And.intro m0 (And.intro m1 (And.intro m2 m3)))
  have HW2 := Lib.hid hW2
  clear h3 h4 hsz m0 m1 m2 m3 hW2
  go_enter Try.func30, Try.ntmps30
  go_wp2_with fail
  rw [HW.out]
  try rw [hA]
  refine (HG.out _).mono ?_
  rintro e w1 ⟨rfl, rfl⟩
  go_wp2_with fail
  rw [HW2.out]
  try rw [hWs]
  go_loopw [36] (fun i wr => ∃ (j : Nat) (v : Value), j ≤ n ∧ i = .int .i64 j ∧ wr.heap[A]? = some (.cells #[.string s] 9 (0, 0)) ∧ wr.heap[A + 1]? = some (.cells #[.slice none 0 0] 25 (0, 0)) ∧ wr.heap[A + 2]? = some (.cells #[v] 25 (0, 0)) ∧ wr.ownsRow (A + 3) 84 3 v j (rowsV (rdRows s j)) ∧ Below A w wr ∧ A + 3 ≤ wr.heap.size) (fun i _ => n - (intOf i).toNat)
  case atStart => exact ⟨0, _, by omega, rfl, HM.out.1, HM.out.2.1, HM.out.2.2.1, World.ownsRow_nil _ _ _ _, HM.out.2.2.2, by omega⟩
  case round =>
    clear hWc hWd hWf
    obtain ⟨j, v, hj, rfl, p0, p1, p2, hO, hB, hsr⟩ := hrel
    have c0 : wr.cell? ⟨A, 0, none⟩ = some (.string s) := by rw [heap_cell p0]; rfl
    have c2 : wr.cell? ⟨A + 2, 0, none⟩ = some v := by rw [heap_cell p2]; rfl
    by_cases hlt : j < n
    · have hdec : decide ((j : Int) < n) = true := by simp; omega
      have hdec2 : decide (j < n) = true := by simp; omega
      have HF := Lib.hid (fun (f : Nat) (hf : f ≤ 2) => getF_calls s j f A wr.drew c0 hs (by have := HSZ.out; omega) hf)
      have P0 := Lib.hid p0; have P1 := Lib.hid p1; have P2 := Lib.hid p2; have HO := Lib.hid hO; have HBr := Lib.hid hB
      obtain ⟨r, hr⟩ : ∃ r, rdRow s j = r := ⟨_, rfl⟩
      have r0 : getV s (2 + 24 * j + 8 * 0) 8 = r.lsn := by rw [← hr]; rfl
      have r1 : getV s (2 + 24 * j + 8 * 1) 8 = r.image := by rw [← hr]; rfl
      have r2 : getV s (2 + 24 * j + 8 * 2) 8 = r.ilsn := by rw [← hr]; rfl
      have R0 := Lib.hid r0; have R1 := Lib.hid r1; have R2 := Lib.hid r2; have HR := Lib.hid hr
      clear p0 p1 p2 hO hB r0 r1 r2 hr
      go_wp2_with fail
      refine Whichever.start (S := fun w_ => w_.cell? ⟨A + 2, 0, none⟩ = some v) (n := 15) (by kernel_rfl) ?_
      have hS : wr.drew.cell? ⟨A + 2, 0, none⟩ = some v := c2
      refine Whichever.any (i := 0) (v := ?_) rfl (by kernel_rfl) (by kernel_rfl) (by kernel_rfl) (by kernel_rfl) (fun _ _ _ h => h) (.inl ⟨by rfl, ?_⟩) (fun _ => hS) ?_
      rotate_left
      · (intro w_ _; go_simp; first | done | with_reducible rfl)
      simp only [Act.put, List.setIfInBounds_toArray, List.set_cons_zero, List.set_cons_succ]
      refine Whichever.take (i := 1) (v := ?_) rfl (by kernel_rfl) (by kernel_rfl) (by kernel_rfl) (by kernel_rfl) (by kernel_rfl) (by kernel_rfl) (fun _ _ _ h => h) (.inl ⟨by rfl, ?_⟩) hS ?_
      rotate_left
      · (intro w_ hSw; (try dsimp only at hSw); go_simp; first | done | with_reducible rfl)
      simp only [Act.put, List.setIfInBounds_toArray, List.set_cons_zero, List.set_cons_succ]
      refine Whichever.any (i := 2) (v := ?_) rfl (by kernel_rfl) (by kernel_rfl) (by kernel_rfl) (by kernel_rfl) (fun _ _ _ h => h) (.inl ⟨by rfl, ?_⟩) (fun _ => hS) ?_
      rotate_left
      · (intro w_ _; go_simp; first | done | with_reducible rfl)
      simp only [Act.put, List.setIfInBounds_toArray, List.set_cons_zero, List.set_cons_succ]
      refine Whichever.any (i := 3) (v := ?_) rfl (by kernel_rfl) (by kernel_rfl) (by kernel_rfl) (by kernel_rfl) (fun _ _ _ h => h) (.inl ⟨by rfl, ?_⟩) (fun _ => hS) ?_
      rotate_left
      · (intro w_ _; go_simp; first | done | with_reducible rfl)
      simp only [Act.put, List.setIfInBounds_toArray, List.set_cons_zero, List.set_cons_succ]
      refine Whichever.any (i := 5) (v := ?_) rfl (by kernel_rfl) (by kernel_rfl) (by kernel_rfl) (by kernel_rfl) (fun _ _ _ h => h) (.inl ⟨by rfl, ?_⟩) (fun _ => hS) ?_
      rotate_left
      · (intro w_ _; go_simp; first | done | with_reducible rfl)
      simp only [Act.put, List.setIfInBounds_toArray, List.set_cons_zero, List.set_cons_succ]
      refine Whichever.any (i := 6) (v := ?_) rfl (by kernel_rfl) (by kernel_rfl) (by kernel_rfl) (by kernel_rfl) (fun _ _ _ h => h) (.inl ⟨by rfl, ?_⟩) (fun _ => hS) ?_
      rotate_left
      · (intro w_ _; go_simp; first | done | with_reducible rfl)
      simp only [Act.put, List.setIfInBounds_toArray, List.set_cons_zero, List.set_cons_succ]
      refine Whichever.any (i := 8) (v := ?_) rfl (by kernel_rfl) (by kernel_rfl) (by kernel_rfl) (by kernel_rfl) (fun _ _ _ h => h) (.inl ⟨by rfl, ?_⟩) (fun _ => hS) ?_
      rotate_left
      · (intro w_ _; go_simp; first | done | with_reducible rfl)
      simp only [Act.put, List.setIfInBounds_toArray, List.set_cons_zero, List.set_cons_succ]
      refine Whichever.any (i := 9) (v := ?_) rfl (by kernel_rfl) (by kernel_rfl) (by kernel_rfl) (by kernel_rfl) (fun _ _ _ h => h) (.inl ⟨by rfl, ?_⟩) (fun _ => hS) ?_
      rotate_left
      · (intro w_ _; go_simp; first | done | with_reducible rfl)
      simp only [Act.put, List.setIfInBounds_toArray, List.set_cons_zero, List.set_cons_succ]
      refine Whichever.one (i := 4) (by kernel_rfl) rfl (fun K_ hK_ => ?_)
      go_simp
      refine (HF.out 0 (by omega)).mono ?_
      rintro e_ w_ ⟨rfl, rfl⟩
      rw [R0.out]
      refine hK_ _ _ (fun _ => hS) ?_
      clear hK_ K_
      refine Whichever.one (i := 7) (by kernel_rfl) rfl (fun K_ hK_ => ?_)
      go_simp
      refine (HF.out 1 (by omega)).mono ?_
      rintro e_ w_ ⟨rfl, rfl⟩
      rw [R1.out]
      refine hK_ _ _ (fun _ => hS) ?_
      clear hK_ K_
      refine Whichever.one (i := 10) (by kernel_rfl) rfl (fun K_ hK_ => ?_)
      go_simp
      refine (HF.out 2 (by omega)).mono ?_
      rintro e_ w_ ⟨rfl, rfl⟩
      rw [R2.out]
      refine hK_ _ _ (fun _ => hS) ?_
      clear hK_ K_
      refine Whichever.any (i := 11) (v := ?_) rfl (by kernel_rfl) (by kernel_rfl) (by kernel_rfl) (by kernel_rfl) (fun _ _ _ h => h) (.inl ⟨by rfl, ?_⟩) (fun _ => hS) ?_
      rotate_left
      · (intro w_ _; go_simp; first | done | with_reducible rfl)
      simp only [Act.put, List.setIfInBounds_toArray, List.set_cons_zero, List.set_cons_succ]
      refine Whichever.one (i := 12) (by kernel_rfl) rfl (fun K_ hK_ => ?_)
      rw [if_pos (by kernel_rfl)]
      refine wp_row1 (.tmp 50) rfl r (by rfl) g (show g < wr.heap.size by omega) ?_
      intro N w5 hN hRN hB5
      have hS5 : w5.cell? ⟨A + 2, 0, none⟩ = some v := (hB5.cell (p := ⟨A + 2, 0, none⟩) (show A + 2 < wr.heap.size by omega)).trans c2
      refine hK_ _ _ (fun _ => hS5) ?_
      clear hK_ K_
      refine Whichever.one (i := 13) (by kernel_rfl) rfl (fun K_ hK_ => ?_)
      rw [if_pos (by kernel_rfl)]
      refine wp_append_rows (.tmp 40) (.tmp 51) rfl (A + 3) v j (rdRows s j) (by rfl) (owns_below (w := wr.drew) HO.out hB5) g _ 1 1 [r] (by rfl) hRN (by omega) (by omega) (by have := hB5.size; have : wr.drew.heap.size = wr.heap.size := rfl; omega) ?_
      intro v6 w6 hO6 hg6 hne6
      obtain ⟨b6, c6, rfl, hb6, _⟩ := RwOwn.of hO6 hne6
      have hown : ∀ k, v.ownBlock = some k → A + 3 ≤ k := fun k hk => ((World.ownsRow.lt (w := wr) HO.out) k hk).1
      have hblk : ∀ k, k < A + 3 → w6.heap[k]? = wr.heap[k]? := fun k hk => (hg6.block k (by have := hB5.size; have : wr.drew.heap.size = wr.heap.size := rfl; omega) (fun e => by have := hown k e.symm; omega)).trans (hB5.block k (show k < wr.heap.size by omega))
      have q0 := (hblk A (by omega)).trans P0.out
      have q1 := (hblk (A + 1) (by omega)).trans P1.out
      have q2 := (hblk (A + 2) (by omega)).trans P2.out
      have hS6 : w6.cell? ⟨A + 2, 0, none⟩ = some v := by rw [heap_cell q2]; rfl
      have hf6 : w6.frozen? ⟨A + 2, 0, none⟩ = false := heap_free q2 0
      refine hK_ _ _ (fun _ => hS6) ?_
      clear hK_ K_
      refine Whichever.any (i := 14) (v := ?_) rfl (by kernel_rfl) (by kernel_rfl) (by kernel_rfl) (by kernel_rfl) (fun _ _ _ h => h) (.inl ⟨by rfl, ?_⟩) (fun _ => hS6) ?_
      rotate_left
      · (intro w_ _; go_simp; first | done | with_reducible rfl)
      simp only [Act.put, List.setIfInBounds_toArray, List.set_cons_zero, List.set_cons_succ]
      refine Whichever.one (i := 15) (by kernel_rfl) rfl (fun K_ hK_ => ?_)
      have hc0_ := hS6
      go_simp
      refine hK_ _ _ (fun h => Bool.noConfusion ((by kernel_rfl : _ = true).symm.trans h)) ?_
      clear hK_ K_
      refine Whichever.done (by kernel_rfl) ?_ _
      have hl6 : A + 3 ≤ w6.heap.size := Nat.le_trans (show A + 3 ≤ wr.heap.size by omega) (Nat.le_trans hB5.size hg6.size)
      have z0 : (w6.setCell ⟨A + 2, 0, none⟩ (.slice (some ⟨b6, 0, none⟩) (j + 1) c6)).heap[A]? = _ := (heap_setCell_other _ _ _ _ (by simp)).trans q0
      have z1 : (w6.setCell ⟨A + 2, 0, none⟩ (.slice (some ⟨b6, 0, none⟩) (j + 1) c6)).heap[A + 1]? = _ := (heap_setCell_other _ _ _ _ (by simp)).trans q1
      have z2 : (w6.setCell ⟨A + 2, 0, none⟩ (.slice (some ⟨b6, 0, none⟩) (j + 1) c6)).heap[A + 2]? = some (.cells #[.slice (some ⟨b6, 0, none⟩) (j + 1) c6] 25 (0, 0)) := by rw [heap_setCell_same _ _ _ _ _ _ q2]; rfl
      have z3 : (w6.setCell ⟨A + 2, 0, none⟩ (.slice (some ⟨b6, 0, none⟩) (j + 1) c6)).ownsRow (A + 3) 84 3 (.slice (some ⟨b6, 0, none⟩) (j + 1) c6) (j + 1) (rowsV (rdRows s (j + 1))) := by
        rw [rdRows_succ, HR.out]
        exact hO6.kept (row := some (A + 2)) ⟨rfl, rfl, rfl, by simp [World.setCell], fun k hk hne => heap_setCell_other _ _ _ _ (fun e => hne (by rw [e]))⟩ (by
          cases hv : Value.ownBlock (.slice (some ⟨b6, 0, none⟩) (j + 1) c6) with
          | none => exact .inl rfl
          | some k => exact .inr (fun e => by have := (hO6.lt k hv).1; injection e; omega))
      have z4 : Below A w (w6.setCell ⟨A + 2, 0, none⟩ (.slice (some ⟨b6, 0, none⟩) (j + 1) c6)) := by
        refine Below.setCell (p := ⟨A + 2, 0, none⟩) ?_ (by simp) _
        exact ⟨hg6.os.trans (hB5.os.trans HBr.out.os), hg6.tape.trans (hB5.tape.trans HBr.out.tape), hg6.output.trans (hB5.output.trans HBr.out.output), Nat.le_trans HBr.out.size (Nat.le_trans hB5.size hg6.size), fun k hk => (hblk k (by omega)).trans (HBr.out.block k hk)⟩
      have Z := Lib.hid (And.intro z0 (And.intro z1 (And.intro z2 (And.intro z3 (And.intro z4 (show A + 3 ≤ (w6.setCell ⟨A + 2, 0, none⟩ (.slice (some ⟨b6, 0, none⟩) (j + 1) c6)).heap.size by simpa [World.setCell] using hl6))))))
      clear z0 z1 z2 z3 z4 hO6 hg6 hblk hown q0 q1 q2
      go_wp2_with fail
      go_roundw
      case rel => exact ⟨j + 1, _, by omega, by go_num, Z.out.1, Z.out.2.1, Z.out.2.2.1, Z.out.2.2.2.1, Z.out.2.2.2.2.1, Z.out.2.2.2.2.2⟩
      case measure => simp [intOf]; omega
    · have hdec : decide ((j : Int) < n) = false := by simp; omega
      have hdec2 : decide (j < n) = false := by simp; omega
      obtain rfl : j = n := by omega
      obtain ⟨a, c, rfl, hR⟩ := RwAt.of_owns (g := g) hO (by omega)
      have HOX := Lib.hid hO
      have HV := Lib.hid (validIdx_calls g a j c (rdRows s j) wr hR)
      have HRR := Lib.hid hR
      obtain ⟨b0, e0⟩ : ∃ b, idxOk (rdRows s j) = b := ⟨_, rfl⟩
      rw [e0] at HV
      have P1 := Lib.hid p1; have P2 := Lib.hid p2; have HBr := Lib.hid hB
      have HE := Lib.hid e0
      clear p0 p1 p2 hO hB hR e0
      go_wp2_with fail
      refine HV.out.mono ?_
      rintro e_ w5 ⟨rfl, hB5⟩
      have q1 := (hB5.block (A + 1) (by omega)).trans P1.out
      have q2 := (hB5.block (A + 2) (by omega)).trans P2.out
      have d3 : w5.cell? ⟨A + 1, 0, none⟩ = some (.slice none 0 0) := by rw [heap_cell q1]; rfl
      have d4 : w5.frozen? ⟨A + 1, 0, none⟩ = false := heap_free q1 0
      have d5 : w5.cell? ⟨A + 2, 0, none⟩ = some (.slice a j c) := by rw [heap_cell q2]; rfl
      have Q1 := Lib.hid q1
      have HF := Lib.hid (HBr.out.trans (hB5.mono (by omega)))
      have HR5 := Lib.hid (HRR.out.below hB5)
      have LT := Lib.hid (show ∀ b off, a = some ⟨b, off, none⟩ → j ≠ 0 → b ≠ A + 1 from fun b off ha hj0 hb => by
        subst ha
        have hlb := (World.ownsRow.lt (w := wr) HOX.out b (by simp [Value.ownBlock])).1
        omega)
      clear q1 q2 hB5
      cases b0
      · have hI := Lib.hid (decI_bad HN.out HSZ.out HE.out)
        go_wp2_with fail
        rw [hI.out]
        exact end25s rfl rfl Q1.out rfl rfl ⟨none, 0, 0, rfl, RwAt.nil _ _, by rw [hA]; exact setCell_below HF.out (by omega) _⟩
      · have hI := Lib.hid (decI_ok HN.out HSZ.out HE.out)
        go_wp2_with fail
        rw [hI.out]
        exact end25s rfl rfl Q1.out rfl rfl ⟨a, j, c, rfl, HR5.out.setCell LT.out _ _, by rw [hA]; exact setCell_below HF.out (by omega) _⟩
end Go.Proofs.Ytldkgmodmpnclaa
/-! What bytes mean as an index: the reference's walk. -/
namespace Go.Proofs.Ytldkgmodmpnclaa
open Go.RowKit Go.Proofs
set_option linter.unusedVariables false
set_option linter.unusedSimpArgs false
theorem wpList_row1 {ops : Array Oper} {rest : List Oper} {o : Oper} {act : Act} {w : World} {Q : Exit → Act → World → Prop} (hgd : o.guard = none) (x : Operand) (ho : o.op = .buildSlice 23 1 #[(0, x)]) (r : Row3) (hx : act.eval x = .agg #[.int .i64 r.lsn, .int .i64 r.image, .int .i64 r.ilsn]) (g : Nat) (hg : g < w.heap.size)
    (h : ∀ N w', w.heap.size ≤ N → RwAt w' g (some ⟨N, 0, none⟩) 1 1 [r] → Below w.heap.size w w' → wpList Try.prog ops Q rest (act.put o.dst (.slice (some ⟨N, 0, none⟩) 1 1)) w') : wpList Try.prog ops Q (o :: rest) act w :=
  wpList_plain hgd fun _ hK => wp_row1 x ho r hx g hg fun N w' h1 h2 h3 => hK _ _ (h N w' h1 h2 h3)
set_option maxHeartbeats 4000000 in
set_option maxRecDepth 100000 in
theorem decIdx11_calls (g : Nat) (s : ByteArray) (w : World) (hs : s.size ≤ 1000000) (hg : g < w.heap.size) : Calls Try.prog 31 #[.string s] w (IdxAns g (decI s) w) := by
  obtain ⟨A, hA⟩ : ∃ A, w.heap.size = A := ⟨_, rfl⟩
  obtain ⟨W, hW⟩ : ∃ W, w.alloc (.cells #[.slice none 0 0] 25) = W := ⟨_, rfl⟩
  have hWs : W.heap.size = A + 1 := by rw [← hW]; simp [hA]
  have hWb : W.heap[A]? = some (.cells #[.slice none 0 0] 25 (0, 0)) := by rw [← hW, ← hA]; exact heap_alloc_new _ _
  have hb : Below A w W := by rw [← hW, ← hA]; exact (Below.refl _ _).alloc (Nat.le_refl _) _
  have hWd : W.cell? ⟨A, 0, none⟩ = some (.slice none 0 0) := by rw [heap_cell hWb]; rfl
  have hWf : W.frozen? ⟨A, 0, none⟩ = false := heap_free hWb 0
  have HWb := Lib.hid hWb
  have HB := Lib.hid hb
  have HW := Lib.hid hW
  have w0_ : IntKind.i64.wrap ((s.size : Int) - 2) = (s.size : Int) - 2 := IntWalk.i64_in _ (by omega)
  clear hWb hb hW
  rw [hA] at hg
  by_cases h2 : s.size < 2
  · have hI := Lib.hid (decI_short1 h2)
    go_enter Try.func31, Try.ntmps31
    go_wp2_with fail
    rw [HW.out]
    try rw [hA]
    refine (get01_short s 0 2 _ (by omega) (by omega) (by omega) (by omega)).mono ?_
    rintro e w1 ⟨rfl, rfl⟩
    go_wp2_with fail
    rw [hI.out]
    exact end25s rfl rfl HWb.out rfl rfl ⟨none, 0, 0, rfl, RwAt.nil _ _, by rw [hA]; exact setCell_below HB.out (by omega) _⟩
  obtain ⟨n, hn⟩ : ∃ n, leN s 0 2 = n := ⟨_, rfl⟩
  have hn16 : n < 65536 := by rw [← hn]; exact leN_lt s 0 2
  have hgv : getV s (0 : Int).toNat (2 : Int).toNat = (n : Int) := by
    show getV s 0 2 = _
    rw [getV_small s 0 2 (by omega), hn]
  have w1_ : IntKind.i64.wrap (24 * (n : Int)) = 24 * (n : Int) := IntWalk.i64_in _ (by omega)
  have HG := Lib.hid (fun W => get01_int s 0 2 W (by omega) (by omega) (by omega) (by omega) (by omega))
  rw [hgv] at HG
  have HN := Lib.hid hn
  have H2 := Lib.hid h2
  clear hn h2 hgv
  by_cases h3 : s.size < 2 + 24 * n
  · have hI := Lib.hid (decI_short2 HN.out H2.out h3)
    have d1 : decide ((s.size : Int) - 2 < 24 * (n : Int)) = true := by simp; omega
    go_enter Try.func31, Try.ntmps31
    go_wp2_with fail
    rw [HW.out]
    try rw [hA]
    refine (HG.out _).mono ?_
    rintro e w1 ⟨rfl, rfl⟩
    go_wp2_with fail
    rw [hI.out]
    exact end25s rfl rfl HWb.out rfl rfl ⟨none, 0, 0, rfl, RwAt.nil _ _, by rw [hA]; exact setCell_below HB.out (by omega) _⟩
  have d1 : decide ((s.size : Int) - 2 < 24 * (n : Int)) = false := by simp; omega
  by_cases h4 : 2 + 24 * n < s.size
  · have hI := Lib.hid (decI_form HN.out H2.out h3 h4)
    have d2 : decide (24 * (n : Int) < (s.size : Int) - 2) = true := by simp; omega
    go_enter Try.func31, Try.ntmps31
    go_wp2_with fail
    rw [HW.out]
    try rw [hA]
    refine (HG.out _).mono ?_
    rintro e w1 ⟨rfl, rfl⟩
    go_wp2_with fail
    rw [hI.out]
    exact end25s rfl rfl HWb.out rfl rfl ⟨none, 0, 0, rfl, RwAt.nil _ _, by rw [hA]; exact setCell_below HB.out (by omega) _⟩
  have d2 : decide (24 * (n : Int) < (s.size : Int) - 2) = false := by simp; omega
  have hsz : s.size = 2 + 24 * n := by omega
  have HSZ := Lib.hid hsz
  obtain ⟨W2, hW2⟩ : ∃ W2, W.alloc (.cells #[.slice none 0 0] 25) = W2 := ⟨_, rfl⟩
  have m1 : W2.heap[A]? = some (.cells #[.slice none 0 0] 25 (0, 0)) := by rw [← hW2]; exact heap_alloc_of HWb.out
  have m2 : W2.heap[A + 1]? = some (.cells #[.slice none 0 0] 25 (0, 0)) := by rw [← hW2, ← hWs]; exact heap_alloc_new _ _
  have m3 : Below A w W2 := by rw [← hW2]; exact HB.out.alloc (by omega) _
  have m4 : W2.heap.size = A + 2 := by rw [← hW2]; simp [hWs]
  have HM := Lib.hid (And.intro m1 (And.intro m2 m3))
  have HW2 := Lib.hid hW2
  clear h3 h4 hsz m1 m2 m3 hW2
  go_enter Try.func31, Try.ntmps31
  go_wp2_with fail
  rw [HW.out]
  try rw [hA]
  refine (HG.out _).mono ?_
  rintro e w1 ⟨rfl, rfl⟩
  go_wp2_with fail
  rw [HW2.out]
  try rw [hWs]
  go_loopw [7] (fun i wr => ∃ (j : Nat) (v : Value), j ≤ n ∧ i = .int .i64 j ∧ wr.heap[A]? = some (.cells #[.slice none 0 0] 25 (0, 0)) ∧ wr.heap[A + 1]? = some (.cells #[v] 25 (0, 0)) ∧ wr.ownsRow (A + 2) 84 3 v j (rowsV (rdRows s j)) ∧ Below A w wr ∧ A + 2 ≤ wr.heap.size) (fun i _ => n - (intOf i).toNat)
  case atStart => exact ⟨0, _, by omega, rfl, HM.out.1, HM.out.2.1, World.ownsRow_nil _ _ _ _, HM.out.2.2, by omega⟩
  case round =>
    clear hWd hWf
    obtain ⟨j, v, hj, rfl, p1, p2, hO, hB, hsr⟩ := hrel
    have c2 : wr.cell? ⟨A + 1, 0, none⟩ = some v := by rw [heap_cell p2]; rfl
    by_cases hlt : j < n
    · have hdec : decide ((j : Int) < n) = true := by simp; omega
      have hdec2 : decide (j < n) = true := by simp; omega
      have P1 := Lib.hid p1; have P2 := Lib.hid p2; have HO := Lib.hid hO; have HBr := Lib.hid hB
      obtain ⟨r, hr⟩ : ∃ r, rdRow s j = r := ⟨_, rfl⟩
      have r0 : getV s ((2 + 24 * (j : Int)).toNat) (8 : Int).toNat = r.lsn := by rw [← hr, show (2 + 24 * (j : Int)).toNat = 2 + 24 * j by omega]; rfl
      have r1 : getV s ((10 + 24 * (j : Int)).toNat) (8 : Int).toNat = r.image := by rw [← hr, show (10 + 24 * (j : Int)).toNat = 2 + 24 * j + 8 by omega]; rfl
      have r2 : getV s ((18 + 24 * (j : Int)).toNat) (8 : Int).toNat = r.ilsn := by rw [← hr, show (18 + 24 * (j : Int)).toNat = 2 + 24 * j + 16 by omega]; rfl
      have x1 : IntKind.i64.wrap (24 * (j : Int)) = 24 * (j : Int) := IntWalk.i64_in _ (by omega)
      have x2 : IntKind.i64.wrap (2 + 24 * (j : Int)) = 2 + 24 * (j : Int) := IntWalk.i64_in _ (by omega)
      have x3 : IntKind.i64.wrap (10 + 24 * (j : Int)) = 10 + 24 * (j : Int) := IntWalk.i64_in _ (by omega)
      have x4 : IntKind.i64.wrap (18 + 24 * (j : Int)) = 18 + 24 * (j : Int) := IntWalk.i64_in _ (by omega)
      have R0 := Lib.hid r0; have R1 := Lib.hid r1; have R2 := Lib.hid r2; have HR := Lib.hid hr
      clear p1 p2 hO hB r0 r1 r2 hr
      go_wp2_with fail
      refine (get01_int s _ 8 _ (by omega) (by omega) (by omega) (by omega) (by have := HSZ.out; omega)).mono ?_
      rintro e_ w_ ⟨rfl, rfl⟩
      rw [R0.out]
      go_wp2_with fail
      refine (get01_int s _ 8 _ (by omega) (by omega) (by omega) (by omega) (by have := HSZ.out; omega)).mono ?_
      rintro e_ w_ ⟨rfl, rfl⟩
      rw [R1.out]
      go_wp2_with fail
      refine (get01_int s _ 8 _ (by omega) (by omega) (by omega) (by omega) (by have := HSZ.out; omega)).mono ?_
      rintro e_ w_ ⟨rfl, rfl⟩
      rw [R2.out]
      have hX2 : (wr.alloc (.cells #[.int .i64 r.lsn, .int .i64 r.image, .int .i64 r.ilsn] 84)).cell? ⟨A + 1, 0, none⟩ = some v := (World.cell?_of_block (w := wr) (a := ⟨A + 1, 0, none⟩) (Below.heap_alloc _ _ _ (show A + 1 < wr.heap.size by omega))).trans c2
      obtain ⟨X, hX⟩ : ∃ X, wr.alloc (.cells #[.int .i64 r.lsn, .int .i64 r.image, .int .i64 r.ilsn] 84) = X := ⟨_, rfl⟩
      have HX := Lib.hid (show Below wr.heap.size wr X from by rw [← hX]; exact (Below.refl _ _).alloc (Nat.le_refl _) _)
      have HXX := Lib.hid hX
      clear hX
      go_wp2_with (first
        | (refine wpList_row1 rfl (.tmp 68) rfl r rfl g (by simp; omega) ?_))
      intro N w5 hN hRN hB5
      rw [HXX.out] at hB5
      have hB5' := HX.out.trans (hB5.mono (by omega))
      have hO5 := owns_below HO.out hB5'
      have hs5 := hB5'.size
      go_wp2_with (refine wpList_append_rows rfl (.tmp 67) (.tmp 69) rfl (A + 2) v j (rdRows s j) rfl hO5 g _ 1 1 [r] rfl hRN (by omega) (by omega) (by omega) ?_)
      intro v6 w6 hO6 hg6 hne6
      obtain ⟨b6, c6, rfl, hb6, _⟩ := RwOwn.of hO6 hne6
      have hown : ∀ k, v.ownBlock = some k → A + 2 ≤ k := fun k hk => ((World.ownsRow.lt (w := wr) HO.out) k hk).1
      have hblk : ∀ k, k < A + 2 → w6.heap[k]? = wr.heap[k]? := fun k hk => (hg6.block k (by omega) (fun e => by have := hown k e.symm; omega)).trans (hB5'.block k (show k < wr.heap.size by omega))
      have q1 := (hblk A (by omega)).trans P1.out
      have q2 := (hblk (A + 1) (by omega)).trans P2.out
      have hS6 : w6.cell? ⟨A + 1, 0, none⟩ = some v := by rw [heap_cell q2]; rfl
      have hf6 : w6.frozen? ⟨A + 1, 0, none⟩ = false := heap_free q2 0
      have hl6 : A + 2 ≤ w6.heap.size := Nat.le_trans (show A + 2 ≤ wr.heap.size by omega) (Nat.le_trans hs5 hg6.size)
      have z1 : (w6.setCell ⟨A + 1, 0, none⟩ (.slice (some ⟨b6, 0, none⟩) (j + 1) c6)).heap[A]? = _ := (heap_setCell_other _ _ _ _ (by simp)).trans q1
      have z2 : (w6.setCell ⟨A + 1, 0, none⟩ (.slice (some ⟨b6, 0, none⟩) (j + 1) c6)).heap[A + 1]? = some (.cells #[.slice (some ⟨b6, 0, none⟩) (j + 1) c6] 25 (0, 0)) := by rw [heap_setCell_same _ _ _ _ _ _ q2]; rfl
      have z3 : (w6.setCell ⟨A + 1, 0, none⟩ (.slice (some ⟨b6, 0, none⟩) (j + 1) c6)).ownsRow (A + 2) 84 3 (.slice (some ⟨b6, 0, none⟩) (j + 1) c6) (j + 1) (rowsV (rdRows s (j + 1))) := by
        rw [rdRows_succ, HR.out]
        exact hO6.kept (row := some (A + 1)) ⟨rfl, rfl, rfl, by simp [World.setCell], fun k hk hne => heap_setCell_other _ _ _ _ (fun e => hne (by rw [e]))⟩ (by
          cases hv : Value.ownBlock (.slice (some ⟨b6, 0, none⟩) (j + 1) c6) with
          | none => exact .inl rfl
          | some k => exact .inr (fun e => by have := (hO6.lt k hv).1; injection e; omega))
      have z4 : Below A w (w6.setCell ⟨A + 1, 0, none⟩ (.slice (some ⟨b6, 0, none⟩) (j + 1) c6)) := by
        refine Below.setCell (p := ⟨A + 1, 0, none⟩) ?_ (by simp) _
        exact ⟨hg6.os.trans (hB5'.os.trans HBr.out.os), hg6.tape.trans (hB5'.tape.trans HBr.out.tape), hg6.output.trans (hB5'.output.trans HBr.out.output), Nat.le_trans HBr.out.size (Nat.le_trans hs5 hg6.size), fun k hk => (hblk k (by omega)).trans (HBr.out.block k hk)⟩
      have Z := Lib.hid (And.intro z1 (And.intro z2 (And.intro z3 (And.intro z4 (show A + 2 ≤ (w6.setCell ⟨A + 1, 0, none⟩ (.slice (some ⟨b6, 0, none⟩) (j + 1) c6)).heap.size by simpa [World.setCell] using hl6)))))
      clear z1 z2 z3 z4 hO6 hg6 hblk hown q1 q2 hB5 hB5' hO5 hRN
      go_wp2_with fail
      go_roundw
      case rel => exact ⟨j + 1, _, by omega, by go_num, Z.out.1, Z.out.2.1, Z.out.2.2.1, Z.out.2.2.2.1, Z.out.2.2.2.2⟩
      case measure => simp [intOf]; omega
    · have hdec : decide ((j : Int) < n) = false := by simp; omega
      have hdec2 : decide (j < n) = false := by simp; omega
      obtain rfl : j = n := by omega
      obtain ⟨a, c, rfl, hR⟩ := RwAt.of_owns (g := g) hO (by omega)
      have HOX := Lib.hid hO
      have HV := Lib.hid (valid11_calls g a j c (rdRows s j) wr hR)
      have HRR := Lib.hid hR
      obtain ⟨b0, e0⟩ : ∃ b, idxOk (rdRows s j) = b := ⟨_, rfl⟩
      rw [e0] at HV
      have P1 := Lib.hid p1; have P2 := Lib.hid p2; have HBr := Lib.hid hB
      have HE := Lib.hid e0
      clear p1 p2 hO hB hR e0
      go_wp2_with fail
      refine HV.out.mono ?_
      rintro e_ w5 ⟨rfl, hB5⟩
      have q1 := (hB5.block A (by omega)).trans P1.out
      have q2 := (hB5.block (A + 1) (by omega)).trans P2.out
      have d3 : w5.cell? ⟨A, 0, none⟩ = some (.slice none 0 0) := by rw [heap_cell q1]; rfl
      have d4 : w5.frozen? ⟨A, 0, none⟩ = false := heap_free q1 0
      have d5 : w5.cell? ⟨A + 1, 0, none⟩ = some (.slice a j c) := by rw [heap_cell q2]; rfl
      have Q1 := Lib.hid q1
      have HF := Lib.hid (HBr.out.trans (hB5.mono (by omega)))
      have HR5 := Lib.hid (HRR.out.below hB5)
      have LT := Lib.hid (show ∀ b off, a = some ⟨b, off, none⟩ → j ≠ 0 → b ≠ A from fun b off ha hj0 hb => by
        subst ha
        have hlb := (World.ownsRow.lt (w := wr) HOX.out b (by simp [Value.ownBlock])).1
        omega)
      clear q1 q2 hB5
      cases b0
      · have hI := Lib.hid (decI_bad HN.out HSZ.out HE.out)
        go_wp2_with fail
        rw [hI.out]
        exact end25s rfl rfl Q1.out rfl rfl ⟨none, 0, 0, rfl, RwAt.nil _ _, by rw [hA]; exact setCell_below HF.out (by omega) _⟩
      · have hI := Lib.hid (decI_ok HN.out HSZ.out HE.out)
        go_wp2_with fail
        rw [hI.out]
        exact end25s rfl rfl Q1.out rfl rfl ⟨a, j, c, rfl, HR5.out.setCell LT.out _ _, by rw [hA]; exact setCell_below HF.out (by omega) _⟩
end Go.Proofs.Ytldkgmodmpnclaa
