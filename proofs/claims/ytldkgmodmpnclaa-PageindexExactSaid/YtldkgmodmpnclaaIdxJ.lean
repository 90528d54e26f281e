/- Note takes an entry into account: the walks, of the program and of the reference. -/
import Derived.Test.YtldkgmodmpnclaaIxB
import Derived.Test.YtldkgmodmpnclaaEnC
namespace Go.Proofs.Ytldkgmodmpnclaa
open Go.RowKit Go.Proofs
set_option linter.unusedVariables false
set_option linter.unusedSimpArgs false
/-- What Note answers. -/
def noteI (l : List Row3) (e : Ent) : List Row3 × Int :=
  if idxOk l = false then ([], 28) else if entOk e = false then ([], 12) else if e.kind ≠ 7 then (l, 0)
  else if (l.length : Int) ≤ e.chg.page then ([], 1)
  else (l.set e.chg.page.toNat ⟨max (l.getD e.chg.page.toNat Row3.zero).lsn e.ref, (l.getD e.chg.page.toNat Row3.zero).image, (l.getD e.chg.page.toNat Row3.zero).ilsn⟩, 0)
theorem noteI_bad {l : List Row3} {e : Ent} (h : idxOk l = false) : noteI l e = ([], 28) := by unfold noteI; rw [if_pos h]
theorem noteI_ent {l : List Row3} {e : Ent} (h : idxOk l = true) (h2 : entOk e = false) : noteI l e = ([], 12) := by unfold noteI; rw [if_neg (by simp [h]), if_pos h2]
theorem noteI_kind {l : List Row3} {e : Ent} (h : idxOk l = true) (h2 : entOk e = true) (h3 : e.kind ≠ 7) : noteI l e = (l, 0) := by unfold noteI; rw [if_neg (by simp [h]), if_neg (by simp [h2]), if_pos h3]
theorem noteI_off {l : List Row3} {e : Ent} (h : idxOk l = true) (h2 : entOk e = true) (h3 : e.kind = 7) (h4 : (l.length : Int) ≤ e.chg.page) : noteI l e = ([], 1) := by unfold noteI; rw [if_neg (by simp [h]), if_neg (by simp [h2]), if_neg (by simp [h3]), if_pos h4]
theorem noteI_ok {l : List Row3} {e : Ent} {i : Nat} {r : Row3} (h : idxOk l = true) (h2 : entOk e = true) (h3 : e.kind = 7) (h4 : e.chg.page = i) (hr : l[i]? = some r) : noteI l e = (l.set i ⟨max r.lsn e.ref, r.image, r.ilsn⟩, 0) := by
  have hi := (List.getElem?_eq_some_iff.1 hr).1
  unfold noteI
  rw [if_neg (by simp [h]), if_neg (by simp [h2]), if_neg (by simp [h3]), if_neg (by rw [h4]; omega), h4, Int.toNat_natCast, List.getD_eq_getElem?_getD, hr]
  rfl
theorem ent_page {e : Ent} (h : entOk e = true) (h3 : e.kind = 7) : 0 ≤ e.chg.page := by
  unfold entOk kindRes at h
  rw [h3] at h
  simp only [ruleRes, paged, Bool.and_eq_true, decide_eq_true_eq, show (7 : Int).toNat = 7 from rfl] at h
  omega
set_option maxHeartbeats 4000000 in
set_option maxRecDepth 100000 in
theorem note_calls (g : Nat) (a : Option Addr) (n c : Nat) (l : List Row3) (e : Ent) (he : EntWf e) (w : World) (h : RwAt w g a n c l) (hg : g < w.heap.size) :
    Calls Try.prog 20 #[.agg #[.slice a n c], .agg e.cs] w (IdxAns g (noteI l e) w) := by
  obtain ⟨A, hA⟩ : ∃ A, w.heap.size = A := ⟨_, rfl⟩
  obtain ⟨W, hW⟩ : ∃ W, ((w.alloc (.cells #[.slice a n c] 25)).alloc (.cells e.cs 31)).alloc (.cells #[.slice none 0 0] 25) = W := ⟨_, rfl⟩
  have hWs : W.heap.size = A + 3 := by rw [← hW]; simp [hA]
  have hWa : W.heap[A]? = some (.cells #[.slice a n c] 25 (0, 0)) := by rw [← hW, ← hA]; exact heap_alloc_of (heap_alloc_of (heap_alloc_new _ _))
  have hWe : W.heap[A + 1]? = some (.cells e.cs 31 (0, 0)) := by rw [← hW]; exact heap_alloc_of (heap_alloc_at (by simp [hA]))
  have hWb : W.heap[A + 2]? = some (.cells #[.slice none 0 0] 25 (0, 0)) := by rw [← hW]; exact heap_alloc_at (by simp [hA])
  have hb : Below A w W := by rw [← hW, ← hA]; exact below3 w _ _ _
  have H1 : RwAt W g a n c l := by rw [← hW]; exact ((h.alloc _).alloc _).alloc _
  have hWac : W.cell? ⟨A, 0, none⟩ = some (.slice a n c) := by rw [heap_cell hWa]; rfl
  have hln := h.len
  have LT := Lib.hid (show ∀ b off, a = some ⟨b, off, none⟩ → n ≠ 0 → b < A from fun b off ha hn => by subst ha; rw [← hA]; exact h.block_lt hn)
  rw [hA] at hg
  have HV := Lib.hid (fun W h => validIdx_calls g a n c l W h)
  have HEv := Lib.hid (fun W => entValid_calls e he W)
  obtain ⟨b0, e0⟩ : ∃ b, idxOk l = b := ⟨_, rfl⟩
  obtain ⟨b1, e1⟩ : ∃ b, entOk e = b := ⟨_, rfl⟩
  rw [e0] at HV
  rw [e1] at HEv
  have HW := Lib.hid (show ∀ W', Below W.heap.size W W' → W'.heap[A + 2]? = some (.cells #[.slice none 0 0] 25 (0, 0)) ∧ W'.cell? ⟨A + 2, 0, none⟩ = some (.slice none 0 0) ∧ W'.frozen? ⟨A + 2, 0, none⟩ = false ∧ W'.cell? ⟨A, 0, none⟩ = some (.slice a n c) ∧ W'.heap[A + 1]? = some (.cells e.cs 31 (0, 0)) from fun W' hB => by
    have k3 := (hB.block (A + 2) (by omega)).trans hWb
    have k0 := (hB.block A (by omega)).trans hWa
    have k1 := (hB.block (A + 1) (by omega)).trans hWe
    exact ⟨k3, by rw [heap_cell k3]; rfl, heap_free k3 0, by rw [heap_cell k0]; rfl, k1⟩)
  have H := Lib.hid H1
  have HB := Lib.hid hb
  have HLN := Lib.hid hln
  have HE0 := Lib.hid e0
  have HE1 := Lib.hid e1
  have HWW := Lib.hid hW
  clear h H1 hWa hWe hWb hb hln e0 e1 hW
  go_enter Try.func20, Try.ntmps20
  go_wp2_with fail
  rw [HWW.out]
  try rw [hA]
  refine (HV.out W H.out).mono ?_
  rintro r_ w1 ⟨rfl, hB1⟩
  obtain ⟨k3, k4, k5, k6, k7⟩ := HW.out w1 hB1
  have K3 := Lib.hid k3
  have HB1 := Lib.hid (HB.out.trans (hB1.mono (by omega)))
  have HBW1 := Lib.hid hB1
  have K7 := Lib.hid k7
  clear k3 hB1 k7
  cases b0
  · have hI := Lib.hid (noteI_bad (e := e) HE0.out)
    go_wp2_with fail
    rw [hI.out]
    exact end25s rfl rfl K3.out rfl rfl ⟨none, 0, 0, rfl, RwAt.nil _ _, by rw [hA]; exact setCell_below HB1.out (by omega) _⟩
  · obtain ⟨hn1, hn2⟩ := idxOk_len HE0.out
    rw [HLN.out] at hn1 hn2
    go_wp2_with (refine wpList_load_ent (by rfl) (.tmp 3) rfl (A + 1) rfl e K7.out ?_)
    refine (HEv.out _).mono ?_
    rintro r_ w2 ⟨rfl, hB2⟩
    have hBW2 := HBW1.out.trans (hB2.mono HBW1.out.size)
    obtain ⟨m3, m4, m5, m6, m7⟩ := HW.out w2 hBW2
    have M3 := Lib.hid m3
    have HB2 := Lib.hid (HB.out.trans (hBW2.mono (by omega)))
    have H2 := Lib.hid (H.out.below hBW2)
    have hs2 := hBW2.size
    have HBW2 := Lib.hid hBW2
    obtain ⟨q0, q1, q2, q3, q4, q5, q6, q7, q8, q9, q10, q11, q12⟩ := EntAt.of m7
    have M7 := Lib.hid m7
    clear k4 k5 k6 m3 m7 hB2 hBW2
    cases b1
    · have hI := Lib.hid (noteI_ent HE0.out HE1.out)
      go_wp2_with fail
      rw [hI.out]
      exact end25s rfl rfl M3.out rfl rfl ⟨none, 0, 0, rfl, RwAt.nil _ _, by rw [hA]; exact setCell_below HB2.out (by omega) _⟩
    · by_cases hk : e.kind = 7
      · have hk1 : (e.kind != 7) = false := by simpa using hk
        have hk2 : (e.kind == 7) = true := by simpa using hk
        have hp := ent_page HE1.out hk
        have HK := Lib.hid hk
        clear hk
        by_cases hlt : (n : Int) ≤ e.chg.page
        · have hI := Lib.hid (noteI_off HE0.out HE1.out HK.out (by rw [HLN.out]; exact hlt))
          have d1 : decide (0 ≤ e.chg.page) = true := by simpa using hp
          have d2 : decide (e.chg.page < n) = false := by simp; omega
          go_wp2_with fail
          refine (there_calls a n c e.chg.page _).mono ?_
          rintro r_ w3 ⟨rfl, hB3⟩
          obtain ⟨n3, n4, n5, n6, n7⟩ := HW.out w3 (HBW2.out.trans (hB3.mono HBW2.out.size))
          have N3 := Lib.hid n3
          have HB3 := Lib.hid (HB2.out.trans (hB3.mono (by omega)))
          clear m4 m5 m6 n3 n7 hB3 q0 q1 q2 q3 q4 q5 q6 q7 q8 q9 q10 q11 q12
          go_wp2_with fail
          rw [hI.out]
          exact end25s rfl rfl N3.out rfl rfl ⟨none, 0, 0, rfl, RwAt.nil _ _, by rw [hA]; exact setCell_below HB3.out (by omega) _⟩
        · obtain ⟨i, hi⟩ : ∃ i : Nat, e.chg.page = i := ⟨e.chg.page.toNat, by omega⟩
          obtain ⟨r, hr⟩ : ∃ r, l[i]? = some r := ⟨l[i]'(by rw [HLN.out]; omega), by simp⟩
          have hI := Lib.hid (noteI_ok HE0.out HE1.out HK.out hi hr)
          have HR := Lib.hid hr
          have d1 : decide (0 ≤ e.chg.page) = true := by simpa using hp
          have d2 : decide (e.chg.page < n) = true := by simp; omega
          have HI := Lib.hid hi
          clear hr hlt hi
          go_wp2_with fail
          refine (there_calls a n c e.chg.page _).mono ?_
          rintro r_ w3 ⟨rfl, hB3⟩
          have hBW3 := HBW2.out.trans (hB3.mono HBW2.out.size)
          obtain ⟨n3, n4, n5, n6, n7⟩ := HW.out w3 hBW3
          have N3 := Lib.hid n3
          have HB3 := Lib.hid (HB2.out.trans (hB3.mono (by omega)))
          have H3 := Lib.hid (H2.out.below hB3)
          have hs3 := hB3.size
          clear m4 m5 m6 n3 hB3 hBW3 q0 q1 q2 q3 q4 q5 q6 q7 q8 q9 q10 q11 q12
          obtain ⟨q0, q1, q2, q3, q4, q5, q6, q7, q8, q9, q10, q11, q12⟩ := EntAt.of n7
          have hi := HI.out
          rw [hi] at q6
          have Q5 := Lib.hid q5
          clear n7 hi
          go_wp2_with fail
          refine (changeNote_calls g a n c i (A + 1) e.ref l r _ H3.out HR.out (by omega) Q5.out).mono ?_
          rintro r_ w4 ⟨b, c', rfl, hbb, hO, hB4⟩
          have o3 := (hB4.block (A + 2) (by omega)).trans N3.out
          have o4 : w4.cell? ⟨A + 2, 0, none⟩ = some (.slice none 0 0) := by rw [heap_cell o3]; rfl
          have o5 : w4.frozen? ⟨A + 2, 0, none⟩ = false := heap_free o3 0
          have O3 := Lib.hid o3
          have HO := Lib.hid (hO.keep (w' := w4.setCell ⟨A + 2, 0, none⟩ (.slice (some ⟨b, 0, none⟩) n c')) (heap_setCell_other _ _ _ _ (by simp; omega)))
          have HB4 := Lib.hid (HB3.out.trans (hB4.mono (by omega)))
          clear n4 n5 n6 o3 hO hB4 q0 q1 q2 q3 q4 q5 q6 q7 q8 q9 q10 q11 q12
          go_wp2_with fail
          rw [hI.out]
          exact end25s rfl rfl O3.out rfl rfl ⟨some ⟨b, 0, none⟩, n, c', rfl, HO.out.rw (by omega), by rw [hA]; exact setCell_below HB4.out (by omega) _⟩
      · have hk1 : (e.kind != 7) = true := by simpa using hk
        have hk2 : (e.kind == 7) = false := by simpa using hk
        have hI := Lib.hid (noteI_kind HE0.out HE1.out hk)
        clear hk
        go_wp2_with fail
        rw [hI.out]
        exact end25s rfl rfl M3.out rfl rfl ⟨a, n, c, rfl, H2.out.setCell (by intro b off ha hn0; subst ha; have := H.out.block_lt hn0; have hh := LT.out b off rfl hn0; omega) _ _, by rw [hA]; exact setCell_below HB2.out (by omega) _⟩
set_option maxHeartbeats 4000000 in
set_option maxRecDepth 100000 in
theorem note11_calls (g : Nat) (a : Option Addr) (n c : Nat) (l : List Row3) (e : Ent) (he : EntWf e) (w : World) (h : RwAt w g a n c l) (hg : g < w.heap.size) :
    Calls Try.prog 21 #[.agg #[.slice a n c], .agg e.cs] w (IdxAns g (noteI l e) w) := by
  obtain ⟨A, hA⟩ : ∃ A, w.heap.size = A := ⟨_, rfl⟩
  obtain ⟨W, hW⟩ : ∃ W, ((w.alloc (.cells #[.slice a n c] 25)).alloc (.cells e.cs 31)).alloc (.cells #[.slice none 0 0] 25) = W := ⟨_, rfl⟩
  have hWs : W.heap.size = A + 3 := by rw [← hW]; simp [hA]
  have hWa : W.heap[A]? = some (.cells #[.slice a n c] 25 (0, 0)) := by rw [← hW, ← hA]; exact heap_alloc_of (heap_alloc_of (heap_alloc_new _ _))
  have hWe : W.heap[A + 1]? = some (.cells e.cs 31 (0, 0)) := by rw [← hW]; exact heap_alloc_of (heap_alloc_at (by simp [hA]))
  have hWb : W.heap[A + 2]? = some (.cells #[.slice none 0 0] 25 (0, 0)) := by rw [← hW]; exact heap_alloc_at (by simp [hA])
  have hb : Below A w W := by rw [← hW, ← hA]; exact below3 w _ _ _
  have H1 : RwAt W g a n c l := by rw [← hW]; exact ((h.alloc _).alloc _).alloc _
  have hWac : W.cell? ⟨A, 0, none⟩ = some (.slice a n c) := by rw [heap_cell hWa]; rfl
  have hln := h.len
  have LT := Lib.hid (show ∀ b off, a = some ⟨b, off, none⟩ → n ≠ 0 → b < A from fun b off ha hn => by subst ha; rw [← hA]; exact h.block_lt hn)
  rw [hA] at hg
  have HV := Lib.hid (fun W h => valid11_calls g a n c l W h)
  have HEv := Lib.hid (fun W => entValid05_calls e he W)
  obtain ⟨b0, e0⟩ : ∃ b, idxOk l = b := ⟨_, rfl⟩
  obtain ⟨b1, e1⟩ : ∃ b, entOk e = b := ⟨_, rfl⟩
  rw [e0] at HV
  rw [e1] at HEv
  have HW := Lib.hid (show ∀ W', Below W.heap.size W W' → W'.heap[A + 2]? = some (.cells #[.slice none 0 0] 25 (0, 0)) ∧ W'.cell? ⟨A + 2, 0, none⟩ = some (.slice none 0 0) ∧ W'.frozen? ⟨A + 2, 0, none⟩ = false ∧ W'.cell? ⟨A, 0, none⟩ = some (.slice a n c) ∧ W'.heap[A + 1]? = some (.cells e.cs 31 (0, 0)) from fun W' hB => by
    have k3 := (hB.block (A + 2) (by omega)).trans hWb
    have k0 := (hB.block A (by omega)).trans hWa
    have k1 := (hB.block (A + 1) (by omega)).trans hWe
    exact ⟨k3, by rw [heap_cell k3]; rfl, heap_free k3 0, by rw [heap_cell k0]; rfl, k1⟩)
  have H := Lib.hid H1
  have HB := Lib.hid hb
  have HLN := Lib.hid hln
  have HE0 := Lib.hid e0
  have HE1 := Lib.hid e1
  have HWW := Lib.hid hW
  clear h H1 hWa hWe hWb hb hln e0 e1 hW
  go_enter Try.func21, Try.ntmps21
  go_wp2_with fail
  rw [HWW.out]
  try rw [hA]
  refine (HV.out W H.out).mono ?_
  rintro r_ w1 ⟨rfl, hB1⟩
  obtain ⟨k3, k4, k5, k6, k7⟩ := HW.out w1 hB1
  have K3 := Lib.hid k3
  have HB1 := Lib.hid (HB.out.trans (hB1.mono (by omega)))
  have HBW1 := Lib.hid hB1
  have K7 := Lib.hid k7
  clear k3 hB1 k7
  cases b0
  · have hI := Lib.hid (noteI_bad (e := e) HE0.out)
    go_wp2_with fail
    rw [hI.out]
    exact end25s rfl rfl K3.out rfl rfl ⟨none, 0, 0, rfl, RwAt.nil _ _, by rw [hA]; exact setCell_below HB1.out (by omega) _⟩
  · obtain ⟨hn1, hn2⟩ := idxOk_len HE0.out
    rw [HLN.out] at hn1 hn2
    go_wp2_with (refine wpList_load_ent (by rfl) (.tmp 3) rfl (A + 1) rfl e K7.out ?_)
    refine (HEv.out _).mono ?_
    rintro r_ w2 ⟨rfl, hB2⟩
    have hBW2 := HBW1.out.trans (hB2.mono HBW1.out.size)
    obtain ⟨m3, m4, m5, m6, m7⟩ := HW.out w2 hBW2
    have M3 := Lib.hid m3
    have HB2 := Lib.hid (HB.out.trans (hBW2.mono (by omega)))
    have H2 := Lib.hid (H.out.below hBW2)
    have hs2 := hBW2.size
    have HBW2 := Lib.hid hBW2
    obtain ⟨q0, q1, q2, q3, q4, q5, q6, q7, q8, q9, q10, q11, q12⟩ := EntAt.of m7
    have M7 := Lib.hid m7
    clear k4 k5 k6 m3 m7 hB2 hBW2
    cases b1
    · have hI := Lib.hid (noteI_ent HE0.out HE1.out)
      go_wp2_with fail
      rw [hI.out]
      exact end25s rfl rfl M3.out rfl rfl ⟨none, 0, 0, rfl, RwAt.nil _ _, by rw [hA]; exact setCell_below HB2.out (by omega) _⟩
    · by_cases hk : e.kind = 7
      · have hk1 : (e.kind != 7) = false := by simpa using hk
        have hk2 : (e.kind == 7) = true := by simpa using hk
        have hp := ent_page HE1.out hk
        have HK := Lib.hid hk
        clear hk
        by_cases hlt : (n : Int) ≤ e.chg.page
        · have hI := Lib.hid (noteI_off HE0.out HE1.out HK.out (by rw [HLN.out]; exact hlt))
          have d2 : decide ((n : Int) ≤ e.chg.page) = true := by simpa using hlt
          go_wp2_with fail
          rw [hI.out]
          exact end25s rfl rfl M3.out rfl rfl ⟨none, 0, 0, rfl, RwAt.nil _ _, by rw [hA]; exact setCell_below HB2.out (by omega) _⟩
        · obtain ⟨i, hi⟩ : ∃ i : Nat, e.chg.page = i := ⟨e.chg.page.toNat, by omega⟩
          obtain ⟨b, off, r, rfl, hr, hrg, hblt⟩ := H2.out.row i (by omega)
          have hI := Lib.hid (noteI_ok HE0.out HE1.out HK.out hi hr)
          have HR := Lib.hid hr
          have d2 : decide ((n : Int) ≤ i) = false := by simp; omega
          have d3 : decide (n ≤ i) = false := by simp; omega
          have j1 : (i : Int) < n := by omega
          have j2 : decide (i < n) = true := by simp; omega
          rw [hi] at q6
          obtain ⟨X, hX⟩ : ∃ X, w2.alloc (.cells #[.int .i64 (max r.lsn e.ref), .int .i64 r.image, .int .i64 r.ilsn] 84) = X := ⟨_, rfl⟩
          have hBX : Below w2.heap.size w2 X := by rw [← hX]; exact (Below.refl _ _).alloc (Nat.le_refl _) _
          have hXr : X.heap[w2.heap.size]? = some (.cells #[.int .i64 (max r.lsn e.ref), .int .i64 r.image, .int .i64 r.ilsn] 84 (0, 0)) := by
            rw [← hX]
            exact heap_alloc_new _ _
          have hX0 : X.cell? ⟨A, 0, none⟩ = _ := (hBX.cell (p := ⟨A, 0, none⟩) (show A < w2.heap.size by omega)).trans m6
          have hX6 : X.cell? ⟨A + 1, 6, none⟩ = _ := (hBX.cell (p := ⟨A + 1, 6, none⟩) (show A + 1 < w2.heap.size by omega)).trans q6
          have hY5 : (w2.alloc (.cells #[.int .i64 r.lsn, .int .i64 r.image, .int .i64 r.ilsn] 84)).cell? ⟨A + 1, 5, none⟩ = _ := ((show Below w2.heap.size w2 _ from (Below.refl _ _).alloc (Nat.le_refl _) _).cell (p := ⟨A + 1, 5, none⟩) (show A + 1 < w2.heap.size by omega)).trans q5
          have hX1 : X.cell? ⟨w2.heap.size, 0, none⟩ = some (.int .i64 (max r.lsn e.ref)) := by rw [heap_cell hXr]; rfl
          have hX2 : X.cell? ⟨w2.heap.size, 1, none⟩ = some (.int .i64 r.image) := by rw [heap_cell hXr]; rfl
          have hX3 : X.cell? ⟨w2.heap.size, 2, none⟩ = some (.int .i64 r.ilsn) := by rw [heap_cell hXr]; rfl
          have hX4 := (hBX.block (A + 2) (by omega)).trans M3.out
          have H3 := Lib.hid (H2.out.below hBX)
          have HX4 := Lib.hid hX4
          have HXB := Lib.hid (HB2.out.trans (hBX.mono (by omega)))
          have hXs := hBX.size
          clear hBX hXr hX4 hr hlt hi
          go_wp2_with (refine wpList_load_row3 (.tmp 36) ⟨rfl, rfl⟩ b (off + i * 3) rfl r hrg ?_)
          try rw [hX]
          refine (set_calls g _ n c i l r ⟨max r.lsn e.ref, r.image, r.ilsn⟩ X H3.out HR.out (by omega)).mono ?_
          rintro r_ w4 ⟨b', c', rfl, hbb, hO, hB4⟩
          have o3 := (hB4.block (A + 2) (by omega)).trans HX4.out
          have o4 : w4.cell? ⟨A + 2, 0, none⟩ = some (.slice none 0 0) := by rw [heap_cell o3]; rfl
          have o5 : w4.frozen? ⟨A + 2, 0, none⟩ = false := heap_free o3 0
          have O3 := Lib.hid o3
          have HO := Lib.hid (hO.keep (w' := w4.setCell ⟨A + 2, 0, none⟩ (.slice (some ⟨b', 0, none⟩) n c')) (heap_setCell_other _ _ _ _ (by simp; omega)))
          have HB4 := Lib.hid (HXB.out.trans (hB4.mono (by omega)))
          clear m4 m5 m6 o3 hO hB4 hX0 hX1 hX2 hX3 hX6 hY5 q0 q1 q2 q3 q4 q5 q6 q7 q8 q9 q10 q11 q12
          go_wp2_with fail
          rw [hI.out]
          exact end25s rfl rfl O3.out rfl rfl ⟨some ⟨b', 0, none⟩, n, c', rfl, HO.out.rw (by omega), by rw [hA]; exact setCell_below HB4.out (by omega) _⟩
      · have hk1 : (e.kind != 7) = true := by simpa using hk
        have hk2 : (e.kind == 7) = false := by simpa using hk
        have hI := Lib.hid (noteI_kind HE0.out HE1.out hk)
        clear hk
        go_wp2_with fail
        rw [hI.out]
        exact end25s rfl rfl M3.out rfl rfl ⟨a, n, c, rfl, H2.out.setCell (by intro b off ha hn0; subst ha; have := H.out.block_lt hn0; have hh := LT.out b off rfl hn0; omega) _ _, by rw [hA]; exact setCell_below HB2.out (by omega) _⟩
end Go.Proofs.Ytldkgmodmpnclaa
