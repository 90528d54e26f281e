/- PageEncodes' walk: which pages are valid, and their bytes, or the error. -/
import Derived.Test.YtldkgmodmpnclaaFrame
namespace Go.Proofs.Ytldkgmodmpnclaa
open Go.RowKit Go.Proofs
set_option linter.unusedVariables false
set_option linter.unusedSimpArgs false
theorem range_page0 {w : World} {b : Nat} {p : Page} (h : PgAt w b p) : w.rangeAt b 0 (pageC p).toList := by
  intro j v hj
  rw [heap_cell h.out, Nat.zero_add]
  simpa using hj
/-- Pages in a block, one after the other. -/
def PsAt (w : World) (b : Nat) (l : List Page) : Prop := w.heap[b]? = some (.cells (pagesC l) 59 (0, 0))
theorem PsAt.below {w w' : World} {b B : Nat} {l : List Page} (h : PsAt w b l) (hb : Below B w w') (hB : b < B) : PsAt w' b l := (hb.block b hB).trans h
theorem PsAt.lt {w : World} {b : Nat} {l : List Page} (h : PsAt w b l) : b < w.heap.size := heap_lt h
theorem PsAt.range {w : World} {b : Nat} {l : List Page} (h : PsAt w b l) (i : Nat) (hi : i < l.length) (p : Page) (hp : l[i]? = some p) : w.rangeAt b (i * 34) (pageC p).toList := range_pages h i hi p hp
theorem info59 (p : Page) : (Try.prog.info? 59).map (·.size) = some (pageC p).toList.length := by rw [Array.length_toList, pageC_size]; kernel_rfl
theorem wpList_load_elem {ops : Array Oper} {rest : List Oper} {op : Oper} {a : Act} {w : World} {Q : Exit → Act → World → Prop} (x : Operand) (ho : op.op = .load 59 x ∧ op.guard = none)
    (b o : Nat) (hx : a.eval x = .pointer (some ⟨b, o, none⟩)) (p : Page) (hc : w.rangeAt b o (pageC p).toList) (h : wpList Try.prog ops Q rest (a.put op.dst (.agg (pageC p))) w) : wpList Try.prog ops Q (op :: rest) a w := by
  refine wpList_load_mid ho.2 59 x ho.1 b o hx (pageC p).toList _ hc Try.underlying59 rfl (info59 p) ?_
  rwa [Array.toArray_toList]
set_option maxHeartbeats 4000000 in
set_option maxRecDepth 100000 in
theorem encodes_calls (a : Option Addr) (n c : Nat) (pa : Page) (x : Int) (w : World) (h : Ls w a n c) (hx : (Lit.int .i64 x).wf = true) :
    Calls Try.prog 7 #[.slice a n c, .agg (pageC pa), .int .i64 x] w fun e w' => e = .returned (.bool true) ∧ Below w.heap.size w w' := by
  obtain ⟨B0, hB0⟩ : ∃ B, w.heap.size = B := ⟨_, rfl⟩
  rw [hB0]
  have hA0 := PgAt.new w pa
  have hbA := (Below.refl w.heap.size w).alloc (Nat.le_refl _) (.cells (pageC pa) 59)
  rw [hB0] at hA0 hbA
  have h := h.keep ((Below.refl w.heap.size w).alloc (Nat.le_refl _) (.cells (pageC pa) 59))
  go_enter Try.func7, Try.ntmps7
  go_wp2_with fail
  obtain ⟨wa, hwa⟩ : ∃ wa, w.alloc (.cells (pageC pa) 59) = wa := ⟨_, rfl⟩
  have hsa : wa.heap.size = B0 + 1 := by rw [← hwa]; simp [hB0]
  rw [hwa] at hA0 hbA h
  try rw [hwa]
  clear hwa
  refine (awake_calls _).mono ?_
  rintro e w1 ⟨rfl, hb1⟩
  go_wp2_with fail
  refine (newCodes_calls a n c 100 _ (h.keep hb1) (by omega)).mono ?_
  rintro e w2 ⟨g, rfl, hg, hb2, hc2⟩
  have hF2 : Fr B0 g w w2 := Fr.of (hbA.trans ((hb1.mono (by omega)).trans (hb2.mono (by have := hb1.size; omega)))) hc2 (by have := hb1.size; omega)
  have hA2 := (hA0.below hb1 hA0.lt).below hb2 (by have := hA0.lt; have := hb1.size; omega)
  have hBg0 : B0 < g := by have := hb1.size; omega
  clear hb1 hb2 hg h hc2 hA0 hbA
  go_wp2_with fail
  refine (next_calls g 64 _ hF2.c (by omega) (by omega)).mono ?_
  rintro e w3 ⟨id, rfl, hi03, hi13, hk, hc⟩
  have hF3 := hF2.kb hk hc
  have hk2 := hk.block B0 hA2.lt (by omega)
  clear hk hc hF2
  go_wp2_with fail
  refine (cpage_calls g id _ hF3.c).mono ?_
  rintro e w4 ⟨p, rfl, hpidp, hpl, hpc, hk, hc⟩
  have hF4 := hF3.kb hk hc
  have hk2 := (hk.block B0 (by have := hF3.lt; omega) (by omega)).trans hk2
  clear hk hc hF3
  have hA3 : PgAt w4 B0 pa := hk2.trans hA2
  have hF5 := hF4.alloc (.cells (pageC p) 59)
  have hA5 := hA3.alloc (.cells (pageC p) 59)
  have hQ5 := PgAt.new w4 p
  obtain ⟨Q, hQ⟩ : ∃ Q, w4.heap.size = Q := ⟨_, rfl⟩
  have hgQ : g < Q := by rw [← hQ]; exact hF4.lt
  rw [hQ] at hQ5
  clear hA2 hk2 hA3 hF4 hpidp hpl hpc
  go_wp2_with (first
    | (refine wpList_alloc_row rfl 59 rfl (pageC Page.zero) zero59 ?_)
    | (refine wpList_store_row rfl 59 (.tmp 8) (.tmp 22) rfl _ (pageC p) rfl rfl _ _ (heap_alloc_new _ _) (page_size _) (by simp only [pageC_size]) (pageC_oneCell _) ?_; rw [World.setRow_alloc_new]))
  obtain ⟨W, hW⟩ : ∃ W, w4.alloc (.cells (pageC p) 59) = W := ⟨_, rfl⟩
  rw [hW] at hF5 hA5 hQ5 ⊢
  try rw [hQ]
  have hSA : ∀ w', (Fr B0 g w w' ∧ PgAt w' B0 pa ∧ PgAt w' Q p) → PgAt w' B0 pa := fun w' h => h.2.1
  have hSQ : ∀ w', (Fr B0 g w w' ∧ PgAt w' B0 pa ∧ PgAt w' Q p) → PgAt w' Q p := fun w' h => h.2.2
  refine wp_region_held_drew (S := (fun w_ => Fr B0 g w w_ ∧ PgAt w_ B0 pa ∧ PgAt w_ Q p)) (by kernel_rfl) ⟨hF5.drew, hA5.below (Below.refl _ _).drew hA5.lt, hQ5.below (Below.refl _ _).drew hQ5.lt⟩ (fun hHeld => ?_)
  refine Held.takeL (i := 0) (v := .agg (pageC pa)) rfl (by kernel_rfl) (by kernel_rfl) (by kernel_rfl) (fun _ _ _ h => h) ?_ (by assumption) ?_
  · exact yields_page (by kernel_rfl) (.tmp 4) (by kernel_rfl) B0 (by kernel_rfl) pa hSA
  try simp only [Act.put, List.setIfInBounds_toArray, List.set_cons_zero, List.set_cons_succ]
  refine Held.takeL (i := 1) (v := .agg (pageC p)) rfl (by kernel_rfl) (by kernel_rfl) (by kernel_rfl) (fun _ _ _ h => h) ?_ (by assumption) ?_
  · exact yields_page (by kernel_rfl) (.tmp 8) (by kernel_rfl) Q (by kernel_rfl) p hSQ
  try simp only [Act.put, List.setIfInBounds_toArray, List.set_cons_zero, List.set_cons_succ]
  refine Held.takeL (i := 2) (v := ?_) rfl (by kernel_rfl) (by kernel_rfl) (by kernel_rfl) (fun _ _ _ h => h) (.inl ⟨by kernel_rfl, ?_⟩) (by assumption) ?_
  rotate_left
  · (intro w_ hSw; go_simp; first | done | with_reducible rfl)
  try simp only [Act.put, List.setIfInBounds_toArray, List.set_cons_zero, List.set_cons_succ]
  refine Held.takeL (i := 3) (v := .agg (pageC p)) rfl (by kernel_rfl) (by kernel_rfl) (by kernel_rfl) (fun _ _ _ h => h) ?_ (by assumption) ?_
  · exact yields_page (by kernel_rfl) (.tmp 8) (by kernel_rfl) Q (by kernel_rfl) p hSQ
  try simp only [Act.put, List.setIfInBounds_toArray, List.set_cons_zero, List.set_cons_succ]
  refine Held.takeL (i := 5) (v := ?_) rfl (by kernel_rfl) (by kernel_rfl) (by kernel_rfl) (fun _ _ _ h => h) (.inl ⟨by kernel_rfl, ?_⟩) (by assumption) ?_
  rotate_left
  · (intro w_ hSw; go_simp; first | done | with_reducible rfl)
  try simp only [Act.put, List.setIfInBounds_toArray, List.set_cons_zero, List.set_cons_succ]
  refine Held.takeL (i := 6) (v := .agg (pageC p)) rfl (by kernel_rfl) (by kernel_rfl) (by kernel_rfl) (fun _ _ _ h => h) ?_ (by assumption) ?_
  · exact yields_page (by kernel_rfl) (.tmp 8) (by kernel_rfl) Q (by kernel_rfl) p hSQ
  try simp only [Act.put, List.setIfInBounds_toArray, List.set_cons_zero, List.set_cons_succ]
  refine Held.takeL (i := 10) (v := ?_) rfl (by kernel_rfl) (by kernel_rfl) (by kernel_rfl) (fun _ _ _ h => h) (.inl ⟨by kernel_rfl, ?_⟩) (by assumption) ?_
  rotate_left
  · (intro w_ hSw; go_simp; first | done | with_reducible rfl)
  try simp only [Act.put, List.setIfInBounds_toArray, List.set_cons_zero, List.set_cons_succ]
  refine wpAnyH_ready (rs := [4]) (by kernel_rfl) (by simp) ?_
  refine Held.consL rfl (fun K hK => ?_) AllReadyH.nil
  go_simp
  refine (oddPage_calls g p _ hHeld.1.c).mono ?_
  rintro e_ w6 ⟨r1, rfl, hk, hc⟩
  have hP := And.intro (hHeld.1.kb hk hc) (And.intro (show PgAt w6 B0 pa from (hk.block B0 hHeld.2.1.lt (by omega)).trans hHeld.2.1) (hHeld.2.2.kb hk hgQ))
  clear hk hc
  refine hK.out _ _ hP (fun hHeld => ?_)
  clear hK K
  try simp only [Act.put, List.setIfInBounds_toArray, List.set_cons_zero, List.set_cons_succ]
  clear hP
  refine wpAnyH_ready (rs := [7]) (by kernel_rfl) (by simp) ?_
  refine Held.consL rfl (fun K hK => ?_) AllReadyH.nil
  go_simp
  refine (oddPage_calls g p _ hHeld.1.c).mono ?_
  rintro e_ w7 ⟨r2, rfl, hk, hc⟩
  have hP := And.intro (hHeld.1.kb hk hc) (And.intro (show PgAt w7 B0 pa from (hk.block B0 hHeld.2.1.lt (by omega)).trans hHeld.2.1) (hHeld.2.2.kb hk hgQ))
  clear hk hc
  refine hK.out _ _ hP (fun hHeld => ?_)
  clear hK K
  try simp only [Act.put, List.setIfInBounds_toArray, List.set_cons_zero, List.set_cons_succ]
  clear hP
  refine wpAnyH_ready (rs := [8]) (by kernel_rfl) (by simp) ?_
  refine Held.consL rfl (fun K hK => ?_) AllReadyH.nil
  rw [if_pos (by kernel_rfl)]
  refine wp_pages4 71 4 _ rfl [pa, p, r1, r2] Try.underlying71 rfl (by omega) (by omega) (by kernel_rfl) ?_
  refine hK.out _ _ ⟨hHeld.1.alloc _, hHeld.2.1.alloc _, hHeld.2.2.alloc _⟩ (fun hHeld => ?_)
  clear hK K
  try simp only [Act.put, List.setIfInBounds_toArray, List.set_cons_zero, List.set_cons_succ]
  refine Held.takeL (i := 9) (v := ?_) rfl (by kernel_rfl) (by kernel_rfl) (by kernel_rfl) (fun _ _ _ h => h) (.inl ⟨by kernel_rfl, ?_⟩) (by assumption) ?_
  rotate_left
  · (intro w_ hSw; go_simp; first | done | with_reducible rfl)
  try simp only [Act.put, List.setIfInBounds_toArray, List.set_cons_zero, List.set_cons_succ]
  refine wpAnyH_done (by kernel_rfl) ?_ _
  have hL := heap_alloc_new w7 (.cells (pagesC [pa, p, r1, r2]) 59)
  have hK := hHeld.1.k
  clear hHeld hA5 hQ5 hF5 hSA hSQ hQ hW
  obtain ⟨SB, hSB⟩ : ∃ SB, w7.heap.size = SB := ⟨_, rfl⟩
  obtain ⟨W2, hW2⟩ : ∃ W2, w7.alloc (.cells (pagesC [pa, p, r1, r2]) 59) = W2 := ⟨_, rfl⟩
  rw [hW2, hSB] at hL
  rw [hW2] at hK ⊢
  try rw [hSB]
  obtain ⟨l, hl⟩ : ∃ l, [pa, p, r1, r2] = l := ⟨_, rfl⟩
  have hln : l.length = 4 := by rw [← hl]; rfl
  rw [hl] at hL
  have hS0 : PsAt W2 SB l := hL
  clear hL hl hSB hW2
  go_wp2_with fail
  go_loopw [33] (fun i wr => ∃ j : Nat, j ≤ 4 ∧ i = .int .i64 j ∧ PsAt wr SB l ∧ Kp B0 w wr) (fun i _ => 4 - (intOf i).toNat)
  case atStart => exact ⟨0, by omega, rfl, hS0, hK⟩
  case round =>
    clear hS0 hK
    obtain ⟨j, hj, rfl, hS, hK⟩ := hrel
    by_cases hj4 : j < 4
    · have hdec : decide ((j : Int) < 4) = true := by simp; omega
      obtain ⟨y, hy⟩ : ∃ y, l[j]? = some y := ⟨l[j]'(by omega), by simp [hln, hj4]⟩
      have hr := hS.range j (by omega) y hy
      have HLN := Lib.hid hln
      have HY := Lib.hid hy
      clear hln hy
      have HE1 := Lib.hid (fun W => encode_calls y W)
      have HE2 := Lib.hid (fun W => encode02_calls y W)
      have HV1 := Lib.hid (fun W => valid_calls y W)
      have HV2 := Lib.hid (fun W => valid02_calls y W)
      obtain ⟨s, hs⟩ : ∃ s, encP y = s := ⟨_, rfl⟩
      obtain ⟨k, hk⟩ : ∃ k, pageErr y = k := ⟨_, rfl⟩
      obtain ⟨v, hv⟩ : ∃ v, pageOk y = v := ⟨_, rfl⟩
      rw [hs, hk] at HE1 HE2
      rw [hv] at HV1 HV2
      clear hs hk hv
      have hSy := PsAt.below hS ((Below.refl _ _).alloc (Nat.le_refl _) (.cells (pageC y) 59)) hS.lt
      have hKy := hK.alloc (.cells (pageC y) 59)
      have hY := PgAt.new wr y
      obtain ⟨D, hD⟩ : ∃ D, wr.heap.size = D := ⟨_, rfl⟩
      rw [hD] at hY
      obtain ⟨wy, hwy⟩ : ∃ wy, wr.alloc (.cells (pageC y) 59) = wy := ⟨_, rfl⟩
      rw [hwy] at hSy hKy hY
      clear hS hK
      go_wp2_with (first
        | (refine wpList_load_elem (.tmp 35) ⟨rfl, rfl⟩ SB (j * 34) rfl y hr ?_)
        | (refine wpList_alloc_row rfl 59 rfl (pageC Page.zero) zero59 ?_)
        | (refine wpList_store_row rfl 59 (.tmp 10) (.tmp 36) rfl _ (pageC y) rfl rfl _ _ (heap_alloc_new _ _) (page_size _) (by simp only [pageC_size]) (pageC_oneCell _) ?_; rw [World.setRow_alloc_new, hwy])
        | (refine wpList_load_row rfl 59 (.tmp 10) rfl _ rfl _ _ _ _ (by first | exact hY.out | (rw [hD]; exact hY.out)) Try.underlying59 rfl (page_size _) ?_))
      refine (HE1.out _).mono ?_
      rintro e_ wb ⟨rfl, hbb⟩
      have hSb := hSy.below hbb hSy.lt
      have hKb := hKy.step hbb
      have hYb := hY.below hbb hY.lt
      clear hSy hKy hY hbb
      go_wp2_with (refine wpList_load_row rfl 59 (.tmp 10) rfl _ rfl _ _ _ _ (by first | exact hYb.out | (rw [hD]; exact hYb.out)) Try.underlying59 rfl (page_size _) ?_)
      refine (HE2.out _).mono ?_
      rintro e_ wc ⟨rfl, hbc⟩
      have hSc := hSb.below hbc hSb.lt
      have hKc := hKb.step hbc
      have hYc := hYb.below hbc hYb.lt
      clear hSb hKb hYb hbc
      have hss : (s.toList != s.toList) = false := by simp
      go_wp2_with fail
      try rw [hD]
      have hSD : ∀ w', Kp wc.heap.size wc w' → PgAt w' D y := fun w' h => hYc.below h.below hYc.lt
  
      refine wp_region_held_drew (S := Kp wc.heap.size wc) (by kernel_rfl) (Kp.start wc _ (Nat.le_refl _)) (fun hHeld => ?_)
      refine Held.takeL (i := 0) (v := ?_) rfl (by kernel_rfl) (by kernel_rfl) (by kernel_rfl) (fun _ _ _ h => h) (.inl ⟨by kernel_rfl, ?_⟩) (by assumption) ?_
      rotate_left
      · (intro w_ hSw; go_simp; first | done | with_reducible rfl)
      try simp only [Act.put, List.setIfInBounds_toArray, List.set_cons_zero, List.set_cons_succ]
      refine Held.takeL (i := 1) (v := ?_) rfl (by kernel_rfl) (by kernel_rfl) (by kernel_rfl) (fun _ _ _ h => h) (.inl ⟨by kernel_rfl, ?_⟩) (by assumption) ?_
      rotate_left
      · (intro w_ hSw; go_simp; first | done | with_reducible rfl)
      try simp only [Act.put, List.setIfInBounds_toArray, List.set_cons_zero, List.set_cons_succ]
      refine Held.takeL (i := 2) (v := ?_) rfl (by kernel_rfl) (by kernel_rfl) (by kernel_rfl) (fun _ _ _ h => h) (.inl ⟨by kernel_rfl, ?_⟩) (by assumption) ?_
      rotate_left
      · (intro w_ hSw; go_simp; first | done | with_reducible rfl)
      try simp only [Act.put, List.setIfInBounds_toArray, List.set_cons_zero, List.set_cons_succ]
      refine Held.takeL (i := 3) (v := ?_) rfl (by kernel_rfl) (by kernel_rfl) (by kernel_rfl) (fun _ _ _ h => h) (.inl ⟨by kernel_rfl, ?_⟩) (by assumption) ?_
      rotate_left
      · (intro w_ hSw; go_simp; first | done | with_reducible rfl)
      try simp only [Act.put, List.setIfInBounds_toArray, List.set_cons_zero, List.set_cons_succ]
      refine Held.takeL (i := 4) (v := ?_) rfl (by kernel_rfl) (by kernel_rfl) (by kernel_rfl) (fun _ _ _ h => h) (.inl ⟨by kernel_rfl, ?_⟩) (by assumption) ?_
      rotate_left
      · (intro w_ hSw; go_simp; first | done | with_reducible rfl)
      try simp only [Act.put, List.setIfInBounds_toArray, List.set_cons_zero, List.set_cons_succ]
      refine Held.takeL (i := 5) (v := ?_) rfl (by kernel_rfl) (by kernel_rfl) (by kernel_rfl) (fun _ _ _ h => h) (.inl ⟨by kernel_rfl, ?_⟩) (by assumption) ?_
      rotate_left
      · (intro w_ hSw; go_simp; first | done | with_reducible rfl)
      try simp only [Act.put, List.setIfInBounds_toArray, List.set_cons_zero, List.set_cons_succ]
      refine Held.takeL (i := 6) (v := ?_) rfl (by kernel_rfl) (by kernel_rfl) (by kernel_rfl) (fun _ _ _ h => h) (.inl ⟨by kernel_rfl, ?_⟩) (by assumption) ?_
      rotate_left
      · (intro w_ hSw; go_simp; first | done | with_reducible rfl)
      try simp only [Act.put, List.setIfInBounds_toArray, List.set_cons_zero, List.set_cons_succ]
      refine Held.takeL (i := 7) (v := ?_) rfl (by kernel_rfl) (by kernel_rfl) (by kernel_rfl) (fun _ _ _ h => h) (.inl ⟨by kernel_rfl, ?_⟩) (by assumption) ?_
      rotate_left
      · (intro w_ hSw; go_simp; first | done | with_reducible rfl)
      try simp only [Act.put, List.setIfInBounds_toArray, List.set_cons_zero, List.set_cons_succ]
      refine Held.takeL (i := 8) (v := ?_) rfl (by kernel_rfl) (by kernel_rfl) (by kernel_rfl) (fun _ _ _ h => h) (.inl ⟨by kernel_rfl, ?_⟩) (by assumption) ?_
      rotate_left
      · (intro w_ hSw; go_simp; first | done | with_reducible rfl)
      try simp only [Act.put, List.setIfInBounds_toArray, List.set_cons_zero, List.set_cons_succ]
      refine Held.takeL (i := 9) (v := .agg (pageC y)) rfl (by kernel_rfl) (by kernel_rfl) (by kernel_rfl) (fun _ _ _ h => h) ?_ (by assumption) ?_
      · exact yields_page (by kernel_rfl) (.tmp 10) (by kernel_rfl) D (by kernel_rfl) y hSD
      try simp only [Act.put, List.setIfInBounds_toArray, List.set_cons_zero, List.set_cons_succ]
      refine Held.takeL (i := 11) (v := .agg (pageC y)) rfl (by kernel_rfl) (by kernel_rfl) (by kernel_rfl) (fun _ _ _ h => h) ?_ (by assumption) ?_
      · exact yields_page (by kernel_rfl) (.tmp 10) (by kernel_rfl) D (by kernel_rfl) y hSD
      try simp only [Act.put, List.setIfInBounds_toArray, List.set_cons_zero, List.set_cons_succ]
      refine wpAnyH_ready (rs := [10]) (by kernel_rfl) (by simp) ?_
      refine Held.consL rfl (fun K hK => ?_) AllReadyH.nil
      go_simp
      refine (HV1.out _).mono ?_
      rintro e_ wv ⟨rfl, hbv⟩
      refine hK.out _ _ (hHeld.step hbv) (fun hHeld => ?_)
      clear hK K
      try simp only [Act.put, List.setIfInBounds_toArray, List.set_cons_zero, List.set_cons_succ]
      refine wpAnyH_ready (rs := [12]) (by kernel_rfl) (by simp) ?_
      refine Held.consL rfl (fun K hK => ?_) AllReadyH.nil
      go_simp
      refine (HV2.out _).mono ?_
      rintro e_ wu ⟨rfl, hbu⟩
      refine hK.out _ _ (hHeld.step hbu) (fun hHeld => ?_)
      clear hK K
      try simp only [Act.put, List.setIfInBounds_toArray, List.set_cons_zero, List.set_cons_succ]
      refine Held.takeL (i := 13) (v := ?_) rfl (by kernel_rfl) (by kernel_rfl) (by kernel_rfl) (fun _ _ _ h => h) (.inl ⟨by kernel_rfl, ?_⟩) (by assumption) ?_
      rotate_left
      · (intro w_ hSw; go_simp; first | done | with_reducible rfl)
      try simp only [Act.put, List.setIfInBounds_toArray, List.set_cons_zero, List.set_cons_succ]
      refine Held.takeL (i := 14) (v := ?_) rfl (by kernel_rfl) (by kernel_rfl) (by kernel_rfl) (fun _ _ _ h => h) (.inl ⟨by kernel_rfl, ?_⟩) (by assumption) ?_
      rotate_left
      · (intro w_ hSw; go_simp; first | done | with_reducible rfl)
      try simp only [Act.put, List.setIfInBounds_toArray, List.set_cons_zero, List.set_cons_succ]
      refine wpAnyH_done (by kernel_rfl) ?_ _
      go_wp2_with fail
      have hSf := PsAt.below hSc hHeld.below hSc.lt
      have hKf : Kp B0 w wu := ⟨hKc.below.trans (hHeld.below.mono hKc.size), Nat.le_trans hKc.size hHeld.size⟩
      go_roundw
      case rel => exact ⟨j + 1, by omega, by go_num, hSf, hKf⟩
      case measure => simp [intOf]; omega
    · have hdec : decide ((j : Int) < 4) = false := by simp; omega
      have hw := PgWf.new hx
      go_wp2_with fail
      refine (new_calls x _).mono ?_
      rintro e_ wb ⟨rfl, hbb⟩
      have hKb := hK.step hbb
      clear hK hbb hS
      go_wp2_with fail
      refine (new02_calls x _).mono ?_
      rintro e_ wc ⟨rfl, hbc⟩
      have hKc := hKb.step hbc
      clear hKb hbc
      go_wp2_with (refine wpList_self59 (by rfl) (.tmp 64) (.tmp 66) 59 rfl (Page.new x) rfl rfl hw ?_)
      refine (blank_calls _).mono ?_
      rintro e_ wd ⟨rfl, hbd⟩
      have hKd := hKc.step hbd
      clear hKc hbd
      go_wp2_with fail
      refine (blank02_calls _).mono ?_
      rintro e_ we ⟨rfl, hbe⟩
      have hKe := hKd.step hbe
      go_wp2_with fail
      go_ret
      exact ⟨rfl, hKe.below⟩
end Go.Proofs.Ytldkgmodmpnclaa
