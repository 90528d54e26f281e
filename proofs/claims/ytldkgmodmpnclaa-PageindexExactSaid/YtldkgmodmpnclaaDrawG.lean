/- A drawn index: valid, of some rows. -/
import Derived.Test.YtldkgmodmpnclaaIxC
namespace Go.Proofs.Ytldkgmodmpnclaa
open Go.RowKit Go.Proofs
set_option linter.unusedVariables false
set_option linter.unusedSimpArgs false
theorem Fr.set {B g : Nat} {w0 w : World} (h : Fr B g w0 w) {b : Nat} (hg : g < b) (o : Nat) (v : Value) : Fr B g w0 (w.setCell ⟨b, o, none⟩ v) :=
  ⟨⟨h.k.below.setCell (p := ⟨b, o, none⟩) (Nat.le_of_lt (Nat.lt_of_le_of_lt h.bg hg)) v, by simpa [World.setCell] using h.k.size⟩, h.c.setB hg o v, h.bg⟩
theorem Fx.set {B g : Nat} {L : List (Nat × Obj)} {w0 w : World} (h : Fx B g L w0 w) {b : Nat} (hg : g < b) (hb : ∀ x ∈ L, x.1 ≠ b) (o : Nat) (v : Value) : Fx B g L w0 (w.setCell ⟨b, o, none⟩ v) :=
  ⟨h.f.set hg o v, fun x hx => ⟨(h.m x hx).1, (heap_setCell_other _ _ _ _ (hb x hx)).trans (h.m x hx).2⟩⟩
theorem all_set {l : List Row3} {i : Nat} {r : Row3} (h : l.all rowOk = true) (hr : rowOk r = true) : (l.set i r).all rowOk = true := by
  rw [List.all_eq_true] at h ⊢
  intro x hx
  rcases List.mem_or_eq_of_mem_set hx with hx | rfl
  · exact h x hx
  · exact hr
theorem ok_lsn {r : Row3} (h : rowOk r = true) {x : Int} (h0 : 0 ≤ x) (h1 : x ≤ 1000) : rowOk (r.put 0 x) = true := by
  simp only [rowOk, Bool.and_eq_true, lsnOk, decide_eq_true_eq] at h ⊢
  exact ⟨⟨⟨⟨h0, by show x ≤ _; omega⟩, h.1.1.2⟩, h.1.2⟩, h.2⟩
theorem ok_image {r : Row3} (h : rowOk r = true) {x y : Int} (h0 : 1 ≤ x) (h1 : x ≤ 1000) (h2 : 0 ≤ y) (h3 : y ≤ 1000) : rowOk ((r.put 1 x).put 2 y) = true := by
  simp only [rowOk, Bool.and_eq_true, lsnOk, decide_eq_true_eq] at h ⊢
  refine ⟨⟨⟨h.1.1.1, ⟨by show 0 ≤ x; omega, by show x ≤ _; omega⟩⟩, ⟨h2, by show y ≤ _; omega⟩⟩, ?_⟩
  show (!((x == 0) && (y != 0))) = true
  have : (x == 0) = false := by simp; omega
  rw [this]
  rfl
/-- An index of n rows, in a block of its own. -/
def SomeIdx (g : Nat) (w : World) (e : Ending) (w' : World) : Prop := ∃ b n l, e = .returned (.agg #[.slice (some ⟨b, 0, none⟩) n n]) ∧ w.heap.size ≤ b ∧ RwOwn w' b n n l ∧ l.all rowOk = true ∧ 1 ≤ n ∧ n ≤ 5 ∧ KB g w w' ∧ Cs w' g
theorem zeros_ok (n : Nat) : (List.replicate n Row3.zero).all rowOk = true := by
  rw [List.all_eq_true]
  intro x hx
  obtain ⟨_, rfl⟩ := List.mem_replicate.1 hx
  rfl
set_option maxHeartbeats 4000000 in
set_option maxRecDepth 100000 in
theorem index_calls (g : Nat) (w : World) (h : Cs w g) : Calls Try.prog 16 #[.pointer (some ⟨g, 0, none⟩)] w (SomeIdx g w) := by
  have hlt := h.lt
  obtain ⟨A, hA⟩ : ∃ A, w.heap.size = A := ⟨_, rfl⟩
  have hk0 := (KB.refl g w).alloc (.cells #[.slice none 0 0] 25)
  have hc0 := h.alloc (.cells #[.slice none 0 0] 25)
  have hZ := heap_alloc_new w (.cells #[.slice none 0 0] 25)
  rw [hA] at hZ hlt
  go_enter Try.func16, Try.ntmps16
  go_wp2_with fail
  refine (next_calls g 5 _ hc0 (by omega) (by omega)).mono ?_
  rintro e w1 ⟨r, rfl, hr0, hr1, hk1, hc1⟩
  have hZ1 := (hk1.block A (by simp; omega) (by omega)).trans hZ
  have hk1' := hk0.trans hk1
  have hs1 : A + 1 ≤ w1.heap.size := by have := hk1.size; simp at this; omega
  obtain ⟨n, hn⟩ : ∃ n : Nat, 1 + r = n := ⟨(1 + r).toNat, by omega⟩
  have hwr : IntKind.i64.wrap (1 + r) = (n : Int) := (IntWalk.i64_in _ (by omega)).trans hn
  clear hk0 hc0 hZ hk1 h
  go_wp2_with fail
  refine (new11_ok n _ (by omega) (by omega)).mono ?_
  rintro e w2 ⟨b, rfl, hb, hO, hb2⟩
  have hZ2 := (hb2.block A (by omega)).trans hZ1
  have hc2 := hc1.keep hb2
  have hk2 := hk1'.trans (KB.of_below hb2)
  have hs2 := hb2.size
  have hT := heap_alloc_new w2 (.cells #[.slice (some ⟨b, 0, none⟩) n n] 25)
  have hZ3 : (w2.alloc (.cells #[.slice (some ⟨b, 0, none⟩) n n] 25)).heap[A]? = _ := heap_alloc_of hZ2
  have hO3 := hO.below ((Below.refl w2.heap.size w2).alloc (Nat.le_refl _) (.cells #[.slice (some ⟨b, 0, none⟩) n n] 25))
  have hc3 := hc2.alloc (.cells #[.slice (some ⟨b, 0, none⟩) n n] 25)
  have hk3 := hk2.alloc (.cells #[.slice (some ⟨b, 0, none⟩) n n] 25)
  have hbl := hO.lt
  obtain ⟨T, hTe⟩ : ∃ T, w2.heap.size = T := ⟨_, rfl⟩
  rw [hTe] at hT hbl
  have hF : Fx 0 g [(T, .cells #[.slice (some ⟨b, 0, none⟩) n n] 25 (0, 0)), (A, .cells #[.slice none 0 0] 25 (0, 0))] w (w2.alloc (.cells #[.slice (some ⟨b, 0, none⟩) n n] 25)) :=
    ((Fx.of ⟨⟨⟨hk3.os, hk3.tape, hk3.output, hk3.size, fun k hk => by omega⟩, by omega⟩, hc3, by omega⟩).add hZ3 (by omega)).add hT (by omega)
  have hTn := (show ∀ x ∈ [(T, Obj.cells #[.slice (some ⟨b, 0, none⟩) n n] 25 (0, 0)), (A, Obj.cells #[.slice none 0 0] 25 (0, 0))], x.1 ≠ b from fun x hx => by
    simp only [List.mem_cons, List.not_mem_nil, or_false] at hx
    rcases hx with rfl | rfl <;> simp <;> omega)
  have HTN := Lib.hid hTn
  obtain ⟨W, hW⟩ : ∃ W, w2.alloc (.cells #[.slice (some ⟨b, 0, none⟩) n n] 25) = W := ⟨_, rfl⟩
  rw [hW] at hO3 hF hk3
  have HF := Lib.hid hF
  have HO := Lib.hid hO3
  have HW := Lib.hid hW
  have HK := Lib.hid hk3
  have HTE := Lib.hid hTe
  clear hZ1 hk1' hc1 hb2 hZ2 hc2 hk2 hT hZ3 hO3 hc3 hk3 hF hW hO hTn hTe
  go_wp2_with fail
  rw [HW.out, HTE.out]
  go_loopw [5] (fun i wr => ∃ (j : Nat) (l : List Row3), j ≤ n ∧ i = .int .i64 j ∧ RwOwn wr b n n l ∧ l.all rowOk = true ∧ Fx 0 g [(T, Obj.cells #[.slice (some ⟨b, 0, none⟩) n n] 25 (0, 0)), (A, Obj.cells #[.slice none 0 0] 25 (0, 0))] w wr ∧ KB g w wr) (fun i _ => n - (intOf i).toNat)
  case atStart => exact ⟨0, _, by omega, rfl, HO.out, zeros_ok n, HF.out, HK.out⟩
  case round =>
    obtain ⟨j, l, hj, rfl, hO, hall, hFx, hK⟩ := hrel
    have c0 : wr.cell? ⟨T, 0, none⟩ = some (.slice (some ⟨b, 0, none⟩) n n) := by rw [heap_cell hFx.hd]; rfl
    have ALL := Lib.hid hall
    by_cases hlt2 : j < n
    · have hdec : decide ((j : Int) < n) = true := by simp; omega
      have hdec2 : decide (j < n) = true := by simp; omega
      have hln := hO.len
      obtain ⟨r, hr⟩ : ∃ r, l[j]? = some r := ⟨l[j]'(by omega), by simp⟩
      have HR := Lib.hid hr
      have i0 : (0 : Int) ≤ (j : Int) := by omega
      have i1 : (j : Int) < (n : Int) := by omega
      have HOr := Lib.hid hO; have HKr := Lib.hid hK; have HFx := Lib.hid hFx; have HLN := Lib.hid hln
      clear hO hK hr hall hln hFx
      go_wp2_with fail
      refine wp_region_held_drew (S := Fx 0 g [(T, Obj.cells #[.slice (some ⟨b, 0, none⟩) n n] 25 (0, 0)), (A, Obj.cells #[.slice none 0 0] 25 (0, 0))] w) (by kernel_rfl) HFx.out.drew (fun hHeld => ?_)
      refine Held.takeL (i := 0) (v := ?_) rfl (by kernel_rfl) (by kernel_rfl) (by kernel_rfl) (fun _ _ _ h => h) (.inl ⟨by kernel_rfl, ?_⟩) (by assumption) ?_
      rotate_left
      · (intro w_ hSw; go_simp; first | done | with_reducible rfl)
      try simp only [Act.put, List.setIfInBounds_toArray, List.set_cons_zero, List.set_cons_succ]
      refine Held.takeL (i := 1) (v := ?_) rfl (by kernel_rfl) (by kernel_rfl) (by kernel_rfl) (fun _ _ _ h => h) (.inl ⟨by kernel_rfl, ?_⟩) (by assumption) ?_
      rotate_left
      · (intro w_ hSw; have q0_ : w_.cell? ⟨T, 0, none⟩ = some (.slice (some ⟨b, 0, none⟩) n n) := (heap_cell hSw.hd 0).trans rfl; go_simp; first | done | with_reducible rfl)
      try simp only [Act.put, List.setIfInBounds_toArray, List.set_cons_zero, List.set_cons_succ]
      refine Held.takeL (i := 2) (v := ?_) rfl (by kernel_rfl) (by kernel_rfl) (by kernel_rfl) (fun _ _ _ h => h) (.inl ⟨by kernel_rfl, ?_⟩) (by assumption) ?_
      rotate_left
      · (intro w_ hSw; go_simp; first | done | with_reducible rfl)
      try simp only [Act.put, List.setIfInBounds_toArray, List.set_cons_zero, List.set_cons_succ]
      refine Held.takeL (i := 3) (v := ?_) rfl (by kernel_rfl) (by kernel_rfl) (by kernel_rfl) (fun _ _ _ h => h) (.inl ⟨by kernel_rfl, ?_⟩) (by assumption) ?_
      rotate_left
      · (intro w_ hSw; go_simp; first | done | with_reducible rfl)
      try simp only [Act.put, List.setIfInBounds_toArray, List.set_cons_zero, List.set_cons_succ]
      refine wpAnyH_ready (rs := [4]) (by kernel_rfl) (by simp) ?_
      refine Held.consL rfl (fun K hK => ?_) AllReadyH.nil
      go_simp
      refine (next_calls g 40 _ hHeld.c (by omega) (by omega)).mono ?_
      rintro e_ w5 ⟨x, rfl, hx0, hx1, hk, hc⟩
      have hH := hHeld.kb hk hc
      have hO5 := (HOr.out.drew).kb hk (by omega)
      have hK5 := (HKr.out.drew).trans hk
      have g0 := hO5.cell _ _ (rowsV_get l j r HR.out).1
      have f0 := hO5.free (j * 3)
      clear hk hc
      refine hK.out _ _ hH (fun hHeld => ?_)
      clear hK K
      try simp only [Act.put, List.setIfInBounds_toArray, List.set_cons_zero, List.set_cons_succ]
      clear hH
      refine Held.takeL (i := 5) (v := ?_) rfl (by kernel_rfl) (by kernel_rfl) (by kernel_rfl) (fun _ _ _ h => h) (.inl ⟨by kernel_rfl, ?_⟩) (by assumption) ?_
      rotate_left
      · (intro w_ hSw; go_simp; first | done | with_reducible rfl)
      try simp only [Act.put, List.setIfInBounds_toArray, List.set_cons_zero, List.set_cons_succ]
      refine Held.takeL (i := 6) (v := ?_) rfl (by kernel_rfl) (by kernel_rfl) (by kernel_rfl) (fun _ _ _ h => h) (.inl ⟨by kernel_rfl, ?_⟩) (by assumption) ?_
      rotate_left
      · (intro w_ hSw; go_simp; first | done | with_reducible rfl)
      try simp only [Act.put, List.setIfInBounds_toArray, List.set_cons_zero, List.set_cons_succ]
      refine wpAnyH_ready (rs := [7]) (by kernel_rfl) (by simp) ?_
      refine Held.consL rfl (fun K hK => ?_) AllReadyH.nil
      go_simp
      have hH := hHeld.set (b := b) (by omega) HTN.out (j * 3) (.int .i64 x)
      refine hK.out _ _ hH (fun hHeld => ?_)
      clear hK K
      try simp only [Act.put, List.setIfInBounds_toArray, List.set_cons_zero, List.set_cons_succ]
      clear hH
      refine wpAnyH_done (by kernel_rfl) ?_ _
      have hO6 := hO5.set HR.out (k := 0) (by omega) x
      have hK6 := hK5.setB (B := b) (by omega) (j * 3) (.int .i64 x)
      have hr6 := get_set HR.out (r.put 0 x)
      have hall6 := all_set ALL.out (ok_lsn (List.all_eq_true.1 ALL.out r (List.mem_of_getElem? HR.out)) hx0 (by omega)) (i := j)
      have hok6 := ok_lsn (List.all_eq_true.1 ALL.out r (List.mem_of_getElem? HR.out)) hx0 (by omega : x ≤ 1000)
      obtain ⟨l2, hl2⟩ : ∃ l2, l.set j (r.put 0 x) = l2 := ⟨_, rfl⟩
      rw [hl2] at hO6 hr6 hall6
      obtain ⟨r2, hr2⟩ : ∃ r2, r.put 0 x = r2 := ⟨_, rfl⟩
      rw [hr2] at hr6 hok6
      obtain ⟨w6, hw6⟩ : ∃ w6, w5.setCell ⟨b, j * 3, none⟩ (.int .i64 x) = w6 := ⟨_, rfl⟩
      simp only [Nat.add_zero] at hO6
      rw [hw6] at hO6 hK6 hHeld
      have HO6 := Lib.hid hO6; have HK6 := Lib.hid hK6; have HR6 := Lib.hid hr6; have AL6 := Lib.hid hall6; have OK6 := Lib.hid hok6; have HF6 := Lib.hid hHeld; have HW6 := Lib.hid hw6
      clear hO6 hK6 hr6 hall6 hok6 hl2 hr2 hw6 hHeld hO5 hK5 g0 f0
      go_wp2_with fail
      rw [HW6.out]
      refine (next_calls g 3 _ HF6.out.c (by omega) (by omega)).mono ?_
      rintro e_ w7 ⟨y, rfl, hy0, hy1, hk, hc⟩
      have hF7 := HF6.out.kb hk hc
      have hO7 := HO6.out.kb hk (by omega)
      have hK7 := HK6.out.trans hk
      have d0 : w7.cell? ⟨T, 0, none⟩ = some (.slice (some ⟨b, 0, none⟩) n n) := by rw [heap_cell hF7.hd]; rfl
      have HF7 := Lib.hid hF7; have HO7 := Lib.hid hO7; have HK7 := Lib.hid hK7
      clear hk hc hF7 hO7 hK7
      by_cases hy : y = 0
      · have hyb : (y == 0) = true := by rw [hy]; rfl
        clear hy
        go_wp2_with fail
        refine wp_region_held_drew (S := Fx 0 g [(T, Obj.cells #[.slice (some ⟨b, 0, none⟩) n n] 25 (0, 0)), (A, Obj.cells #[.slice none 0 0] 25 (0, 0))] w) (by kernel_rfl) HF7.out.drew (fun hHeld => ?_)
        refine Held.takeL (i := 0) (v := ?_) rfl (by kernel_rfl) (by kernel_rfl) (by kernel_rfl) (fun _ _ _ h => h) (.inl ⟨by kernel_rfl, ?_⟩) (by assumption) ?_
        rotate_left
        · (intro w_ hSw; go_simp; first | done | with_reducible rfl)
        try simp only [Act.put, List.setIfInBounds_toArray, List.set_cons_zero, List.set_cons_succ]
        refine Held.takeL (i := 1) (v := ?_) rfl (by kernel_rfl) (by kernel_rfl) (by kernel_rfl) (fun _ _ _ h => h) (.inl ⟨by kernel_rfl, ?_⟩) (by assumption) ?_
        rotate_left
        · (intro w_ hSw; have q0_ : w_.cell? ⟨T, 0, none⟩ = some (.slice (some ⟨b, 0, none⟩) n n) := (heap_cell hSw.hd 0).trans rfl; go_simp; first | done | with_reducible rfl)
        try simp only [Act.put, List.setIfInBounds_toArray, List.set_cons_zero, List.set_cons_succ]
        refine Held.takeL (i := 2) (v := ?_) rfl (by kernel_rfl) (by kernel_rfl) (by kernel_rfl) (fun _ _ _ h => h) (.inl ⟨by kernel_rfl, ?_⟩) (by assumption) ?_
        rotate_left
        · (intro w_ hSw; go_simp; first | done | with_reducible rfl)
        try simp only [Act.put, List.setIfInBounds_toArray, List.set_cons_zero, List.set_cons_succ]
        refine Held.takeL (i := 3) (v := ?_) rfl (by kernel_rfl) (by kernel_rfl) (by kernel_rfl) (fun _ _ _ h => h) (.inl ⟨by kernel_rfl, ?_⟩) (by assumption) ?_
        rotate_left
        · (intro w_ hSw; go_simp; first | done | with_reducible rfl)
        try simp only [Act.put, List.setIfInBounds_toArray, List.set_cons_zero, List.set_cons_succ]
        refine Held.takeL (i := 4) (v := ?_) rfl (by kernel_rfl) (by kernel_rfl) (by kernel_rfl) (fun _ _ _ h => h) (.inl ⟨by kernel_rfl, ?_⟩) (by assumption) ?_
        rotate_left
        · (intro w_ hSw; have q0_ : w_.cell? ⟨T, 0, none⟩ = some (.slice (some ⟨b, 0, none⟩) n n) := (heap_cell hSw.hd 0).trans rfl; go_simp; first | done | with_reducible rfl)
        try simp only [Act.put, List.setIfInBounds_toArray, List.set_cons_zero, List.set_cons_succ]
        refine Held.takeL (i := 5) (v := ?_) rfl (by kernel_rfl) (by kernel_rfl) (by kernel_rfl) (fun _ _ _ h => h) (.inl ⟨by kernel_rfl, ?_⟩) (by assumption) ?_
        rotate_left
        · (intro w_ hSw; go_simp; first | done | with_reducible rfl)
        try simp only [Act.put, List.setIfInBounds_toArray, List.set_cons_zero, List.set_cons_succ]
        refine Held.takeL (i := 6) (v := ?_) rfl (by kernel_rfl) (by kernel_rfl) (by kernel_rfl) (fun _ _ _ h => h) (.inl ⟨by kernel_rfl, ?_⟩) (by assumption) ?_
        rotate_left
        · (intro w_ hSw; go_simp; first | done | with_reducible rfl)
        try simp only [Act.put, List.setIfInBounds_toArray, List.set_cons_zero, List.set_cons_succ]
        refine Held.takeL (i := 9) (v := ?_) rfl (by kernel_rfl) (by kernel_rfl) (by kernel_rfl) (fun _ _ _ h => h) (.inl ⟨by kernel_rfl, ?_⟩) (by assumption) ?_
        rotate_left
        · (intro w_ hSw; go_simp; first | done | with_reducible rfl)
        try simp only [Act.put, List.setIfInBounds_toArray, List.set_cons_zero, List.set_cons_succ]
        refine wpAnyH_ready (rs := [7]) (by kernel_rfl) (by simp) ?_
        refine Held.consL rfl (fun K hK => ?_) AllReadyH.nil
        go_simp
        refine (next_calls g 4 _ hHeld.c (by omega) (by omega)).mono ?_
        rintro e_ w8 ⟨z, rfl, hz0, hz1, hk, hc⟩
        have hH := hHeld.kb hk hc
        have hO8 := (HO7.out.drew).kb hk (by omega)
        have hK8 := (HK7.out.drew).trans hk
        have z1 : IntKind.i64.wrap (1 + z) = 1 + z := IntWalk.i64_in _ (by omega)
        clear hk hc
        refine hK.out _ _ hH (fun hHeld => ?_)
        clear hK K
        try simp only [Act.put, List.setIfInBounds_toArray, List.set_cons_zero, List.set_cons_succ]
        clear hH
        refine Held.takeL (i := 8) (v := ?_) rfl (by kernel_rfl) (by kernel_rfl) (by kernel_rfl) (fun _ _ _ h => h) (.inl ⟨by kernel_rfl, ?_⟩) (by assumption) ?_
        rotate_left
        · (intro w_ hSw; go_simp; first | done | with_reducible rfl)
        try simp only [Act.put, List.setIfInBounds_toArray, List.set_cons_zero, List.set_cons_succ]
        refine wpAnyH_ready (rs := [10]) (by kernel_rfl) (by simp) ?_
        refine Held.consL rfl (fun K hK => ?_) AllReadyH.nil
        go_simp
        refine (next_calls g 40 _ hHeld.c (by omega) (by omega)).mono ?_
        rintro e_ w9 ⟨u, rfl, hu0, hu1, hk, hc⟩
        have hH := hHeld.kb hk hc
        have hO9 := hO8.kb hk (by omega)
        have hK9 := hK8.trans hk
        have g1 := hO9.cell _ _ (rowsV_get l2 j r2 HR6.out).2.1
        have f1 := hO9.free (j * 3 + 1)
        clear hk hc
        refine hK.out _ _ hH (fun hHeld => ?_)
        clear hK K
        try simp only [Act.put, List.setIfInBounds_toArray, List.set_cons_zero, List.set_cons_succ]
        clear hH
        refine Held.takeL (i := 11) (v := ?_) rfl (by kernel_rfl) (by kernel_rfl) (by kernel_rfl) (fun _ _ _ h => h) (.inl ⟨by kernel_rfl, ?_⟩) (by assumption) ?_
        rotate_left
        · (intro w_ hSw; go_simp; first | done | with_reducible rfl)
        try simp only [Act.put, List.setIfInBounds_toArray, List.set_cons_zero, List.set_cons_succ]
        refine Held.takeL (i := 12) (v := ?_) rfl (by kernel_rfl) (by kernel_rfl) (by kernel_rfl) (fun _ _ _ h => h) (.inl ⟨by kernel_rfl, ?_⟩) (by assumption) ?_
        rotate_left
        · (intro w_ hSw; go_simp; first | done | with_reducible rfl)
        try simp only [Act.put, List.setIfInBounds_toArray, List.set_cons_zero, List.set_cons_succ]
        refine wpAnyH_ready (rs := [13]) (by kernel_rfl) (by simp) ?_
        refine Held.consL rfl (fun K hK => ?_) AllReadyH.nil
        go_simp
        have hH := hHeld.set (b := b) (by omega) HTN.out (j * 3 + 1) (.int .i64 (1 + z))
        have hOa := hO9.set HR6.out (k := 1) (by omega) (1 + z)
        have hKa := hK9.setB (B := b) (by omega) (j * 3 + 1) (.int .i64 (1 + z))
        have ha_ := get_set HR6.out (r2.put 1 (1 + z))
        have g2 := hOa.cell _ _ (rowsV_get _ j _ ha_).2.2
        have f2 := hOa.free (j * 3 + 2)
        refine hK.out _ _ hH (fun hHeld => ?_)
        clear hK K
        try simp only [Act.put, List.setIfInBounds_toArray, List.set_cons_zero, List.set_cons_succ]
        clear hH
        refine Held.takeL (i := 14) (v := ?_) rfl (by kernel_rfl) (by kernel_rfl) (by kernel_rfl) (fun _ _ _ h => h) (.inl ⟨by kernel_rfl, ?_⟩) (by assumption) ?_
        rotate_left
        · (intro w_ hSw; go_simp; first | done | with_reducible rfl)
        try simp only [Act.put, List.setIfInBounds_toArray, List.set_cons_zero, List.set_cons_succ]
        refine Held.takeL (i := 15) (v := ?_) rfl (by kernel_rfl) (by kernel_rfl) (by kernel_rfl) (fun _ _ _ h => h) (.inl ⟨by kernel_rfl, ?_⟩) (by assumption) ?_
        rotate_left
        · (intro w_ hSw; go_simp; first | done | with_reducible rfl)
        try simp only [Act.put, List.setIfInBounds_toArray, List.set_cons_zero, List.set_cons_succ]
        refine wpAnyH_ready (rs := [16]) (by kernel_rfl) (by simp) ?_
        refine Held.consL rfl (fun K hK => ?_) AllReadyH.nil
        go_simp
        have hH := hHeld.set (b := b) (by omega) HTN.out (j * 3 + 2) (.int .i64 u)
        refine hK.out _ _ hH (fun hHeld => ?_)
        clear hK K
        try simp only [Act.put, List.setIfInBounds_toArray, List.set_cons_zero, List.set_cons_succ]
        clear hH
        refine wpAnyH_done (by kernel_rfl) ?_ _
        have hOb := hOa.set ha_ (k := 2) (by omega) u
        have hKb := hKa.setB (B := b) (by omega) (j * 3 + 2) (.int .i64 u)
        rw [List.set_set] at hOb
        have hallb := all_set AL6.out (ok_image OK6.out (x := 1 + z) (y := u) (by omega) (by omega) hu0 (by omega)) (i := j)
        have HOb := Lib.hid hOb; have HKb := Lib.hid hKb; have HAb := Lib.hid hallb; have HFb := Lib.hid hHeld
        clear hOb hKb hallb hHeld hOa hKa ha_ g2 f2 g1 f1 hO9 hK9 hO8 hK8
        go_wp2_with fail
        go_roundw
        case rel => exact ⟨j + 1, _, by omega, by go_num, HOb.out, HAb.out, HFb.out, HKb.out⟩
        case measure => simp [intOf]; omega
      · have hyb : (y == 0) = false := by simpa using hy
        clear hy
        go_wp2_with fail
        go_roundw
        case rel => exact ⟨j + 1, l2, by omega, by go_num, HO7.out, AL6.out, HF7.out, HK7.out⟩
        case measure => simp [intOf]; omega
    · have hdec : decide ((j : Int) < n) = false := by simp; omega
      have hdec2 : decide (j < n) = false := by simp; omega
      have hZ : wr.heap[A]? = some (.cells #[.slice none 0 0] 25 (0, 0)) := hFx.hd2
      have z0 : wr.cell? ⟨A, 0, none⟩ = some (.slice none 0 0) := by rw [heap_cell hZ]; rfl
      have zf : wr.frozen? ⟨A, 0, none⟩ = false := heap_free hZ 0
      have HZ := Lib.hid (show (wr.setCell ⟨A, 0, none⟩ (.slice (some ⟨b, 0, none⟩) n n)).heap[A]? = some (.cells #[.slice (some ⟨b, 0, none⟩) n n] 25 (0, 0)) from by rw [heap_setCell_same _ _ _ _ _ _ hZ]; rfl)
      have HOe := Lib.hid (hO.keep (w' := wr.setCell ⟨A, 0, none⟩ (.slice (some ⟨b, 0, none⟩) n n)) (heap_setCell_other _ _ _ _ (by simp; omega)))
      have HKe := Lib.hid (hK.setB (B := A) (by omega) 0 (.slice (some ⟨b, 0, none⟩) n n))
      have HCe := Lib.hid (hFx.c.setB (B := A) hlt 0 (.slice (some ⟨b, 0, none⟩) n n))
      clear hZ hO hK hFx hall
      go_wp2_with fail
      exact end25a rfl rfl HZ.out rfl ⟨b, n, l, rfl, by omega, HOe.out, ALL.out, by omega, by omega, HKe.out, HCe.out⟩
end Go.Proofs.Ytldkgmodmpnclaa
