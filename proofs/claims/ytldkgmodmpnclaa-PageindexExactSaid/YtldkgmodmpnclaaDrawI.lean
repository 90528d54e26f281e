/- A drawn change, and a drawn entry: any, well formed. -/
import Derived.Test.YtldkgmodmpnclaaLwA
namespace Go.Proofs.Ytldkgmodmpnclaa
open Go.RowKit Go.Proofs
set_option linter.unusedVariables false
set_option linter.unusedSimpArgs false
theorem info29 (c : Chg) : (Try.prog.info? 29).map (·.size) = some c.cs.size := by kernel_rfl
theorem zero29 (w : World) : (zeroValue 29).run Try.prog w = .ok (.agg Chg.zero.cs) w := Try.zeroValue29 w
def AnyChg (g : Nat) (w : World) (e : Ending) (w' : World) : Prop := ∃ c : Chg, e = .returned (.agg c.cs) ∧ ChgWf c ∧ KB g w w' ∧ Cs w' g
theorem fits_size {c : Cell} (h : cellFits c = true) : c.data.size ≤ maxLen := by
  unfold cellFits at h
  simp only [Bool.and_eq_true, decide_eq_true_eq] at h
  have := h.1
  simp only [maxLen]
  omega
set_option maxHeartbeats 1000000 in
set_option maxRecDepth 100000 in
theorem change_calls (g : Nat) (w : World) (h : Cs w g) : Calls Try.prog 54 #[.pointer (some ⟨g, 0, none⟩)] w (AnyChg g w) := by
  have hlt := h.lt
  obtain ⟨A, hA⟩ : ∃ A, w.heap.size = A := ⟨_, rfl⟩
  have hZ := heap_alloc_new w (.cells Chg.zero.cs 29)
  rw [hA] at hZ
  have hG : Kg g w (w.alloc (.cells Chg.zero.cs 29)) := ⟨(KB.refl g w).alloc _, h.alloc _⟩
  have hgA : g < A := by omega
  obtain ⟨W, hW⟩ : ∃ W, w.alloc (.cells Chg.zero.cs 29) = W := ⟨_, rfl⟩
  rw [hW] at hZ hG
  have HW := Lib.hid hW
  clear hW h hlt
  go_enter Try.func54, Try.ntmps54
  go_wp2_with (first
    | (refine wpList_alloc_row rfl 29 rfl Chg.zero.cs zero29 ?_; rw [HW.out])
    | fail)
  try rw [hA]
  refine (next_calls g 4 _ hG.c (by omega) (by omega)).mono ?_
  rintro e w1 ⟨x, rfl, hx0, hx1, hk, hc⟩
  have hZ1 := (hk.block A (heap_lt hZ) (by omega)).trans hZ
  have hG1 := hG.kb hk hc
  clear hk hc hZ hG
  go_wp2_with fail
  refine (next_calls g 3 _ hG1.c (by omega) (by omega)).mono ?_
  rintro e w2 ⟨y, rfl, hy0, hy1, hk, hc⟩
  have hZ2 := (hk.block A (heap_lt hZ1) (by omega)).trans hZ1
  have hG2 := hG1.kb hk hc
  clear hk hc hZ1 hG1
  go_wp2_with fail
  refine (cell_calls g _ hG2.c).mono ?_
  rintro e w3 ⟨c1, rfl, hf1, hk, hc⟩
  have hZ3 := (hk.block A (heap_lt hZ2) (by omega)).trans hZ2
  have hG3 := hG2.kb hk hc
  clear hk hc hZ2 hG2
  go_wp2_with fail
  refine (cell_calls g _ hG3.c).mono ?_
  rintro e w4 ⟨c2, rfl, hf2, hk, hc⟩
  have hZ4 := (hk.block A (heap_lt hZ3) (by omega)).trans hZ3
  have hG4 := hG3.kb hk hc
  clear hk hc hZ3 hG3
  have hZ5 : (w4.setRow A (Chg.mk x y c1 c2).cs).heap[A]? = some (.cells (Chg.mk x y c1 c2).cs 29 (0, 0)) := heap_setRow hZ4
  have hG5 := hG4.high (D := A) (by omega) hgA (below_setRow (Below.refl A w4) (Nat.le_refl A) (Chg.mk x y c1 c2).cs)
  have HF := Lib.hid (show ChgWf ⟨x, y, c1, c2⟩ from ⟨wf_range x (by omega) (by omega), wf_range y (by omega) (by omega), fits_size hf1, fits_size hf2⟩)
  have HG5 := Lib.hid hG5
  clear hG5 hf1 hf2
  go_wp2_with (first
    | (refine wpList_store_row rfl 29 (.tmp 2) (.tmp 11) rfl A (Chg.mk x y c1 c2).cs rfl rfl 29 Chg.zero.cs hZ4 (info29 _) rfl (by simp [Value.oneCell']) ?_)
    | fail)
  exact bodyPost_ret (results_cell_row rfl _ _ A _ _ _ _ rfl hZ5 Try.underlying29 rfl (info29 _)) rfl ⟨_, rfl, HF.out, HG5.out.k, HG5.out.c⟩
/-- Some entry. -/
def AnyEnt (g : Nat) (w : World) (e : Ending) (w' : World) : Prop := ∃ c : Ent, e = .returned (.agg c.cs) ∧ EntWf c ∧ KB g w w' ∧ Cs w' g
/-- What Entry keeps: the answer's block A, the entry's block B. -/
structure Er (g A B : Nat) (e : Ent) (w0 w : World) : Prop where
  k : Kg g w0 w
  a : w.heap[A]? = some (.cells (⟨0, 0, 0, 0, 0, 0, Chg.zero, ByteArray.empty⟩ : Ent).cs 31 (0, 0))
  b : w.heap[B]? = some (.cells e.cs 31 (0, 0))
  ga : g < A
  ab : A < B
  ha : w0.heap.size ≤ A
namespace Er
variable {g A B : Nat} {e : Ent} {w0 w w' : World}
theorem kb (h : Er g A B e w0 w) (hk : KB g w w') (hc : Cs w' g) : Er g A B e w0 w' :=
  ⟨h.k.kb hk hc, (hk.block A (heap_lt h.a) (by have := h.ga; omega)).trans h.a, (hk.block B (heap_lt h.b) (by have := h.ga; have := h.ab; omega)).trans h.b, h.ga, h.ab, h.ha⟩
theorem set (h : Er g A B e w0 w) (i : Nat) (v : Value) (e' : Ent) (he : e'.cs = e.cs.setIfInBounds i v) : Er g A B e' w0 (w.setCell ⟨B, i, none⟩ v) := by
  have h1 := h.ga; have h2 := h.ab; have h3 := h.ha
  exact ⟨⟨h.k.k.setB (B := B) (by omega) i v, h.k.c.setB (B := B) (by omega) i v⟩, (heap_setCell_other _ _ _ _ (by show A ≠ B; omega)).trans h.a, by rw [heap_setCell_same _ _ _ _ _ _ h.b, he], h.ga, h.ab, h.ha⟩
theorem free (h : Er g A B e w0 w) (i : Nat) : w.frozen? ⟨B, i, none⟩ = false := heap_free h.b i
end Er
set_option maxHeartbeats 4000000 in
set_option maxRecDepth 100000 in
theorem entry_calls (g : Nat) (w : World) (h : Cs w g) : Calls Try.prog 18 #[.pointer (some ⟨g, 0, none⟩)] w (AnyEnt g w) := by
  have hlt := h.lt
  obtain ⟨A, hA⟩ : ∃ A, w.heap.size = A := ⟨_, rfl⟩
  have hZ := heap_alloc_new w (.cells (⟨0, 0, 0, 0, 0, 0, Chg.zero, ByteArray.empty⟩ : Ent).cs 31)
  rw [hA] at hZ
  have hG : Kg g w (w.alloc (.cells (⟨0, 0, 0, 0, 0, 0, Chg.zero, ByteArray.empty⟩ : Ent).cs 31)) := ⟨(KB.refl g w).alloc _, h.alloc _⟩
  have hgA : g < A := by omega
  obtain ⟨W, hW⟩ : ∃ W, w.alloc (.cells (⟨0, 0, 0, 0, 0, 0, Chg.zero, ByteArray.empty⟩ : Ent).cs 31) = W := ⟨_, rfl⟩
  rw [hW] at hZ hG
  have HW := Lib.hid hW
  clear hW h hlt
  go_enter Try.func18, Try.ntmps18
  go_wp2_with (first
    | (refine wpList_alloc_row rfl 31 rfl _ zero31 ?_; rw [HW.out])
    | fail)
  try rw [hA]
  refine (next_calls g 90 _ hG.c (by omega) (by omega)).mono ?_
  rintro e w1 ⟨x, rfl, hx0, hx1, hk, hc⟩
  have hZ1 := (hk.block A (heap_lt hZ) (by omega)).trans hZ
  have hG1 := hG.kb hk hc
  have wx : IntKind.i64.wrap (10 + x) = 10 + x := IntWalk.i64_in _ (by omega)
  clear hk hc hZ hG HW
  go_wp2_with fail
  refine (next_calls g 8 _ hG1.c (by omega) (by omega)).mono ?_
  rintro e w2 ⟨y, rfl, hy0, hy1, hk, hc⟩
  have hZ2 := (hk.block A (heap_lt hZ1) (by omega)).trans hZ1
  have hG2 := hG1.kb hk hc
  have wy : IntKind.i64.wrap (1 + y) = 1 + y := IntWalk.i64_in _ (by omega)
  clear hk hc hZ1 hG1
  obtain ⟨L, hL⟩ : ∃ L, 10 + x = L := ⟨_, rfl⟩
  obtain ⟨K, hK⟩ : ∃ K, 1 + y = K := ⟨_, rfl⟩
  have hL1 : 0 ≤ L ∧ L ≤ 1000000 := by omega
  have hK1 : 1 ≤ K ∧ K ≤ 8 := by omega
  have wL : IntKind.i64.wrap L = L := IntWalk.i64_in _ (by omega)
  have wK : IntKind.i64.wrap K = K := IntWalk.i64_in _ (by omega)
  obtain ⟨B, hB⟩ : ∃ B, w2.heap.size = B := ⟨_, rfl⟩
  have hAB : A < B := by rw [← hB]; exact heap_lt hZ2
  have hE : Er g A B ⟨L, K, 0, 0, 0, 0, Chg.zero, ByteArray.empty⟩ w (w2.alloc (.cells (⟨L, K, 0, 0, 0, 0, Chg.zero, ByteArray.empty⟩ : Ent).cs 31)) :=
    ⟨hG2.step ((Below.refl _ _).alloc (Nat.le_refl _) _), heap_alloc_of hZ2, by rw [← hB]; exact heap_alloc_new _ _, hgA, hAB, by omega⟩
  obtain ⟨W2, hW2⟩ : ∃ W, w2.alloc (.cells (⟨L, K, 0, 0, 0, 0, Chg.zero, ByteArray.empty⟩ : Ent).cs 31) = W := ⟨_, rfl⟩
  rw [hW2] at hE
  have HW2 := Lib.hid hW2
  have c1 : W2.cell? ⟨B, 1, none⟩ = some (.int .i64 K) := by rw [heap_cell hE.b]; rfl
  clear hG2 hZ2 hW2
  rcases (show K = 1 ∨ K = 2 ∨ K = 3 ∨ K = 4 ∨ K = 5 ∨ K = 6 ∨ K = 7 ∨ K = 8 by omega) with hk | hk | hk | hk | hk | hk | hk | hk
  · have b1 : (K == 1) = true := by rw [hk]; rfl
    have b2 : (K == 2) = false := by rw [hk]; rfl
    have b3 : (K == 3) = false := by rw [hk]; rfl
    have b4 : (K == 4) = false := by rw [hk]; rfl
    have b5 : (K == 5) = false := by rw [hk]; rfl
    have b6 : (K == 6) = false := by rw [hk]; rfl
    have b7 : (K == 7) = false := by rw [hk]; rfl
    have b8 : (K == 8) = false := by rw [hk]; rfl
    have HK := Lib.hid hk
    clear hk
    go_wp2_with (first
      | (refine wpList_alloc_row rfl 31 rfl _ zero31 ?_)
      | (refine wpList_store_row rfl 31 (.tmp 3) (.tmp 10) rfl _ (⟨L, K, 0, 0, 0, 0, Chg.zero, ByteArray.empty⟩ : Ent).cs rfl rfl _ _ (heap_alloc_new _ _) (info31 _) rfl (by simp [Value.oneCell']) ?_; rw [World.setRow_alloc_new, HW2.out])
      | fail)
    try rw [hB]
    refine (next_calls g 5 _ hE.k.c (by omega) (by omega)).mono ?_
    rintro e w3 ⟨t, rfl, ht0, ht1, hk, hc⟩
    have hE3 := hE.kb hk hc
    clear hk hc hE
    have wt : IntKind.i64.wrap (1 + t) = 1 + t := IntWalk.i64_in _ (by omega)
    go_wp2_with fail
    refine (next_calls g 9 _ hE3.k.c (by omega) (by omega)).mono ?_
    rintro e w4 ⟨q, rfl, hq0, hq1, hk, hc⟩
    have hE4 := hE3.kb hk hc
    clear hk hc hE3
    have wq : IntKind.i64.wrap (1 + q) = 1 + q := IntWalk.i64_in _ (by omega)
    go_wp2_with fail
    refine (next_calls g 10 _ hE4.k.c (by omega) (by omega)).mono ?_
    rintro e w5 ⟨z, rfl, hz0, hz1, hk, hc⟩
    have hE5 := hE4.kb hk hc
    clear hk hc hE4
    go_wp2_with fail
    refine (change_calls g _ hE5.k.c).mono ?_
    rintro e w6 ⟨c, rfl, hcw, hk, hc⟩
    have hE6 := hE5.kb hk hc
    clear hk hc hE5
    obtain ⟨pg, sl, ⟨bs, bd⟩, ⟨as_, ad⟩⟩ := c
    have g2 := hE6.free 2
    have g3 := hE6.free 3
    have g4 := hE6.free 4
    have g6 := hE6.free 6
    have g7 := hE6.free 7
    have g8 := hE6.free 8
    have g9 := hE6.free 9
    have g10 := hE6.free 10
    have g11 := hE6.free 11
    have hS0 := hE6.set 2 (.int .i64 (1 + t)) ⟨L, K, (1 + t), 0, 0, 0, ⟨0, 0, ⟨false, ByteArray.empty⟩, ⟨false, ByteArray.empty⟩⟩, ByteArray.empty⟩ rfl
    have hS1 := hS0.set 3 (.int .i64 (1 + q)) ⟨L, K, (1 + t), (1 + q), 0, 0, ⟨0, 0, ⟨false, ByteArray.empty⟩, ⟨false, ByteArray.empty⟩⟩, ByteArray.empty⟩ rfl
    have hS2 := hS1.set 4 (.int .i64 z) ⟨L, K, (1 + t), (1 + q), z, 0, ⟨0, 0, ⟨false, ByteArray.empty⟩, ⟨false, ByteArray.empty⟩⟩, ByteArray.empty⟩ rfl
    have hS3 := hS2.set 6 (.int .i64 pg) ⟨L, K, (1 + t), (1 + q), z, 0, ⟨pg, 0, ⟨false, ByteArray.empty⟩, ⟨false, ByteArray.empty⟩⟩, ByteArray.empty⟩ rfl
    have hS4 := hS3.set 7 (.int .i64 sl) ⟨L, K, (1 + t), (1 + q), z, 0, ⟨pg, sl, ⟨false, ByteArray.empty⟩, ⟨false, ByteArray.empty⟩⟩, ByteArray.empty⟩ rfl
    have hS5 := hS4.set 8 (.bool bs) ⟨L, K, (1 + t), (1 + q), z, 0, ⟨pg, sl, ⟨bs, ByteArray.empty⟩, ⟨false, ByteArray.empty⟩⟩, ByteArray.empty⟩ rfl
    have hS6 := hS5.set 9 (.string bd) ⟨L, K, (1 + t), (1 + q), z, 0, ⟨pg, sl, ⟨bs, bd⟩, ⟨false, ByteArray.empty⟩⟩, ByteArray.empty⟩ rfl
    have hS7 := hS6.set 10 (.bool as_) ⟨L, K, (1 + t), (1 + q), z, 0, ⟨pg, sl, ⟨bs, bd⟩, ⟨as_, ByteArray.empty⟩⟩, ByteArray.empty⟩ rfl
    have hS8 := hS7.set 11 (.string ad) ⟨L, K, (1 + t), (1 + q), z, 0, ⟨pg, sl, ⟨bs, bd⟩, ⟨as_, ad⟩⟩, ByteArray.empty⟩ rfl
    obtain ⟨W6, hW6⟩ : ∃ W, (((((((((w6.setCell ⟨B, 2, none⟩ (.int .i64 (1 + t))).setCell ⟨B, 3, none⟩ (.int .i64 (1 + q))).setCell ⟨B, 4, none⟩ (.int .i64 z)).setCell ⟨B, 6, none⟩ (.int .i64 pg)).setCell ⟨B, 7, none⟩ (.int .i64 sl)).setCell ⟨B, 8, none⟩ (.bool bs)).setCell ⟨B, 9, none⟩ (.string bd)).setCell ⟨B, 10, none⟩ (.bool as_)).setCell ⟨B, 11, none⟩ (.string ad)) = W := ⟨_, rfl⟩
    rw [hW6] at hS8
    have e1 : W6.cell? ⟨B, 1, none⟩ = some (.int .i64 K) := by rw [heap_cell hS8.b]; rfl
    have e3 : W6.cell? ⟨B, 3, none⟩ = some (.int .i64 (1 + q)) := by rw [heap_cell hS8.b]; rfl
    obtain ⟨d0, d1, d2, d3, d4, d5, d6, d7, d8, d9, d10, d11, d12⟩ := EntAt.of hE6.b
    have hX := hS8
    have HX := Lib.hid (hX.k.high (D := A) hX.ha hX.ga (below_setRow (Below.refl A W6) (Nat.le_refl A) (⟨L, K, (1 + t), (1 + q), z, 0, ⟨pg, sl, ⟨bs, bd⟩, ⟨as_, ad⟩⟩, ByteArray.empty⟩ : Ent).cs))
    have HXA := Lib.hid (show (W6.setRow A (⟨L, K, (1 + t), (1 + q), z, 0, ⟨pg, sl, ⟨bs, bd⟩, ⟨as_, ad⟩⟩, ByteArray.empty⟩ : Ent).cs).heap[A]? = some (.cells (⟨L, K, (1 + t), (1 + q), z, 0, ⟨pg, sl, ⟨bs, bd⟩, ⟨as_, ad⟩⟩, ByteArray.empty⟩ : Ent).cs 31 (0, 0)) from heap_setRow hX.a)
    have hXa := hX.a
    have hXb := hX.b
    have HWF := Lib.hid (show EntWf (⟨L, K, (1 + t), (1 + q), z, 0, ⟨pg, sl, ⟨bs, bd⟩, ⟨as_, ad⟩⟩, ByteArray.empty⟩ : Ent) from ⟨wf_range L (by omega) (by omega), wf_range K (by omega) (by omega), wf_range (1 + t) (by omega) (by omega), wf_range (1 + q) (by omega) (by omega), wf_range z (by omega) (by omega), rfl, hcw, Nat.zero_le _⟩)
    go_wp2_with (first
      | (refine wpList_load_ent (by rfl) (.tmp 3) rfl B (by first | rfl | (rw [hB]; rfl)) (⟨L, K, (1 + t), (1 + q), z, 0, ⟨pg, sl, ⟨bs, bd⟩, ⟨as_, ad⟩⟩, ByteArray.empty⟩ : Ent) hXb ?_)
      | (refine wpList_store_row rfl 31 (.tmp 2) (.tmp 66) rfl A (⟨L, K, (1 + t), (1 + q), z, 0, ⟨pg, sl, ⟨bs, bd⟩, ⟨as_, ad⟩⟩, ByteArray.empty⟩ : Ent).cs rfl rfl 31 _ hXa (info31 _) rfl (by simp [Value.oneCell']) ?_)
      | fail)
    exact bodyPost_ret (results_cell_row rfl _ _ A _ _ _ _ rfl HXA.out Try.underlying31 rfl (info31 _)) rfl ⟨_, rfl, HWF.out, HX.out.k, HX.out.c⟩
  · have b1 : (K == 1) = false := by rw [hk]; rfl
    have b2 : (K == 2) = true := by rw [hk]; rfl
    have b3 : (K == 3) = false := by rw [hk]; rfl
    have b4 : (K == 4) = false := by rw [hk]; rfl
    have b5 : (K == 5) = false := by rw [hk]; rfl
    have b6 : (K == 6) = false := by rw [hk]; rfl
    have b7 : (K == 7) = false := by rw [hk]; rfl
    have b8 : (K == 8) = false := by rw [hk]; rfl
    have HK := Lib.hid hk
    clear hk
    go_wp2_with (first
      | (refine wpList_alloc_row rfl 31 rfl _ zero31 ?_)
      | (refine wpList_store_row rfl 31 (.tmp 3) (.tmp 10) rfl _ (⟨L, K, 0, 0, 0, 0, Chg.zero, ByteArray.empty⟩ : Ent).cs rfl rfl _ _ (heap_alloc_new _ _) (info31 _) rfl (by simp [Value.oneCell']) ?_; rw [World.setRow_alloc_new, HW2.out])
      | fail)
    try rw [hB]
    refine (next_calls g 5 _ hE.k.c (by omega) (by omega)).mono ?_
    rintro e w3 ⟨t, rfl, ht0, ht1, hk, hc⟩
    have hE3 := hE.kb hk hc
    clear hk hc hE
    have wt : IntKind.i64.wrap (1 + t) = 1 + t := IntWalk.i64_in _ (by omega)
    go_wp2_with fail
    refine (next_calls g 9 _ hE3.k.c (by omega) (by omega)).mono ?_
    rintro e w4 ⟨q, rfl, hq0, hq1, hk, hc⟩
    have hE4 := hE3.kb hk hc
    clear hk hc hE3
    have wq : IntKind.i64.wrap (1 + q) = 1 + q := IntWalk.i64_in _ (by omega)
    go_wp2_with fail
    refine (next_calls g 10 _ hE4.k.c (by omega) (by omega)).mono ?_
    rintro e w5 ⟨z, rfl, hz0, hz1, hk, hc⟩
    have hE5 := hE4.kb hk hc
    clear hk hc hE4
    go_wp2_with fail
    refine (change_calls g _ hE5.k.c).mono ?_
    rintro e w6 ⟨c, rfl, hcw, hk, hc⟩
    have hE6 := hE5.kb hk hc
    clear hk hc hE5
    obtain ⟨pg, sl, ⟨bs, bd⟩, ⟨as_, ad⟩⟩ := c
    have g2 := hE6.free 2
    have g3 := hE6.free 3
    have g4 := hE6.free 4
    have g6 := hE6.free 6
    have g7 := hE6.free 7
    have g8 := hE6.free 8
    have g9 := hE6.free 9
    have g10 := hE6.free 10
    have g11 := hE6.free 11
    have hS0 := hE6.set 2 (.int .i64 (1 + t)) ⟨L, K, (1 + t), 0, 0, 0, ⟨0, 0, ⟨false, ByteArray.empty⟩, ⟨false, ByteArray.empty⟩⟩, ByteArray.empty⟩ rfl
    have hS1 := hS0.set 3 (.int .i64 (1 + q)) ⟨L, K, (1 + t), (1 + q), 0, 0, ⟨0, 0, ⟨false, ByteArray.empty⟩, ⟨false, ByteArray.empty⟩⟩, ByteArray.empty⟩ rfl
    have hS2 := hS1.set 4 (.int .i64 z) ⟨L, K, (1 + t), (1 + q), z, 0, ⟨0, 0, ⟨false, ByteArray.empty⟩, ⟨false, ByteArray.empty⟩⟩, ByteArray.empty⟩ rfl
    have hS3 := hS2.set 6 (.int .i64 pg) ⟨L, K, (1 + t), (1 + q), z, 0, ⟨pg, 0, ⟨false, ByteArray.empty⟩, ⟨false, ByteArray.empty⟩⟩, ByteArray.empty⟩ rfl
    have hS4 := hS3.set 7 (.int .i64 sl) ⟨L, K, (1 + t), (1 + q), z, 0, ⟨pg, sl, ⟨false, ByteArray.empty⟩, ⟨false, ByteArray.empty⟩⟩, ByteArray.empty⟩ rfl
    have hS5 := hS4.set 8 (.bool bs) ⟨L, K, (1 + t), (1 + q), z, 0, ⟨pg, sl, ⟨bs, ByteArray.empty⟩, ⟨false, ByteArray.empty⟩⟩, ByteArray.empty⟩ rfl
    have hS6 := hS5.set 9 (.string bd) ⟨L, K, (1 + t), (1 + q), z, 0, ⟨pg, sl, ⟨bs, bd⟩, ⟨false, ByteArray.empty⟩⟩, ByteArray.empty⟩ rfl
    have hS7 := hS6.set 10 (.bool as_) ⟨L, K, (1 + t), (1 + q), z, 0, ⟨pg, sl, ⟨bs, bd⟩, ⟨as_, ByteArray.empty⟩⟩, ByteArray.empty⟩ rfl
    have hS8 := hS7.set 11 (.string ad) ⟨L, K, (1 + t), (1 + q), z, 0, ⟨pg, sl, ⟨bs, bd⟩, ⟨as_, ad⟩⟩, ByteArray.empty⟩ rfl
    obtain ⟨W6, hW6⟩ : ∃ W, (((((((((w6.setCell ⟨B, 2, none⟩ (.int .i64 (1 + t))).setCell ⟨B, 3, none⟩ (.int .i64 (1 + q))).setCell ⟨B, 4, none⟩ (.int .i64 z)).setCell ⟨B, 6, none⟩ (.int .i64 pg)).setCell ⟨B, 7, none⟩ (.int .i64 sl)).setCell ⟨B, 8, none⟩ (.bool bs)).setCell ⟨B, 9, none⟩ (.string bd)).setCell ⟨B, 10, none⟩ (.bool as_)).setCell ⟨B, 11, none⟩ (.string ad)) = W := ⟨_, rfl⟩
    rw [hW6] at hS8
    have e1 : W6.cell? ⟨B, 1, none⟩ = some (.int .i64 K) := by rw [heap_cell hS8.b]; rfl
    have e3 : W6.cell? ⟨B, 3, none⟩ = some (.int .i64 (1 + q)) := by rw [heap_cell hS8.b]; rfl
    obtain ⟨d0, d1, d2, d3, d4, d5, d6, d7, d8, d9, d10, d11, d12⟩ := EntAt.of hE6.b
    have hE7 := hS8
    go_wp2_with fail
    refine (next_calls g (1 + q) _ hE7.k.c (by omega) (by omega)).mono ?_
    rintro e w7 ⟨r, rfl, hr0, hr1, hk, hc⟩
    have hE8 := hE7.kb hk hc
    have wr : IntKind.i64.wrap (1 + r) = 1 + r := IntWalk.i64_in _ (by omega)
    have g5 := hE8.free 5
    have k5 := (EntAt.of hE8.b).c5
    have hX := hE8.set 5 (.int .i64 (1 + r)) ⟨L, K, (1 + t), (1 + q), z, 1 + r, ⟨pg, sl, ⟨bs, bd⟩, ⟨as_, ad⟩⟩, ByteArray.empty⟩ rfl
    obtain ⟨W8, hW8⟩ : ∃ W, w7.setCell ⟨B, 5, none⟩ (.int .i64 (1 + r)) = W := ⟨_, rfl⟩
    rw [hW8] at hX
    have HX := Lib.hid (hX.k.high (D := A) hX.ha hX.ga (below_setRow (Below.refl A W8) (Nat.le_refl A) (⟨L, K, (1 + t), (1 + q), z, 1 + r, ⟨pg, sl, ⟨bs, bd⟩, ⟨as_, ad⟩⟩, ByteArray.empty⟩ : Ent).cs))
    have HXA := Lib.hid (show (W8.setRow A (⟨L, K, (1 + t), (1 + q), z, 1 + r, ⟨pg, sl, ⟨bs, bd⟩, ⟨as_, ad⟩⟩, ByteArray.empty⟩ : Ent).cs).heap[A]? = some (.cells (⟨L, K, (1 + t), (1 + q), z, 1 + r, ⟨pg, sl, ⟨bs, bd⟩, ⟨as_, ad⟩⟩, ByteArray.empty⟩ : Ent).cs 31 (0, 0)) from heap_setRow hX.a)
    have hXa := hX.a
    have hXb := hX.b
    have HWF := Lib.hid (show EntWf (⟨L, K, (1 + t), (1 + q), z, 1 + r, ⟨pg, sl, ⟨bs, bd⟩, ⟨as_, ad⟩⟩, ByteArray.empty⟩ : Ent) from ⟨wf_range L (by omega) (by omega), wf_range K (by omega) (by omega), wf_range (1 + t) (by omega) (by omega), wf_range (1 + q) (by omega) (by omega), wf_range z (by omega) (by omega), wf_range (1 + r) (by omega) (by omega), hcw, Nat.zero_le _⟩)
    go_wp2_with (first
      | (refine wpList_load_ent (by rfl) (.tmp 3) rfl B (by first | rfl | (rw [hB]; rfl)) (⟨L, K, (1 + t), (1 + q), z, 1 + r, ⟨pg, sl, ⟨bs, bd⟩, ⟨as_, ad⟩⟩, ByteArray.empty⟩ : Ent) hXb ?_)
      | (refine wpList_store_row rfl 31 (.tmp 2) (.tmp 66) rfl A (⟨L, K, (1 + t), (1 + q), z, 1 + r, ⟨pg, sl, ⟨bs, bd⟩, ⟨as_, ad⟩⟩, ByteArray.empty⟩ : Ent).cs rfl rfl 31 _ hXa (info31 _) rfl (by simp [Value.oneCell']) ?_)
      | fail)
    exact bodyPost_ret (results_cell_row rfl _ _ A _ _ _ _ rfl HXA.out Try.underlying31 rfl (info31 _)) rfl ⟨_, rfl, HWF.out, HX.out.k, HX.out.c⟩
  · have b1 : (K == 1) = false := by rw [hk]; rfl
    have b2 : (K == 2) = false := by rw [hk]; rfl
    have b3 : (K == 3) = true := by rw [hk]; rfl
    have b4 : (K == 4) = false := by rw [hk]; rfl
    have b5 : (K == 5) = false := by rw [hk]; rfl
    have b6 : (K == 6) = false := by rw [hk]; rfl
    have b7 : (K == 7) = false := by rw [hk]; rfl
    have b8 : (K == 8) = false := by rw [hk]; rfl
    have HK := Lib.hid hk
    clear hk
    go_wp2_with (first
      | (refine wpList_alloc_row rfl 31 rfl _ zero31 ?_)
      | (refine wpList_store_row rfl 31 (.tmp 3) (.tmp 10) rfl _ (⟨L, K, 0, 0, 0, 0, Chg.zero, ByteArray.empty⟩ : Ent).cs rfl rfl _ _ (heap_alloc_new _ _) (info31 _) rfl (by simp [Value.oneCell']) ?_; rw [World.setRow_alloc_new, HW2.out])
      | fail)
    try rw [hB]
    refine (next_calls g 5 _ hE.k.c (by omega) (by omega)).mono ?_
    rintro e w3 ⟨t, rfl, ht0, ht1, hk, hc⟩
    have hE3 := hE.kb hk hc
    clear hk hc hE
    have wt : IntKind.i64.wrap (1 + t) = 1 + t := IntWalk.i64_in _ (by omega)
    go_wp2_with fail
    refine (next_calls g 9 _ hE3.k.c (by omega) (by omega)).mono ?_
    rintro e w4 ⟨q, rfl, hq0, hq1, hk, hc⟩
    have hE4 := hE3.kb hk hc
    clear hk hc hE3
    have wq : IntKind.i64.wrap (1 + q) = 1 + q := IntWalk.i64_in _ (by omega)
    have g2 := hE4.free 2
    have g3 := hE4.free 3
    obtain ⟨d0, d1, d2, d3, d4, d5, d6, d7, d8, d9, d10, d11, d12⟩ := EntAt.of hE4.b
    have hX := (hE4.set 2 (.int .i64 (1 + t)) ⟨L, K, 1 + t, 0, 0, 0, Chg.zero, ByteArray.empty⟩ rfl).set 3 (.int .i64 (1 + q)) (⟨L, K, 1 + t, 1 + q, 0, 0, Chg.zero, ByteArray.empty⟩ : Ent) rfl
    obtain ⟨W6, hW6⟩ : ∃ W, (w4.setCell ⟨B, 2, none⟩ (.int .i64 (1 + t))).setCell ⟨B, 3, none⟩ (.int .i64 (1 + q)) = W := ⟨_, rfl⟩
    rw [hW6] at hX
    have HX := Lib.hid (hX.k.high (D := A) hX.ha hX.ga (below_setRow (Below.refl A W6) (Nat.le_refl A) (⟨L, K, 1 + t, 1 + q, 0, 0, Chg.zero, ByteArray.empty⟩ : Ent).cs))
    have HXA := Lib.hid (show (W6.setRow A (⟨L, K, 1 + t, 1 + q, 0, 0, Chg.zero, ByteArray.empty⟩ : Ent).cs).heap[A]? = some (.cells (⟨L, K, 1 + t, 1 + q, 0, 0, Chg.zero, ByteArray.empty⟩ : Ent).cs 31 (0, 0)) from heap_setRow hX.a)
    have hXa := hX.a
    have hXb := hX.b
    have HWF := Lib.hid (show EntWf (⟨L, K, 1 + t, 1 + q, 0, 0, Chg.zero, ByteArray.empty⟩ : Ent) from ⟨wf_range L (by omega) (by omega), wf_range K (by omega) (by omega), wf_range (1 + t) (by omega) (by omega), wf_range (1 + q) (by omega) (by omega), rfl, rfl, wfZero, Nat.zero_le _⟩)
    go_wp2_with (first
      | (refine wpList_load_ent (by rfl) (.tmp 3) rfl B (by first | rfl | (rw [hB]; rfl)) (⟨L, K, 1 + t, 1 + q, 0, 0, Chg.zero, ByteArray.empty⟩ : Ent) hXb ?_)
      | (refine wpList_store_row rfl 31 (.tmp 2) (.tmp 66) rfl A (⟨L, K, 1 + t, 1 + q, 0, 0, Chg.zero, ByteArray.empty⟩ : Ent).cs rfl rfl 31 _ hXa (info31 _) rfl (by simp [Value.oneCell']) ?_)
      | fail)
    exact bodyPost_ret (results_cell_row rfl _ _ A _ _ _ _ rfl HXA.out Try.underlying31 rfl (info31 _)) rfl ⟨_, rfl, HWF.out, HX.out.k, HX.out.c⟩
  · have b1 : (K == 1) = false := by rw [hk]; rfl
    have b2 : (K == 2) = false := by rw [hk]; rfl
    have b3 : (K == 3) = false := by rw [hk]; rfl
    have b4 : (K == 4) = true := by rw [hk]; rfl
    have b5 : (K == 5) = false := by rw [hk]; rfl
    have b6 : (K == 6) = false := by rw [hk]; rfl
    have b7 : (K == 7) = false := by rw [hk]; rfl
    have b8 : (K == 8) = false := by rw [hk]; rfl
    have HK := Lib.hid hk
    clear hk
    go_wp2_with (first
      | (refine wpList_alloc_row rfl 31 rfl _ zero31 ?_)
      | (refine wpList_store_row rfl 31 (.tmp 3) (.tmp 10) rfl _ (⟨L, K, 0, 0, 0, 0, Chg.zero, ByteArray.empty⟩ : Ent).cs rfl rfl _ _ (heap_alloc_new _ _) (info31 _) rfl (by simp [Value.oneCell']) ?_; rw [World.setRow_alloc_new, HW2.out])
      | fail)
    try rw [hB]
    refine (next_calls g 5 _ hE.k.c (by omega) (by omega)).mono ?_
    rintro e w3 ⟨t, rfl, ht0, ht1, hk, hc⟩
    have hE3 := hE.kb hk hc
    clear hk hc hE
    have wt : IntKind.i64.wrap (1 + t) = 1 + t := IntWalk.i64_in _ (by omega)
    go_wp2_with fail
    refine (next_calls g 9 _ hE3.k.c (by omega) (by omega)).mono ?_
    rintro e w4 ⟨q, rfl, hq0, hq1, hk, hc⟩
    have hE4 := hE3.kb hk hc
    clear hk hc hE3
    have wq : IntKind.i64.wrap (1 + q) = 1 + q := IntWalk.i64_in _ (by omega)
    have g2 := hE4.free 2
    have g3 := hE4.free 3
    obtain ⟨d0, d1, d2, d3, d4, d5, d6, d7, d8, d9, d10, d11, d12⟩ := EntAt.of hE4.b
    have hX := (hE4.set 2 (.int .i64 (1 + t)) ⟨L, K, 1 + t, 0, 0, 0, Chg.zero, ByteArray.empty⟩ rfl).set 3 (.int .i64 (1 + q)) (⟨L, K, 1 + t, 1 + q, 0, 0, Chg.zero, ByteArray.empty⟩ : Ent) rfl
    obtain ⟨W6, hW6⟩ : ∃ W, (w4.setCell ⟨B, 2, none⟩ (.int .i64 (1 + t))).setCell ⟨B, 3, none⟩ (.int .i64 (1 + q)) = W := ⟨_, rfl⟩
    rw [hW6] at hX
    have HX := Lib.hid (hX.k.high (D := A) hX.ha hX.ga (below_setRow (Below.refl A W6) (Nat.le_refl A) (⟨L, K, 1 + t, 1 + q, 0, 0, Chg.zero, ByteArray.empty⟩ : Ent).cs))
    have HXA := Lib.hid (show (W6.setRow A (⟨L, K, 1 + t, 1 + q, 0, 0, Chg.zero, ByteArray.empty⟩ : Ent).cs).heap[A]? = some (.cells (⟨L, K, 1 + t, 1 + q, 0, 0, Chg.zero, ByteArray.empty⟩ : Ent).cs 31 (0, 0)) from heap_setRow hX.a)
    have hXa := hX.a
    have hXb := hX.b
    have HWF := Lib.hid (show EntWf (⟨L, K, 1 + t, 1 + q, 0, 0, Chg.zero, ByteArray.empty⟩ : Ent) from ⟨wf_range L (by omega) (by omega), wf_range K (by omega) (by omega), wf_range (1 + t) (by omega) (by omega), wf_range (1 + q) (by omega) (by omega), rfl, rfl, wfZero, Nat.zero_le _⟩)
    go_wp2_with (first
      | (refine wpList_load_ent (by rfl) (.tmp 3) rfl B (by first | rfl | (rw [hB]; rfl)) (⟨L, K, 1 + t, 1 + q, 0, 0, Chg.zero, ByteArray.empty⟩ : Ent) hXb ?_)
      | (refine wpList_store_row rfl 31 (.tmp 2) (.tmp 66) rfl A (⟨L, K, 1 + t, 1 + q, 0, 0, Chg.zero, ByteArray.empty⟩ : Ent).cs rfl rfl 31 _ hXa (info31 _) rfl (by simp [Value.oneCell']) ?_)
      | fail)
    exact bodyPost_ret (results_cell_row rfl _ _ A _ _ _ _ rfl HXA.out Try.underlying31 rfl (info31 _)) rfl ⟨_, rfl, HWF.out, HX.out.k, HX.out.c⟩
  · have b1 : (K == 1) = false := by rw [hk]; rfl
    have b2 : (K == 2) = false := by rw [hk]; rfl
    have b3 : (K == 3) = false := by rw [hk]; rfl
    have b4 : (K == 4) = false := by rw [hk]; rfl
    have b5 : (K == 5) = true := by rw [hk]; rfl
    have b6 : (K == 6) = false := by rw [hk]; rfl
    have b7 : (K == 7) = false := by rw [hk]; rfl
    have b8 : (K == 8) = false := by rw [hk]; rfl
    have HK := Lib.hid hk
    clear hk
    go_wp2_with (first
      | (refine wpList_alloc_row rfl 31 rfl _ zero31 ?_)
      | (refine wpList_store_row rfl 31 (.tmp 3) (.tmp 10) rfl _ (⟨L, K, 0, 0, 0, 0, Chg.zero, ByteArray.empty⟩ : Ent).cs rfl rfl _ _ (heap_alloc_new _ _) (info31 _) rfl (by simp [Value.oneCell']) ?_; rw [World.setRow_alloc_new, HW2.out])
      | fail)
    try rw [hB]
    refine (next_calls g 5 _ hE.k.c (by omega) (by omega)).mono ?_
    rintro e w3 ⟨t, rfl, ht0, ht1, hk, hc⟩
    have hE3 := hE.kb hk hc
    clear hk hc hE
    have wt : IntKind.i64.wrap (1 + t) = 1 + t := IntWalk.i64_in _ (by omega)
    go_wp2_with fail
    refine (next_calls g 9 _ hE3.k.c (by omega) (by omega)).mono ?_
    rintro e w4 ⟨q, rfl, hq0, hq1, hk, hc⟩
    have hE4 := hE3.kb hk hc
    clear hk hc hE3
    have wq : IntKind.i64.wrap (1 + q) = 1 + q := IntWalk.i64_in _ (by omega)
    have g2 := hE4.free 2
    have g3 := hE4.free 3
    obtain ⟨d0, d1, d2, d3, d4, d5, d6, d7, d8, d9, d10, d11, d12⟩ := EntAt.of hE4.b
    have hX := (hE4.set 2 (.int .i64 (1 + t)) ⟨L, K, 1 + t, 0, 0, 0, Chg.zero, ByteArray.empty⟩ rfl).set 3 (.int .i64 (1 + q)) (⟨L, K, 1 + t, 1 + q, 0, 0, Chg.zero, ByteArray.empty⟩ : Ent) rfl
    obtain ⟨W6, hW6⟩ : ∃ W, (w4.setCell ⟨B, 2, none⟩ (.int .i64 (1 + t))).setCell ⟨B, 3, none⟩ (.int .i64 (1 + q)) = W := ⟨_, rfl⟩
    rw [hW6] at hX
    have HX := Lib.hid (hX.k.high (D := A) hX.ha hX.ga (below_setRow (Below.refl A W6) (Nat.le_refl A) (⟨L, K, 1 + t, 1 + q, 0, 0, Chg.zero, ByteArray.empty⟩ : Ent).cs))
    have HXA := Lib.hid (show (W6.setRow A (⟨L, K, 1 + t, 1 + q, 0, 0, Chg.zero, ByteArray.empty⟩ : Ent).cs).heap[A]? = some (.cells (⟨L, K, 1 + t, 1 + q, 0, 0, Chg.zero, ByteArray.empty⟩ : Ent).cs 31 (0, 0)) from heap_setRow hX.a)
    have hXa := hX.a
    have hXb := hX.b
    have HWF := Lib.hid (show EntWf (⟨L, K, 1 + t, 1 + q, 0, 0, Chg.zero, ByteArray.empty⟩ : Ent) from ⟨wf_range L (by omega) (by omega), wf_range K (by omega) (by omega), wf_range (1 + t) (by omega) (by omega), wf_range (1 + q) (by omega) (by omega), rfl, rfl, wfZero, Nat.zero_le _⟩)
    go_wp2_with (first
      | (refine wpList_load_ent (by rfl) (.tmp 3) rfl B (by first | rfl | (rw [hB]; rfl)) (⟨L, K, 1 + t, 1 + q, 0, 0, Chg.zero, ByteArray.empty⟩ : Ent) hXb ?_)
      | (refine wpList_store_row rfl 31 (.tmp 2) (.tmp 66) rfl A (⟨L, K, 1 + t, 1 + q, 0, 0, Chg.zero, ByteArray.empty⟩ : Ent).cs rfl rfl 31 _ hXa (info31 _) rfl (by simp [Value.oneCell']) ?_)
      | fail)
    exact bodyPost_ret (results_cell_row rfl _ _ A _ _ _ _ rfl HXA.out Try.underlying31 rfl (info31 _)) rfl ⟨_, rfl, HWF.out, HX.out.k, HX.out.c⟩
  · have b1 : (K == 1) = false := by rw [hk]; rfl
    have b2 : (K == 2) = false := by rw [hk]; rfl
    have b3 : (K == 3) = false := by rw [hk]; rfl
    have b4 : (K == 4) = false := by rw [hk]; rfl
    have b5 : (K == 5) = false := by rw [hk]; rfl
    have b6 : (K == 6) = true := by rw [hk]; rfl
    have b7 : (K == 7) = false := by rw [hk]; rfl
    have b8 : (K == 8) = false := by rw [hk]; rfl
    have HK := Lib.hid hk
    clear hk
    go_wp2_with (first
      | (refine wpList_alloc_row rfl 31 rfl _ zero31 ?_)
      | (refine wpList_store_row rfl 31 (.tmp 3) (.tmp 10) rfl _ (⟨L, K, 0, 0, 0, 0, Chg.zero, ByteArray.empty⟩ : Ent).cs rfl rfl _ _ (heap_alloc_new _ _) (info31 _) rfl (by simp [Value.oneCell']) ?_; rw [World.setRow_alloc_new, HW2.out])
      | fail)
    try rw [hB]
    refine (data_calls g _ hE.k.c).mono ?_
    rintro e w3 ⟨sb, rfl, hsb, hk, hc⟩
    have hE3 := hE.kb hk hc
    clear hk hc hE
    have g12 := hE3.free 12
    obtain ⟨d0, d1, d2, d3, d4, d5, d6, d7, d8, d9, d10, d11, d12⟩ := EntAt.of hE3.b
    have hX := hE3.set 12 (.string sb) (⟨L, K, 0, 0, 0, 0, Chg.zero, sb⟩ : Ent) rfl
    obtain ⟨W6, hW6⟩ : ∃ W, w3.setCell ⟨B, 12, none⟩ (.string sb) = W := ⟨_, rfl⟩
    rw [hW6] at hX
    have HX := Lib.hid (hX.k.high (D := A) hX.ha hX.ga (below_setRow (Below.refl A W6) (Nat.le_refl A) (⟨L, K, 0, 0, 0, 0, Chg.zero, sb⟩ : Ent).cs))
    have HXA := Lib.hid (show (W6.setRow A (⟨L, K, 0, 0, 0, 0, Chg.zero, sb⟩ : Ent).cs).heap[A]? = some (.cells (⟨L, K, 0, 0, 0, 0, Chg.zero, sb⟩ : Ent).cs 31 (0, 0)) from heap_setRow hX.a)
    have hXa := hX.a
    have hXb := hX.b
    have HWF := Lib.hid (show EntWf (⟨L, K, 0, 0, 0, 0, Chg.zero, sb⟩ : Ent) from ⟨wf_range L (by omega) (by omega), wf_range K (by omega) (by omega), rfl, rfl, rfl, rfl, wfZero, by show sb.size ≤ maxLen; simp only [maxLen]; omega⟩)
    go_wp2_with (first
      | (refine wpList_load_ent (by rfl) (.tmp 3) rfl B (by first | rfl | (rw [hB]; rfl)) (⟨L, K, 0, 0, 0, 0, Chg.zero, sb⟩ : Ent) hXb ?_)
      | (refine wpList_store_row rfl 31 (.tmp 2) (.tmp 66) rfl A (⟨L, K, 0, 0, 0, 0, Chg.zero, sb⟩ : Ent).cs rfl rfl 31 _ hXa (info31 _) rfl (by simp [Value.oneCell']) ?_)
      | fail)
    exact bodyPost_ret (results_cell_row rfl _ _ A _ _ _ _ rfl HXA.out Try.underlying31 rfl (info31 _)) rfl ⟨_, rfl, HWF.out, HX.out.k, HX.out.c⟩
  · have b1 : (K == 1) = false := by rw [hk]; rfl
    have b2 : (K == 2) = false := by rw [hk]; rfl
    have b3 : (K == 3) = false := by rw [hk]; rfl
    have b4 : (K == 4) = false := by rw [hk]; rfl
    have b5 : (K == 5) = false := by rw [hk]; rfl
    have b6 : (K == 6) = false := by rw [hk]; rfl
    have b7 : (K == 7) = true := by rw [hk]; rfl
    have b8 : (K == 8) = false := by rw [hk]; rfl
    have HK := Lib.hid hk
    clear hk
    go_wp2_with (first
      | (refine wpList_alloc_row rfl 31 rfl _ zero31 ?_)
      | (refine wpList_store_row rfl 31 (.tmp 3) (.tmp 10) rfl _ (⟨L, K, 0, 0, 0, 0, Chg.zero, ByteArray.empty⟩ : Ent).cs rfl rfl _ _ (heap_alloc_new _ _) (info31 _) rfl (by simp [Value.oneCell']) ?_; rw [World.setRow_alloc_new, HW2.out])
      | fail)
    try rw [hB]
    refine (next_calls g 4 _ hE.k.c (by omega) (by omega)).mono ?_
    rintro e w3 ⟨t, rfl, ht0, ht1, hk, hc⟩
    have hE3 := hE.kb hk hc
    clear hk hc hE
    go_wp2_with fail
    refine (next_calls g 10 _ hE3.k.c (by omega) (by omega)).mono ?_
    rintro e w4 ⟨q, rfl, hq0, hq1, hk, hc⟩
    have hE4 := hE3.kb hk hc
    clear hk hc hE3
    have g6 := hE4.free 6
    have g5 := hE4.free 5
    obtain ⟨d0, d1, d2, d3, d4, d5, d6, d7, d8, d9, d10, d11, d12⟩ := EntAt.of hE4.b
    have hX := (hE4.set 6 (.int .i64 t) ⟨L, K, 0, 0, 0, 0, ⟨t, 0, Cell.none, Cell.none⟩, ByteArray.empty⟩ rfl).set 5 (.int .i64 q) (⟨L, K, 0, 0, 0, q, ⟨t, 0, Cell.none, Cell.none⟩, ByteArray.empty⟩ : Ent) rfl
    obtain ⟨W6, hW6⟩ : ∃ W, (w4.setCell ⟨B, 6, none⟩ (.int .i64 t)).setCell ⟨B, 5, none⟩ (.int .i64 q) = W := ⟨_, rfl⟩
    rw [hW6] at hX
    have HX := Lib.hid (hX.k.high (D := A) hX.ha hX.ga (below_setRow (Below.refl A W6) (Nat.le_refl A) (⟨L, K, 0, 0, 0, q, ⟨t, 0, Cell.none, Cell.none⟩, ByteArray.empty⟩ : Ent).cs))
    have HXA := Lib.hid (show (W6.setRow A (⟨L, K, 0, 0, 0, q, ⟨t, 0, Cell.none, Cell.none⟩, ByteArray.empty⟩ : Ent).cs).heap[A]? = some (.cells (⟨L, K, 0, 0, 0, q, ⟨t, 0, Cell.none, Cell.none⟩, ByteArray.empty⟩ : Ent).cs 31 (0, 0)) from heap_setRow hX.a)
    have hXa := hX.a
    have hXb := hX.b
    have HWF := Lib.hid (show EntWf (⟨L, K, 0, 0, 0, q, ⟨t, 0, Cell.none, Cell.none⟩, ByteArray.empty⟩ : Ent) from ⟨wf_range L (by omega) (by omega), wf_range K (by omega) (by omega), rfl, rfl, rfl, wf_range q (by omega) (by omega), ⟨wf_range t (by omega) (by omega), rfl, Nat.zero_le _, Nat.zero_le _⟩, Nat.zero_le _⟩)
    go_wp2_with (first
      | (refine wpList_load_ent (by rfl) (.tmp 3) rfl B (by first | rfl | (rw [hB]; rfl)) (⟨L, K, 0, 0, 0, q, ⟨t, 0, Cell.none, Cell.none⟩, ByteArray.empty⟩ : Ent) hXb ?_)
      | (refine wpList_store_row rfl 31 (.tmp 2) (.tmp 66) rfl A (⟨L, K, 0, 0, 0, q, ⟨t, 0, Cell.none, Cell.none⟩, ByteArray.empty⟩ : Ent).cs rfl rfl 31 _ hXa (info31 _) rfl (by simp [Value.oneCell']) ?_)
      | fail)
    exact bodyPost_ret (results_cell_row rfl _ _ A _ _ _ _ rfl HXA.out Try.underlying31 rfl (info31 _)) rfl ⟨_, rfl, HWF.out, HX.out.k, HX.out.c⟩
  · have b1 : (K == 1) = false := by rw [hk]; rfl
    have b2 : (K == 2) = false := by rw [hk]; rfl
    have b3 : (K == 3) = false := by rw [hk]; rfl
    have b4 : (K == 4) = false := by rw [hk]; rfl
    have b5 : (K == 5) = false := by rw [hk]; rfl
    have b6 : (K == 6) = false := by rw [hk]; rfl
    have b7 : (K == 7) = false := by rw [hk]; rfl
    have b8 : (K == 8) = true := by rw [hk]; rfl
    have HK := Lib.hid hk
    clear hk
    go_wp2_with (first
      | (refine wpList_alloc_row rfl 31 rfl _ zero31 ?_)
      | (refine wpList_store_row rfl 31 (.tmp 3) (.tmp 10) rfl _ (⟨L, K, 0, 0, 0, 0, Chg.zero, ByteArray.empty⟩ : Ent).cs rfl rfl _ _ (heap_alloc_new _ _) (info31 _) rfl (by simp [Value.oneCell']) ?_; rw [World.setRow_alloc_new, HW2.out])
      | fail)
    try rw [hB]
    refine (data_calls g _ hE.k.c).mono ?_
    rintro e w3 ⟨sb, rfl, hsb, hk, hc⟩
    have hE3 := hE.kb hk hc
    clear hk hc hE
    have g12 := hE3.free 12
    obtain ⟨d0, d1, d2, d3, d4, d5, d6, d7, d8, d9, d10, d11, d12⟩ := EntAt.of hE3.b
    have hX := hE3.set 12 (.string sb) (⟨L, K, 0, 0, 0, 0, Chg.zero, sb⟩ : Ent) rfl
    obtain ⟨W6, hW6⟩ : ∃ W, w3.setCell ⟨B, 12, none⟩ (.string sb) = W := ⟨_, rfl⟩
    rw [hW6] at hX
    have HX := Lib.hid (hX.k.high (D := A) hX.ha hX.ga (below_setRow (Below.refl A W6) (Nat.le_refl A) (⟨L, K, 0, 0, 0, 0, Chg.zero, sb⟩ : Ent).cs))
    have HXA := Lib.hid (show (W6.setRow A (⟨L, K, 0, 0, 0, 0, Chg.zero, sb⟩ : Ent).cs).heap[A]? = some (.cells (⟨L, K, 0, 0, 0, 0, Chg.zero, sb⟩ : Ent).cs 31 (0, 0)) from heap_setRow hX.a)
    have hXa := hX.a
    have hXb := hX.b
    have HWF := Lib.hid (show EntWf (⟨L, K, 0, 0, 0, 0, Chg.zero, sb⟩ : Ent) from ⟨wf_range L (by omega) (by omega), wf_range K (by omega) (by omega), rfl, rfl, rfl, rfl, wfZero, by show sb.size ≤ maxLen; simp only [maxLen]; omega⟩)
    go_wp2_with (first
      | (refine wpList_load_ent (by rfl) (.tmp 3) rfl B (by first | rfl | (rw [hB]; rfl)) (⟨L, K, 0, 0, 0, 0, Chg.zero, sb⟩ : Ent) hXb ?_)
      | (refine wpList_store_row rfl 31 (.tmp 2) (.tmp 66) rfl A (⟨L, K, 0, 0, 0, 0, Chg.zero, sb⟩ : Ent).cs rfl rfl 31 _ hXa (info31 _) rfl (by simp [Value.oneCell']) ?_)
      | fail)
    exact bodyPost_ret (results_cell_row rfl _ _ A _ _ _ _ rfl HXA.out Try.underlying31 rfl (info31 _)) rfl ⟨_, rfl, HWF.out, HX.out.k, HX.out.c⟩
end Go.Proofs.Ytldkgmodmpnclaa
