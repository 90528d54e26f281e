/- PageindexExact's walk: program and reference do the same with indices. -/
import Derived.Test.YtldkgmodmpnclaaWalkJudges
import Derived.Test.YtldkgmodmpnclaaDrawI
import Derived.Test.YtldkgmodmpnclaaArgE
namespace Go.Proofs.Ytldkgmodmpnclaa
open Go.RowKit Go.Proofs
set_option linter.unusedVariables false
set_option linter.unusedSimpArgs false
def entsC (l : List Ent) : Array Value := ((l.map Ent.cs).map Array.toList).flatten.toArray
abbrev entsO (l : List Ent) : Obj := .cells (entsC l) 31 (0, 0)
theorem range_ents {w : World} {b : Nat} {l : List Ent} {fr : Nat × Nat} (h : w.heap[b]? = some (.cells (entsC l) 31 fr)) (i : Nat) (p : Ent) (hp : l[i]? = some p) : w.rangeAt b (i * 13) p.cs.toList := by
  intro j v hj
  rw [heap_cell h]
  show (((l.map Ent.cs).map Array.toList).flatten.toArray)[i * 13 + j]? = some v
  rw [List.getElem?_toArray]
  refine flatten_drop _ i p.cs.toList (fun r hr => ?_) ?_ j v hj
  · simp only [List.mem_map] at hr
    obtain ⟨c, ⟨q, _, rfl⟩, rfl⟩ := hr
    rfl
  · simp [hp]
theorem wp_ents {op : Oper} {a : Act} {w : World} {K : Act → World → Prop} {Q : Exit → Act → World → Prop} (t n : Nat) (parts : Array (Nat × Operand)) (ho : op.op = .buildSlice t n parts) (l : List Ent) (hu : Try.prog.underlying t = some (.slice 31))
    (hl : l.length = n) (h0 : 0 < n) (hn : n ≤ 1000) (hp : (parts.map fun (i, x) => (i, a.eval x)).toList = (l.map Ent.cs).zipIdx.map fun x => (x.2, Value.agg x.1))
    (h : K (a.put op.dst (.slice (some ⟨w.heap.size, 0, none⟩) n n)) (w.alloc (.cells (entsC l) 31))) : op.wp Try.prog a w K Q :=
  wp_buildSlice_rows t 31 13 n parts ho (l.map Ent.cs) (.agg (⟨0, 0, 0, 0, 0, 0, Chg.zero, ByteArray.empty⟩ : Ent).cs) hu (by kernel_rfl) zero31 (fun r hr => by
    simp only [List.mem_map] at hr
    obtain ⟨q, _, rfl⟩ := hr
    rfl) (by simp; omega) (by simp; omega) (by simpa using hl) hp h
theorem info31l (e : Ent) : (Try.prog.info? 31).map (·.size) = some e.cs.toList.length := by rw [Array.length_toList]; exact info31 e
theorem wpList_load_ente {ops : Array Oper} {rest : List Oper} {op : Oper} {a : Act} {w : World} {Q : Exit → Act → World → Prop} (x : Operand) (ho : op.op = .load 31 x ∧ op.guard = none)
    (b o : Nat) (hx : a.eval x = .pointer (some ⟨b, o, none⟩)) (p : Ent) (hc : w.rangeAt b o p.cs.toList) (h : wpList Try.prog ops Q rest (a.put op.dst (.agg p.cs)) w) : wpList Try.prog ops Q (op :: rest) a w := by
  refine wpList_load_mid ho.2 31 x ho.1 b o hx p.cs.toList _ hc Try.underlying31 rfl (info31l p) ?_
  rwa [Array.toArray_toList]
theorem encI_le (l : List Row3) : (encI l).size ≤ 2000 := by
  by_cases h : idxOk l = true
  · have := idxOk_len h
    rw [encI_size h]
    omega
  · unfold encI
    rw [if_neg h]
    exact Nat.zero_le _
def tsL (ps : List (Int × Int × Int)) : List Value := ps.flatMap fun q => [.int .i64 q.1, .int .i64 q.2.1, .int .i64 q.2.2]
def tsC (ps : List (Int × Int × Int)) : Array Value := (tsL ps).toArray
abbrev tsO (ps : List (Int × Int × Int)) : Obj := .cells (tsC ps) 45 (0, 0)
theorem tsL_get : ∀ (ps : List (Int × Int × Int)) (j : Nat) (q : Int × Int × Int), ps[j]? = some q → (tsL ps)[j * 3]? = some (.int .i64 q.1) ∧ (tsL ps)[j * 3 + 1]? = some (.int .i64 q.2.1) ∧ (tsL ps)[j * 3 + 2]? = some (.int .i64 q.2.2)
  | [], _, _, h => by simp at h
  | p :: ps, 0, q, h => by
    obtain rfl : p = q := by simpa using h
    exact ⟨rfl, rfl, rfl⟩
  | p :: ps, j + 1, q, h => by
    have := tsL_get ps j q (by simpa using h)
    have e : tsL (p :: ps) = .int .i64 p.1 :: .int .i64 p.2.1 :: .int .i64 p.2.2 :: tsL ps := rfl
    rw [e, show (j + 1) * 3 = j * 3 + 1 + 1 + 1 by omega]
    simpa using this
theorem ts_cell {w : World} {b : Nat} {ps : List (Int × Int × Int)} (h : w.heap[b]? = some (tsO ps)) (j : Nat) (q : Int × Int × Int) (hq : ps[j]? = some q) : w.cell? ⟨b, j * 3, none⟩ = some (.int .i64 q.1) ∧ w.cell? ⟨b, j * 3 + 1, none⟩ = some (.int .i64 q.2.1) ∧ w.cell? ⟨b, j * 3 + 2, none⟩ = some (.int .i64 q.2.2) := by
  obtain ⟨h1, h2, h3⟩ := tsL_get ps j q hq
  exact ⟨by rw [heap_cell h]; simpa [tsC] using h1, by rw [heap_cell h]; simpa [tsC] using h2, by rw [heap_cell h]; simpa [tsC] using h3⟩
set_option maxHeartbeats 16000000 in
set_option maxRecDepth 100000 in
theorem exact_calls (a : Option Addr) (n c : Nat) (ai : Option Addr) (ni ci : Nat) (li : List Row3) (e0 : Ent) (x3 x4 x5 : Int) (s : ByteArray) (w : World) (h : Ls w a n c) (hi : Ri w ai ni ci li) (he0 : EntWf e0) (hs : s.size ≤ 140737488351232) :
    Calls Try.prog 3 #[.slice a n c, .agg #[.slice ai ni ci], .agg e0.cs, .int .i64 x3, .int .i64 x4, .int .i64 x5, .string s] w fun e w' => e = .returned (.bool true) ∧ Below w.heap.size w w' := by
  obtain ⟨B0, hB0⟩ : ∃ B, w.heap.size = B := ⟨_, rfl⟩
  rw [hB0]
  have hbA : Below B0 w ((w.alloc (ixO ai ni ci)).alloc (.cells e0.cs 31)) := by rw [← hB0]; exact ((Below.refl _ _).alloc (Nat.le_refl _) _).alloc (by simp) _
  have hqA : ((w.alloc (ixO ai ni ci)).alloc (.cells e0.cs 31)).heap[B0]? = some (ixO ai ni ci) := by rw [← hB0]; exact heap_alloc_of (heap_alloc_new _ _)
  have hqE : ((w.alloc (ixO ai ni ci)).alloc (.cells e0.cs 31)).heap[B0 + 1]? = some (.cells e0.cs 31 (0, 0)) := heap_alloc_at (by simp [hB0])
  have h := h.keep (show Below w.heap.size w _ from hB0.symm ▸ hbA)
  go_enter Try.func3, Try.ntmps3
  go_wp2_with fail
  obtain ⟨wa, hwa⟩ : ∃ wa, (w.alloc (ixO ai ni ci)).alloc (.cells e0.cs 31) = wa := ⟨_, rfl⟩
  have hsa : wa.heap.size = B0 + 2 := by rw [← hwa]; simp [hB0]
  rw [hwa] at hqA hqE hbA h
  try rw [hwa]
  clear hwa
  refine (awake11_calls _).mono ?_
  rintro e w1 ⟨rfl, hb1⟩
  have hs1 := hb1.size
  have hq1 := (hb1.block B0 (by omega)).trans hqA
  have hqe1 := (hb1.block (B0 + 1) (by omega)).trans hqE
  have hc1 : w1.cell? ⟨B0, 0, none⟩ = some (.slice ai ni ci) := by rw [heap_cell hq1]; rfl
  have hbw1 : Below B0 w w1 := hbA.trans (hb1.mono (by omega))
  have hL := h.keep hb1
  clear hqA hqE hbA hb1 h
  by_cases t1 : 100 < ni
  · have d1 : decide (100 < ni) = true := by simpa using t1
    have d2 : decide ((100 : Int) < ni) = true := by simp; omega
    have hX := Lib.hid hbw1
    clear hbw1 hq1 hqe1 hL hi
    cases d3 : decide ((400 : Int) < s.size)
    all_goals
      go_wp2_with fail
      go_ret
      exact ⟨rfl, hX.out⟩
  have d1 : decide (100 < ni) = false := by simpa using t1
  have d2 : decide ((100 : Int) < ni) = false := by simp; omega
  by_cases t2 : 400 < s.size
  · have d3 : decide (400 < s.size) = true := by simpa using t2
    have d4 : decide ((400 : Int) < s.size) = true := by simp; omega
    have hX := Lib.hid hbw1
    clear hbw1 hq1 hqe1 hL hi
    go_wp2_with fail
    go_ret
    exact ⟨rfl, hX.out⟩
  have d3 : decide (400 < s.size) = false := by simpa using t2
  have d4 : decide ((400 : Int) < s.size) = false := by simp; omega
  have HS := Lib.hid t2
  clear t1 t2 hs
  go_wp2_with fail
  refine (newCodes_calls a n c 120 _ hL (by omega)).mono ?_
  rintro e w2 ⟨g, rfl, hg, hb2, hc2⟩
  have hF2 : Fr B0 g w w2 := Fr.of (hbw1.trans (hb2.mono (by omega))) hc2 (by omega)
  have hgB : B0 + 1 < g := by omega
  have hI2 : RwAt w2 g ai ni ci li := hi.keep (by rw [hB0]; exact hF2.out) (by omega)
  have hq2 : w2.heap[B0]? = some (ixO ai ni ci) := (hb2.block B0 (by omega)).trans hq1
  have hqe2 : w2.heap[B0 + 1]? = some (.cells e0.cs 31 (0, 0)) := (hb2.block (B0 + 1) (by omega)).trans hqe1
  have hS2 : Sy B0 g [(B0, ixO ai ni ci), (B0 + 1, .cells e0.cs 31 (0, 0))] [(ai, ni, ci, li)] w w2 := Sy.row ⟨((Fx.of hF2).add hqe2 (by omega)).add hq2 (by omega), fun p hp => by cases hp⟩ hI2
  clear hbw1 hb2 hc2 hF2 hI2 hq2 hq1 hqe1 hqe2 hc1 hL hi hg d1 d2 d3 d4
  go_wp2_with fail
  refine (index_calls g _ hS2.c).mono ?_
  rintro e w3 ⟨b, N, l2, rfl, hb, hO, _, hn1, hn5, hk, hc⟩
  have hR := hO.rw (g := g) (by have := hS2.lt; omega)
  have hS6 := ((hS2.kb hk hc).row hR).new #[.slice (some ⟨b, 0, none⟩) N N] 25
  obtain ⟨D12, hD12⟩ : ∃ D, w3.heap.size = D := ⟨_, rfl⟩
  obtain ⟨w6, hw6⟩ : ∃ W, w3.alloc (ixO (some ⟨b, 0, none⟩) N N) = W := ⟨_, rfl⟩
  rw [hw6, hD12] at hS6
  have HW6 := Lib.hid hw6
  have q0 := hS6.get (b := B0) (o := ixO ai ni ci) (by simp)
  have q12 := hS6.get (b := D12) (o := ixO (some ⟨b, 0, none⟩) N N) (by simp)
  have e0_ : w6.cell? ⟨B0, 0, none⟩ = some (.slice ai ni ci) := by rw [heap_cell q0]; rfl
  have e12_ : w6.cell? ⟨D12, 0, none⟩ = some (.slice (some ⟨b, 0, none⟩) N N) := by rw [heap_cell q12]; rfl
  have n12 : D12 ≠ g := hS6.ne (b := D12) (o := ixO (some ⟨b, 0, none⟩) N N) (by simp)
  have hRi : RwAt w6 g ai ni ci li := hS6.y (ai, ni, ci, li) (by simp)
  have hR2 : RwAt w6 g (some ⟨b, 0, none⟩) N N l2 := hS6.y (some ⟨b, 0, none⟩, N, N, l2) (by simp)
  have l0 := heap_lt q0
  have l12 := heap_lt q12
  clear hk hc hS2 hO hR hw6 hb
  go_wp2_with fail
  rw [HW6.out]
  try rw [hD12]
  try simp only [Act.put, List.setIfInBounds_toArray, List.set_cons_zero, List.set_cons_succ]
  refine wp_region_held_drew (S := Kg g w6) (by kernel_rfl) (Kg.start hS6.c) (fun hHeld => ?_)
  refine Held.takeL (i := 0) (v := ?_) rfl (by kernel_rfl) (by kernel_rfl) (by kernel_rfl) (fun _ _ _ h => h) (.inl ⟨by kernel_rfl, ?_⟩) (by assumption) ?_
  rotate_left
  · (intro w_ hSw; have e0x_ := hSw.cell e0_ l0 (by omega); have e12x_ := hSw.cell e12_ l12 n12; go_simp; first | done | with_reducible rfl)
  try simp only [Act.put, List.setIfInBounds_toArray, List.set_cons_zero, List.set_cons_succ]
  refine Held.takeL (i := 1) (v := ?_) rfl (by kernel_rfl) (by kernel_rfl) (by kernel_rfl) (fun _ _ _ h => h) (.inl ⟨by kernel_rfl, ?_⟩) (by assumption) ?_
  rotate_left
  · (intro w_ hSw; have e0x_ := hSw.cell e0_ l0 (by omega); have e12x_ := hSw.cell e12_ l12 n12; go_simp; first | done | with_reducible rfl)
  try simp only [Act.put, List.setIfInBounds_toArray, List.set_cons_zero, List.set_cons_succ]
  refine Held.takeL (i := 2) (v := ?_) rfl (by kernel_rfl) (by kernel_rfl) (by kernel_rfl) (fun _ _ _ h => h) (.inl ⟨by kernel_rfl, ?_⟩) (by assumption) ?_
  rotate_left
  · (intro w_ hSw; go_simp; first | done | with_reducible rfl)
  try simp only [Act.put, List.setIfInBounds_toArray, List.set_cons_zero, List.set_cons_succ]
  refine Held.takeL (i := 3) (v := ?_) rfl (by kernel_rfl) (by kernel_rfl) (by kernel_rfl) (fun _ _ _ h => h) (.inl ⟨by kernel_rfl, ?_⟩) (by assumption) ?_
  rotate_left
  · (intro w_ hSw; have e0x_ := hSw.cell e0_ l0 (by omega); have e12x_ := hSw.cell e12_ l12 n12; go_simp; first | done | with_reducible rfl)
  try simp only [Act.put, List.setIfInBounds_toArray, List.set_cons_zero, List.set_cons_succ]
  refine Held.takeL (i := 7) (v := ?_) rfl (by kernel_rfl) (by kernel_rfl) (by kernel_rfl) (fun _ _ _ h => h) (.inl ⟨by kernel_rfl, ?_⟩) (by assumption) ?_
  rotate_left
  · (intro w_ hSw; go_simp; first | done | with_reducible rfl)
  try simp only [Act.put, List.setIfInBounds_toArray, List.set_cons_zero, List.set_cons_succ]
  refine wpAnyH_ready (rs := [4]) (by kernel_rfl) (by simp) ?_
  refine Held.consL rfl (fun K hK => ?_) AllReadyH.nil
  go_simp
  refine (odd_calls g _ N N l2 _ hHeld.c (hR2.kb hHeld.k) (by omega) (by omega)).mono ?_
  rintro e_ w7 ⟨a3, n3, c3, l3, rfl, hR3, hn31, hn32, hk, hc⟩
  have hH := hHeld.kb hk hc
  refine hK.out _ _ hH (fun hHeld => ?_)
  clear hK K
  try simp only [Act.put, List.setIfInBounds_toArray, List.set_cons_zero, List.set_cons_succ]
  have hS7 := ((hS6.kg hHeld).row hR3).new #[.slice ai ni ci, .slice (some ⟨b, 0, none⟩) N N, .slice a3 n3 c3] 25
  clear hH hk hc
  refine wpAnyH_ready (rs := [5]) (by kernel_rfl) (by simp) ?_
  refine Held.consL rfl (fun K hK => ?_) AllReadyH.nil
  go_simp
  refine hK.out _ _ (hHeld.step ((Below.refl _ _).alloc (Nat.le_refl _) _)) (fun hHeld => ?_)
  clear hK K
  try simp only [Act.put, List.setIfInBounds_toArray, List.set_cons_zero, List.set_cons_succ]
  refine Held.takeL (i := 6) (v := ?_) rfl (by kernel_rfl) (by kernel_rfl) (by kernel_rfl) (fun _ _ _ h => h) (.inl ⟨by kernel_rfl, ?_⟩) (by assumption) ?_
  rotate_left
  · (intro w_ hSw; go_simp; first | done | with_reducible rfl)
  try simp only [Act.put, List.setIfInBounds_toArray, List.set_cons_zero, List.set_cons_succ]
  refine wpAnyH_done (by kernel_rfl) ?_ _
  clear hHeld hS6 hR3 hR2 hRi q0 q12 e0_ e12_ n12 l0 l12 HW6
  obtain ⟨SB, hSB⟩ : ∃ D, w7.heap.size = D := ⟨_, rfl⟩
  obtain ⟨W7, hW7⟩ : ∃ W, w7.alloc (.cells #[.slice ai ni ci, .slice (some ⟨b, 0, none⟩) N N, .slice a3 n3 c3] 25) = W := ⟨_, rfl⟩
  rw [hW7, hSB] at hS7
  rw [hW7]
  try rw [hSB]
  obtain ⟨ys, hys⟩ : ∃ ys : List (Option Addr × Nat × Nat × List Row3), [(ai, ni, ci, li), (some ⟨b, 0, none⟩, N, N, l2), (a3, n3, c3, l3)] = ys := ⟨_, rfl⟩
  have hyl : ys.length = 3 := by rw [← hys]; rfl
  have hS8 : Sy B0 g [(SB, ysO ys), (B0 + 1, .cells e0.cs 31 (0, 0))] ys w W7 := by
    rw [← hys]
    exact hS7.sub (by intro x hx; simp only [List.mem_cons, List.not_mem_nil, or_false] at hx ⊢; rcases hx with rfl | rfl; (exact .inl rfl); (exact .inr (.inr (.inr rfl)))) (by intro x hx; simp only [List.mem_cons, List.not_mem_nil, or_false] at hx ⊢; rcases hx with rfl | rfl | rfl <;> simp)
  clear hS7 hW7 hSB hys
  have HYL := Lib.hid hyl
  clear hyl
  go_wp2_with fail
  go_loopw [78] (fun i wr => ∃ j : Nat, j ≤ 3 ∧ i = .int .i64 j ∧ Sy B0 g [(SB, ysO ys), (B0 + 1, .cells e0.cs 31 (0, 0))] ys w wr) (fun i _ => 3 - (intOf i).toNat)
  case atStart => exact ⟨0, by omega, rfl, hS8⟩
  case round =>
    clear hS8
    obtain ⟨j, hj, rfl, hF⟩ := hrel
    by_cases hj3 : j < 3
    · have hdec : decide ((j : Int) < 3) = true := by simp; omega
      obtain ⟨⟨ay, ny, cy, ly⟩, hy⟩ : ∃ y, ys[j]? = some y := ⟨ys[j]'(by rw [HYL.out]; exact hj3), by simp [HYL.out, hj3]⟩
      have hcy := ys_cell (hF.get (b := SB) (o := ysO ys) (by simp)) j _ hy
      have hmy := List.mem_of_getElem? hy
      have hS9 := hF.new #[.slice ay ny cy] 25
      obtain ⟨D18, hD18⟩ : ∃ D, wr.heap.size = D := ⟨_, rfl⟩
      obtain ⟨W9, hW9⟩ : ∃ W, wr.alloc (.cells #[.slice ay ny cy] 25) = W := ⟨_, rfl⟩
      rw [hW9, hD18] at hS9
      have hqe := hS9.get (b := B0 + 1) (o := .cells e0.cs 31 (0, 0)) (by simp)
      have HMY := Lib.hid hmy
      have HW9 := Lib.hid hW9
      clear hF hW9 hy hmy
      go_wp2_with fail
      rw [HW9.out]
      try rw [hD18]
      try simp only [Act.put, List.setIfInBounds_toArray, List.set_cons_zero, List.set_cons_succ]
      clear HW9 hcy
      refine wp_region_held_drew (S := Kg g W9) (by kernel_rfl) (Kg.start hS9.c) (fun hHeld => ?_)
      refine Held.takeL (i := 0) (v := .agg e0.cs) rfl (by kernel_rfl) (by kernel_rfl) (by kernel_rfl) (fun _ _ _ h => h) ?_ (by assumption) ?_
      · exact yields_ent (by kernel_rfl) (.tmp 9) (by kernel_rfl) (B0 + 1) (by kernel_rfl) e0 (fun w_ hSw => hSw.blk hqe (by omega))
      try simp only [Act.put, List.setIfInBounds_toArray, List.set_cons_zero, List.set_cons_succ]
      refine Held.takeL (i := 1) (v := ?_) rfl (by kernel_rfl) (by kernel_rfl) (by kernel_rfl) (fun _ _ _ h => h) (.inl ⟨by kernel_rfl, ?_⟩) (by assumption) ?_
      rotate_left
      · (intro w_ hSw; go_simp; first | done | with_reducible rfl)
      try simp only [Act.put, List.setIfInBounds_toArray, List.set_cons_zero, List.set_cons_succ]
      refine Held.takeL (i := 3) (v := ?_) rfl (by kernel_rfl) (by kernel_rfl) (by kernel_rfl) (fun _ _ _ h => h) (.inl ⟨by kernel_rfl, ?_⟩) (by assumption) ?_
      rotate_left
      · (intro w_ hSw; go_simp; first | done | with_reducible rfl)
      try simp only [Act.put, List.setIfInBounds_toArray, List.set_cons_zero, List.set_cons_succ]
      refine Held.takeL (i := 5) (v := ?_) rfl (by kernel_rfl) (by kernel_rfl) (by kernel_rfl) (fun _ _ _ h => h) (.inl ⟨by kernel_rfl, ?_⟩) (by assumption) ?_
      rotate_left
      · (intro w_ hSw; go_simp; first | done | with_reducible rfl)
      try simp only [Act.put, List.setIfInBounds_toArray, List.set_cons_zero, List.set_cons_succ]
      refine Held.takeL (i := 11) (v := ?_) rfl (by kernel_rfl) (by kernel_rfl) (by kernel_rfl) (fun _ _ _ h => h) (.inl ⟨by kernel_rfl, ?_⟩) (by assumption) ?_
      rotate_left
      · (intro w_ hSw; go_simp; first | done | with_reducible rfl)
      try simp only [Act.put, List.setIfInBounds_toArray, List.set_cons_zero, List.set_cons_succ]
      refine wpAnyH_ready (rs := [2]) (by kernel_rfl) (by simp) ?_
      refine Held.consL rfl (fun K hK => ?_) AllReadyH.nil
      go_simp
      refine (entry_calls g _ hHeld.c).mono ?_
      rintro e_ w_e ⟨ed, rfl, hwd, hk, hc⟩
      have hH := hHeld.kb hk hc
      refine hK.out _ _ hH (fun hHeld => ?_)
      clear hK K
      try simp only [Act.put, List.setIfInBounds_toArray, List.set_cons_zero, List.set_cons_succ]
      clear hH hk hc
      refine wpAnyH_ready (rs := [4]) (by kernel_rfl) (by simp) ?_
      refine Held.consL rfl (fun K hK => ?_) AllReadyH.nil
      go_simp
      refine (next_calls g 59 _ hHeld.c (by omega) (by omega)).mono ?_
      rintro e_ w_rr ⟨rr, rfl, hrr0, hrr1, hk, hc⟩
      have hH := hHeld.kb hk hc
      refine hK.out _ _ hH (fun hHeld => ?_)
      clear hK K
      try simp only [Act.put, List.setIfInBounds_toArray, List.set_cons_zero, List.set_cons_succ]
      clear hH hk hc
      refine wpAnyH_ready (rs := [6]) (by kernel_rfl) (by simp) ?_
      refine Held.consL rfl (fun K hK => ?_) AllReadyH.nil
      go_simp
      refine (next_calls g 6 _ hHeld.c (by omega) (by omega)).mono ?_
      rintro e_ w_rq ⟨rq, rfl, hrq0, hrq1, hk, hc⟩
      have hH := hHeld.kb hk hc
      refine hK.out _ _ hH (fun hHeld => ?_)
      clear hK K
      try simp only [Act.put, List.setIfInBounds_toArray, List.set_cons_zero, List.set_cons_succ]
      have hS13 := (hS9.kg hHeld).new (entsC [e0, ed, ent7 60 rr rq]) 31
      clear hH hk hc
      refine Held.takeL (i := 7) (v := ?_) rfl (by kernel_rfl) (by kernel_rfl) (by kernel_rfl) (fun _ _ _ h => h) (.inl ⟨by kernel_rfl, ?_⟩) (by assumption) ?_
      rotate_left
      · (intro w_ hSw; go_simp; first | done | with_reducible rfl)
      try simp only [Act.put, List.setIfInBounds_toArray, List.set_cons_zero, List.set_cons_succ]
      refine Held.takeL (i := 8) (v := ?_) rfl (by kernel_rfl) (by kernel_rfl) (by kernel_rfl) (fun _ _ _ h => h) (.inl ⟨by kernel_rfl, ?_⟩) (by assumption) ?_
      rotate_left
      · (intro w_ hSw; go_simp; first | done | with_reducible rfl)
      try simp only [Act.put, List.setIfInBounds_toArray, List.set_cons_zero, List.set_cons_succ]
      refine wpAnyH_ready (rs := [9]) (by kernel_rfl) (by simp) ?_
      refine Held.consL rfl (fun K hK => ?_) AllReadyH.nil
      rw [if_pos (by kernel_rfl)]
      refine wp_ents 40 3 _ rfl [e0, ed, ent7 60 rr rq] Try.underlying40 rfl (by omega) (by omega) (by kernel_rfl) ?_
      refine hK.out _ _ (hHeld.step ((Below.refl _ _).alloc (Nat.le_refl _) _)) (fun hHeld => ?_)
      clear hK K
      try simp only [Act.put, List.setIfInBounds_toArray, List.set_cons_zero, List.set_cons_succ]
      refine Held.takeL (i := 10) (v := ?_) rfl (by kernel_rfl) (by kernel_rfl) (by kernel_rfl) (fun _ _ _ h => h) (.inl ⟨by kernel_rfl, ?_⟩) (by assumption) ?_
      rotate_left
      · (intro w_ hSw; go_simp; first | done | with_reducible rfl)
      try simp only [Act.put, List.setIfInBounds_toArray, List.set_cons_zero, List.set_cons_succ]
      refine wpAnyH_done (by kernel_rfl) ?_ _
      clear hHeld
      obtain ⟨EB, hEB⟩ : ∃ D, w_rq.heap.size = D := ⟨_, rfl⟩
      obtain ⟨W13, hW13⟩ : ∃ W, w_rq.alloc (.cells (entsC [e0, ed, ent7 60 rr rq]) 31) = W := ⟨_, rfl⟩
      have hS14 : Sy B0 g [(EB, entsO [e0, ed, ent7 60 rr rq]), (D18, ixO ay ny cy), (SB, ysO ys), (B0 + 1, .cells e0.cs 31 (0, 0))] ys w W13 := by rw [← hW13, ← hEB]; exact hS13
      rw [hW13]
      try rw [hEB]
      obtain ⟨es, hes⟩ : ∃ es, [e0, ed, ent7 60 rr rq] = es := ⟨_, rfl⟩
      have hesl : es.length = 3 := by rw [← hes]; rfl
      have hwes : ∀ e ∈ es, EntWf e := by
        rw [← hes]
        intro e he
        simp only [List.mem_cons, List.not_mem_nil, or_false] at he
        rcases he with rfl | rfl | rfl
        · exact he0
        · exact hwd
        · exact ent7_wf (by omega) (by omega) (by omega)
      rw [hes] at hS14
      have HEL := Lib.hid hesl
      have HWE := Lib.hid hwes
      clear hS13 hEB hW13 hes hesl hwes hS9 hqe
      go_wp2_with fail
      go_loopw [93] (fun i wr => ∃ m : Nat, m ≤ 3 ∧ i = .int .i64 m ∧ Sy B0 g [(EB, entsO es), (D18, ixO ay ny cy), (SB, ysO ys), (B0 + 1, .cells e0.cs 31 (0, 0))] ys w wr) (fun i _ => 3 - (intOf i).toNat)
      case atStart => exact ⟨0, by omega, rfl, hS14⟩
      case round =>
        clear hS14
        obtain ⟨m, hm3, rfl, hF⟩ := hrel
        by_cases hmm : m < 3
        · have hdem : decide ((m : Int) < 3) = true := by simp; omega
          obtain ⟨en, hen⟩ : ∃ q, es[m]? = some q := ⟨es[m]'(by rw [HEL.out]; exact hmm), by simp [HEL.out, hmm]⟩
          have hrg := range_ents (hF.get (b := EB) (o := entsO es) (by simp)) m en hen
          have hwf := HWE.out en (List.mem_of_getElem? hen)
          have hS15 := hF.new en.cs 31
          obtain ⟨D20, hD20⟩ : ∃ D, wr.heap.size = D := ⟨_, rfl⟩
          obtain ⟨W15, hW15⟩ : ∃ W, wr.alloc (.cells en.cs 31) = W := ⟨_, rfl⟩
          rw [hW15, hD20] at hS15
          have g18 := hS15.get (b := D18) (o := ixO ay ny cy) (by simp)
          have p18 : W15.cell? ⟨D18, 0, none⟩ = some (.slice ay ny cy) := by rw [heap_cell g18]; rfl
          have g20 : W15.heap[D20]? = some (.cells en.cs 31 (0, 0)) := hS15.f.hd
          have hr15 : RwAt W15 g ay ny cy ly := hS15.y _ HMY.out
          have HW15 := Lib.hid hW15
          have HEN := Lib.hid hwf
          clear hF hen hW15 g18 hwf
          go_wp2_with (first
            | (refine wpList_load_ente (.tmp 95) ⟨rfl, rfl⟩ EB (m * 13) rfl en hrg ?_)
            | (refine wpList_alloc_row rfl 31 rfl _ zero31 ?_)
            | (refine wpList_store_row rfl 31 (.tmp 20) (.tmp 96) rfl _ en.cs rfl rfl _ _ (heap_alloc_new _ _) (info31 _) rfl (by simp [Value.oneCell']) ?_; rw [World.setRow_alloc_new, HW15.out])
            | (refine wpList_load_ent (by rfl) (.tmp 20) rfl D20 (by first | rfl | (rw [hD20]; rfl)) en g20 ?_))
          try rw [hD20]
          refine (note_calls g ay ny cy ly en HEN.out W15 hr15 hS15.lt).mono ?_
          rintro e w16 ⟨a21, n21, c21, rfl, hR21, hb16⟩
          have HN2 := Lib.hid (fun W h hg => note11_calls g ay ny cy ly en HEN.out W h hg)
          obtain ⟨⟨lr, er⟩, hd⟩ : ∃ d, noteI ly en = d := ⟨_, rfl⟩
          rw [hd] at HN2 hR21
          rw [hd]
          have hR21 : RwAt w16 g a21 n21 c21 lr := hR21
          have hS16 := ((hS15.step hb16).row hR21).new #[.slice a21 n21 c21] 25
          obtain ⟨D21, hD21⟩ : ∃ D, w16.heap.size = D := ⟨_, rfl⟩
          obtain ⟨W16, hW16⟩ : ∃ W, w16.alloc (.cells #[.slice a21 n21 c21] 25) = W := ⟨_, rfl⟩
          rw [hW16, hD21] at hS16
          have g18 := hS16.get (b := D18) (o := ixO ay ny cy) (by simp)
          have p18 : (w16.alloc (.cells #[.slice a21 n21 c21] 25)).cell? ⟨D18, 0, none⟩ = some (.slice ay ny cy) := by rw [hW16, heap_cell g18]; rfl
          have g20 : W16.heap[D20]? = some (.cells en.cs 31 (0, 0)) := hS16.get (b := D20) (o := .cells en.cs 31 (0, 0)) (by simp)
          have hr16 : RwAt W16 g ay ny cy ly := hS16.y _ (List.mem_cons_of_mem _ HMY.out)
          have HW16 := Lib.hid hW16
          clear hS15 hb16 hr15 HW15 hd hR21 hW16 g18 hrg
          go_wp2_with (refine wpList_load_ent (by rfl) (.tmp 20) rfl D20 rfl en (by rw [HW16.out]; exact g20) ?_)
          rw [HW16.out]
          try rw [hD21]
          refine (HN2.out W16 hr16 hS16.lt).mono ?_
          rintro e w17 ⟨a23, n23, c23, rfl, hR23, hb17⟩
          have hR23 : RwAt w17 g a23 n23 c23 lr := hR23
          have hS17 := ((hS16.step hb17).row hR23).new #[.slice a23 n23 c23] 25
          obtain ⟨D23, hD23⟩ : ∃ D, w17.heap.size = D := ⟨_, rfl⟩
          obtain ⟨W17, hW17⟩ : ∃ W, w17.alloc (.cells #[.slice a23 n23 c23] 25) = W := ⟨_, rfl⟩
          rw [hW17, hD23] at hS17
          have g21 := hS17.get (b := D21) (o := ixO a21 n21 c21) (by simp)
          have p21 : (w17.alloc (.cells #[.slice a23 n23 c23] 25)).cell? ⟨D21, 0, none⟩ = some (.slice a21 n21 c21) := by rw [hW17, heap_cell g21]; rfl
          have h23 : RwAt W17 g a23 n23 c23 lr := hS17.y (a23, n23, c23, lr) (by simp)
          have h21 : RwAt W17 g a21 n21 c21 lr := hS17.y (a21, n21, c21, lr) (by simp)
          have HW17 := Lib.hid hW17
          have hne : (er != er) = false := by simp
          clear hS16 hb17 hr16 HW16 HN2 hR23 hW17 g21 g20 p18
          go_wp2_with fail
          rw [HW17.out]
          refine (same_calls g g _ _ _ _ _ _ lr _ h21 h23).mono ?_
          rintro e w18 ⟨rfl, hb18⟩
          have hS18 : Sy B0 g [(EB, entsO es), (D18, ixO ay ny cy), (SB, ysO ys), (B0 + 1, .cells e0.cs 31 (0, 0))] ys w w18 := (hS17.step hb18).sub (by intro x hx; simp only [List.mem_cons, List.not_mem_nil, or_false] at hx ⊢; rcases hx with rfl | rfl | rfl | rfl <;> simp) (fun x hx => List.mem_cons_of_mem _ (List.mem_cons_of_mem _ hx))
          clear hS17 hb18 h21 h23 p21 HW17
          go_wp2_with fail
          go_roundw
          case rel => exact ⟨m + 1, by omega, by go_num, hS18⟩
          case measure => simp [intOf]; omega
        · have hdem : decide ((m : Int) < 3) = false := by simp; omega
          go_wp2_with fail
          refine (next_calls g 6 _ hF.c (by omega) (by omega)).mono ?_
          rintro e w1_ ⟨v1, rfl, hv10, hv11, hk, hc⟩
          have hG1 := (hF.sub (L' := [(D18, ixO ay ny cy), (SB, ysO ys), (B0 + 1, .cells e0.cs 31 (0, 0))]) (Y' := ys) (by intro x hx; exact List.mem_cons_of_mem _ hx) (fun x hx => hx)).kb hk hc
          have wv1 : IntKind.i64.wrap (v1 - 1) = v1 - 1 := IntWalk.i64_in _ (by omega)
          clear hk hc hF
          go_wp2_with fail
          refine (next_calls g 4 _ hG1.c (by omega) (by omega)).mono ?_
          rintro e w2_ ⟨v2, rfl, hv20, hv21, hk, hc⟩
          have hG2 := hG1.kb hk hc
          clear hk hc hG1
          go_wp2_with fail
          refine (next_calls g 30 _ hG2.c (by omega) (by omega)).mono ?_
          rintro e w3_ ⟨v3, rfl, hv30, hv31, hk, hc⟩
          have hG3 := hG2.kb hk hc
          clear hk hc hG2
          go_wp2_with fail
          refine (next_calls g 2 _ hG3.c (by omega) (by omega)).mono ?_
          rintro e w4_ ⟨v4, rfl, hv40, hv41, hk, hc⟩
          have hG4 := (hG3.kb hk hc).new (tsC [(x3, x4, x5), (v1 - 1, v2, v3), (0, 0, v4)]) 45
          obtain ⟨PB, hPB⟩ : ∃ D, w4_.heap.size = D := ⟨_, rfl⟩
          obtain ⟨W4, hW4⟩ : ∃ W, w4_.alloc (.cells #[.int .i64 x3, .int .i64 x4, .int .i64 x5, .int .i64 (v1 - 1), .int .i64 v2, .int .i64 v3, .int .i64 0, .int .i64 0, .int .i64 v4] 45) = W := ⟨_, rfl⟩
          have hS14 : Sy B0 g [(PB, tsO [(x3, x4, x5), (v1 - 1, v2, v3), (0, 0, v4)]), (D18, ixO ay ny cy), (SB, ysO ys), (B0 + 1, .cells e0.cs 31 (0, 0))] ys w W4 := by rw [← hW4, ← hPB]; exact hG4
          have HW4 := Lib.hid hW4
          clear hk hc hG3 hG4 hW4
          go_wp2_with fail
          rw [HW4.out]
          try rw [hPB]
          obtain ⟨ts, hts⟩ : ∃ ts, [(x3, x4, x5), (v1 - 1, v2, v3), (0, 0, v4)] = ts := ⟨_, rfl⟩
          have htsl : ts.length = 3 := by rw [← hts]; rfl
          rw [hts] at hS14
          have HTL := Lib.hid htsl
          clear HW4 hPB hts htsl
          go_loopw [136] (fun i wr => ∃ m : Nat, m ≤ 3 ∧ i = .int .i64 m ∧ Sy B0 g [(PB, tsO ts), (D18, ixO ay ny cy), (SB, ysO ys), (B0 + 1, .cells e0.cs 31 (0, 0))] ys w wr) (fun i _ => 3 - (intOf i).toNat)
          case atStart => exact ⟨0, by omega, rfl, hS14⟩
          case round =>
            clear hS14
            obtain ⟨m, hm3, rfl, hF⟩ := hrel
            by_cases hmm : m < 3
            · have hdem : decide ((m : Int) < 3) = true := by simp; omega
              obtain ⟨⟨qa, qb, qc⟩, hq⟩ : ∃ q, ts[m]? = some q := ⟨ts[m]'(by rw [HTL.out]; exact hmm), by simp [HTL.out, hmm]⟩
              obtain ⟨cq1, cq2, cq3⟩ := ts_cell (hF.get (b := PB) (o := tsO ts) (by simp)) m _ hq
              dsimp only at cq1 cq2 cq3
              have hS15 := hF.new #[.int .i64 qa, .int .i64 qb, .int .i64 qc] 45
              obtain ⟨D26, hD26⟩ : ∃ D, wr.heap.size = D := ⟨_, rfl⟩
              obtain ⟨W15, hW15⟩ : ∃ W, wr.alloc (.cells #[.int .i64 qa, .int .i64 qb, .int .i64 qc] 45) = W := ⟨_, rfl⟩
              rw [hW15, hD26] at hS15
              have g18 := hS15.get (b := D18) (o := ixO ay ny cy) (by simp)
              have p18 : (wr.alloc (.cells #[.int .i64 qa, .int .i64 qb, .int .i64 qc] 45)).cell? ⟨D18, 0, none⟩ = some (.slice ay ny cy) := by rw [hW15, heap_cell g18]; rfl
              have hr15 : RwAt W15 g ay ny cy ly := hS15.y _ HMY.out
              have HW15 := Lib.hid hW15
              clear hF hq hW15 g18
              go_wp2_with fail
              rw [HW15.out]
              try rw [hD26]
              refine (setImage_calls g ay ny cy qa qb qc ly W15 hr15 hS15.lt).mono ?_
              rintro e w16 ⟨a21, n21, c21, rfl, hR21, hb16⟩
              have HN2 := Lib.hid (fun W h hg => setImage11_calls g ay ny cy qa qb qc ly W h hg)
              obtain ⟨⟨lr, er⟩, hd⟩ : ∃ d, imgI ly qa qb qc = d := ⟨_, rfl⟩
              rw [hd] at HN2 hR21
              rw [hd]
              have hR21 : RwAt w16 g a21 n21 c21 lr := hR21
              have hS16 := ((hS15.step hb16).row hR21).new #[.slice a21 n21 c21] 25
              obtain ⟨D27, hD27⟩ : ∃ D, w16.heap.size = D := ⟨_, rfl⟩
              obtain ⟨W16, hW16⟩ : ∃ W, w16.alloc (.cells #[.slice a21 n21 c21] 25) = W := ⟨_, rfl⟩
              rw [hW16, hD27] at hS16
              have g18 := hS16.get (b := D18) (o := ixO ay ny cy) (by simp)
              have g26 := hS16.get (b := D26) (o := .cells #[.int .i64 qa, .int .i64 qb, .int .i64 qc] 45 (0, 0)) (by simp)
              have p18 : (w16.alloc (.cells #[.slice a21 n21 c21] 25)).cell? ⟨D18, 0, none⟩ = some (.slice ay ny cy) := by rw [hW16, heap_cell g18]; rfl
              have p26 : (w16.alloc (.cells #[.slice a21 n21 c21] 25)).cell? ⟨D26, 0, none⟩ = some (.int .i64 qa) := by rw [hW16, heap_cell g26]; rfl
              have p27 : (w16.alloc (.cells #[.slice a21 n21 c21] 25)).cell? ⟨D26, 1, none⟩ = some (.int .i64 qb) := by rw [hW16, heap_cell g26]; rfl
              have p28 : (w16.alloc (.cells #[.slice a21 n21 c21] 25)).cell? ⟨D26, 2, none⟩ = some (.int .i64 qc) := by rw [hW16, heap_cell g26]; rfl
              have hr16 : RwAt W16 g ay ny cy ly := hS16.y _ (List.mem_cons_of_mem _ HMY.out)
              have HW16 := Lib.hid hW16
              clear hS15 hb16 hr15 HW15 hd hR21 hW16 g18 g26 cq1 cq2 cq3
              go_wp2_with fail
              rw [HW16.out]
              try rw [hD27]
              refine (HN2.out W16 hr16 hS16.lt).mono ?_
              rintro e w17 ⟨a23, n23, c23, rfl, hR23, hb17⟩
              have hR23 : RwAt w17 g a23 n23 c23 lr := hR23
              have hS17 := ((hS16.step hb17).row hR23).new #[.slice a23 n23 c23] 25
              obtain ⟨D29, hD29⟩ : ∃ D, w17.heap.size = D := ⟨_, rfl⟩
              obtain ⟨W17, hW17⟩ : ∃ W, w17.alloc (.cells #[.slice a23 n23 c23] 25) = W := ⟨_, rfl⟩
              rw [hW17, hD29] at hS17
              have g21 := hS17.get (b := D27) (o := ixO a21 n21 c21) (by simp)
              have p21 : (w17.alloc (.cells #[.slice a23 n23 c23] 25)).cell? ⟨D27, 0, none⟩ = some (.slice a21 n21 c21) := by rw [hW17, heap_cell g21]; rfl
              have h23 : RwAt W17 g a23 n23 c23 lr := hS17.y (a23, n23, c23, lr) (by simp)
              have h21 : RwAt W17 g a21 n21 c21 lr := hS17.y (a21, n21, c21, lr) (by simp)
              have HW17 := Lib.hid hW17
              have hne : (er != er) = false := by simp
              clear hS16 hb17 hr16 HW16 HN2 hR23 hW17 g21 p18 p26 p27 p28
              go_wp2_with fail
              rw [HW17.out]
              refine (same_calls g g _ _ _ _ _ _ lr _ h21 h23).mono ?_
              rintro e w18 ⟨rfl, hb18⟩
              have hS18 : Sy B0 g [(PB, tsO ts), (D18, ixO ay ny cy), (SB, ysO ys), (B0 + 1, .cells e0.cs 31 (0, 0))] ys w w18 := (hS17.step hb18).sub (by intro x hx; simp only [List.mem_cons, List.not_mem_nil, or_false] at hx ⊢; rcases hx with rfl | rfl | rfl | rfl <;> simp) (fun x hx => List.mem_cons_of_mem _ (List.mem_cons_of_mem _ hx))
              clear hS17 hb18 h21 h23 p21 HW17
              go_wp2_with fail
              go_roundw
              case rel => exact ⟨m + 1, by omega, by go_num, hS18⟩
              case measure => simp [intOf]; omega
            · have hdem : decide ((m : Int) < 3) = false := by simp; omega
              have g18 := hF.get (b := D18) (o := ixO ay ny cy) (by simp)
              have p18 : wr.cell? ⟨D18, 0, none⟩ = some (.slice ay ny cy) := by rw [heap_cell g18]; rfl
              have hr : RwAt wr g ay ny cy ly := hF.y _ HMY.out
              have HC1 := Lib.hid (fun W h => encIdx_calls g ay ny cy ly W h)
              have HC2 := Lib.hid (fun W h => encIdx11_calls g ay ny cy ly W h)
              have HV1 := Lib.hid (fun W h => validIdx_calls g ay ny cy ly W h)
              have HV2 := Lib.hid (fun W h => valid11_calls g ay ny cy ly W h)
              have hbz := encI_le ly
              obtain ⟨bs, hbs⟩ : ∃ x, encI ly = x := ⟨_, rfl⟩
              obtain ⟨eb, heb⟩ : ∃ x, encE ly = x := ⟨_, rfl⟩
              obtain ⟨bv, hbv⟩ : ∃ x, idxOk ly = x := ⟨_, rfl⟩
              rw [hbs] at hbz
              rw [hbs, heb] at HC1 HC2
              rw [hbv] at HV1 HV2
              have HBZ := Lib.hid hbz
              have hG0 := hF.sub (L' := [(D18, ixO ay ny cy), (SB, ysO ys), (B0 + 1, .cells e0.cs 31 (0, 0))]) (Y' := ys) (by intro x hx; exact List.mem_cons_of_mem _ hx) (fun x hx => hx)
              clear hF g18 hbs heb hbv hbz
              go_wp2_with fail
              refine (HC1.out wr hr).mono ?_
              rintro e w1_ ⟨rfl, hb1⟩
              have hG1 := hG0.step hb1
              have g18 := hG1.get (b := D18) (o := ixO ay ny cy) (by simp)
              have p18 : w1_.cell? ⟨D18, 0, none⟩ = some (.slice ay ny cy) := by rw [heap_cell g18]; rfl
              have hr1 : RwAt w1_ g ay ny cy ly := hG1.y _ HMY.out
              clear hG0 hb1 hr g18
              go_wp2_with fail
              refine (HC2.out w1_ hr1).mono ?_
              rintro e w2_ ⟨rfl, hb2⟩
              have hG2 := hG1.step hb2
              have g18 := hG2.get (b := D18) (o := ixO ay ny cy) (by simp)
              have p18 : w2_.cell? ⟨D18, 0, none⟩ = some (.slice ay ny cy) := by rw [heap_cell g18]; rfl
              have l18 := heap_lt g18
              have n18 : D18 ≠ g := hG2.ne (b := D18) (o := ixO ay ny cy) (by simp)
              have hr2 : RwAt w2_ g ay ny cy ly := hG2.y _ HMY.out
              have hss : (bs.toList != bs.toList) = false := by simp
              have hee : (eb != eb) = false := by simp
              clear hG1 hb2 hr1 g18
              go_wp2_with fail
              try simp only [Act.put, List.setIfInBounds_toArray, List.set_cons_zero, List.set_cons_succ]
              cases bv
              all_goals
                refine wp_region_held_drew (S := Kg g w2_) (by kernel_rfl) (Kg.start hG2.c) (fun hHeld => ?_)
                refine Held.takeL (i := 0) (v := ?_) rfl (by kernel_rfl) (by kernel_rfl) (by kernel_rfl) (fun _ _ _ h => h) (.inl ⟨by kernel_rfl, ?_⟩) (by assumption) ?_
                rotate_left
                · (intro w_ hSw; go_simp; first | done | with_reducible rfl)
                try simp only [Act.put, List.setIfInBounds_toArray, List.set_cons_zero, List.set_cons_succ]
                refine Held.takeL (i := 1) (v := ?_) rfl (by kernel_rfl) (by kernel_rfl) (by kernel_rfl) (fun _ _ _ h => h) (.inl ⟨by kernel_rfl, ?_⟩) (by assumption) ?_
                rotate_left
                · (intro w_ hSw; go_simp; first | done | with_reducible rfl)
                try simp only [Act.put, List.setIfInBounds_toArray, List.set_cons_zero, List.set_cons_succ]
                refine Held.takeL (i := 2) (v := ?_) rfl (by kernel_rfl) (by kernel_rfl) (by kernel_rfl) (fun _ _ _ h => h) (.inl ⟨by kernel_rfl, ?_⟩) (by assumption) ?_
                rotate_left
                · (intro w_ hSw; go_simp; first | done | with_reducible rfl)
                try simp only [Act.put, List.setIfInBounds_toArray, List.set_cons_zero, List.set_cons_succ]
                refine Held.takeL (i := 3) (v := ?_) rfl (by kernel_rfl) (by kernel_rfl) (by kernel_rfl) (fun _ _ _ h => h) (.inl ⟨by kernel_rfl, ?_⟩) (by assumption) ?_
                rotate_left
                · (intro w_ hSw; go_simp; first | done | with_reducible rfl)
                try simp only [Act.put, List.setIfInBounds_toArray, List.set_cons_zero, List.set_cons_succ]
                refine Held.takeL (i := 4) (v := ?_) rfl (by kernel_rfl) (by kernel_rfl) (by kernel_rfl) (fun _ _ _ h => h) (.inl ⟨by kernel_rfl, ?_⟩) (by assumption) ?_
                rotate_left
                · (intro w_ hSw; go_simp; first | done | with_reducible rfl)
                try simp only [Act.put, List.setIfInBounds_toArray, List.set_cons_zero, List.set_cons_succ]
                refine Held.takeL (i := 5) (v := ?_) rfl (by kernel_rfl) (by kernel_rfl) (by kernel_rfl) (fun _ _ _ h => h) (.inl ⟨by kernel_rfl, ?_⟩) (by assumption) ?_
                rotate_left
                · (intro w_ hSw; go_simp; first | done | with_reducible rfl)
                try simp only [Act.put, List.setIfInBounds_toArray, List.set_cons_zero, List.set_cons_succ]
                refine Held.takeL (i := 6) (v := ?_) rfl (by kernel_rfl) (by kernel_rfl) (by kernel_rfl) (fun _ _ _ h => h) (.inl ⟨by kernel_rfl, ?_⟩) (by assumption) ?_
                rotate_left
                · (intro w_ hSw; go_simp; first | done | with_reducible rfl)
                try simp only [Act.put, List.setIfInBounds_toArray, List.set_cons_zero, List.set_cons_succ]
                refine Held.takeL (i := 7) (v := ?_) rfl (by kernel_rfl) (by kernel_rfl) (by kernel_rfl) (fun _ _ _ h => h) (.inl ⟨by kernel_rfl, ?_⟩) (by assumption) ?_
                rotate_left
                · (intro w_ hSw; go_simp; first | done | with_reducible rfl)
                try simp only [Act.put, List.setIfInBounds_toArray, List.set_cons_zero, List.set_cons_succ]
                refine Held.takeL (i := 8) (v := ?_) rfl (by kernel_rfl) (by kernel_rfl) (by kernel_rfl) (fun _ _ _ h => h) (.inl ⟨by kernel_rfl, ?_⟩) (by assumption) ?_
                rotate_left
                · (intro w_ hSw; go_simp; first | done | with_reducible rfl)
                try simp only [Act.put, List.setIfInBounds_toArray, List.set_cons_zero, List.set_cons_succ]
                refine Held.takeL (i := 9) (v := ?_) rfl (by kernel_rfl) (by kernel_rfl) (by kernel_rfl) (fun _ _ _ h => h) (.inl ⟨by kernel_rfl, ?_⟩) (by assumption) ?_
                rotate_left
                · (intro w_ hSw; have p18_ := hSw.cell p18 l18 n18; go_simp; first | done | with_reducible rfl)
                try simp only [Act.put, List.setIfInBounds_toArray, List.set_cons_zero, List.set_cons_succ]
                refine Held.takeL (i := 11) (v := ?_) rfl (by kernel_rfl) (by kernel_rfl) (by kernel_rfl) (fun _ _ _ h => h) (.inl ⟨by kernel_rfl, ?_⟩) (by assumption) ?_
                rotate_left
                · (intro w_ hSw; have p18_ := hSw.cell p18 l18 n18; go_simp; first | done | with_reducible rfl)
                try simp only [Act.put, List.setIfInBounds_toArray, List.set_cons_zero, List.set_cons_succ]
                refine wpAnyH_ready (rs := [10]) (by kernel_rfl) (by simp) ?_
                refine Held.consL rfl (fun K hK => ?_) AllReadyH.nil
                go_simp
                refine (HV1.out _ (hr2.kb hHeld.k)).mono ?_
                rintro e_ wv_ ⟨rfl, hbk⟩
                have hH := hHeld.step hbk
                refine hK.out _ _ hH (fun hHeld => ?_)
                clear hK K
                try simp only [Act.put, List.setIfInBounds_toArray, List.set_cons_zero, List.set_cons_succ]
                clear hH hbk
                refine wpAnyH_ready (rs := [12]) (by kernel_rfl) (by simp) ?_
                refine Held.consL rfl (fun K hK => ?_) AllReadyH.nil
                go_simp
                refine (HV2.out _ (hr2.kb hHeld.k)).mono ?_
                rintro e_ wv2_ ⟨rfl, hbk⟩
                have hH := hHeld.step hbk
                refine hK.out _ _ hH (fun hHeld => ?_)
                clear hK K
                try simp only [Act.put, List.setIfInBounds_toArray, List.set_cons_zero, List.set_cons_succ]
                clear hH hbk
                refine Held.takeL (i := 13) (v := ?_) rfl (by kernel_rfl) (by kernel_rfl) (by kernel_rfl) (fun _ _ _ h => h) (.inl ⟨by kernel_rfl, ?_⟩) (by assumption) ?_
                rotate_left
                · (intro w_ hSw; go_simp; first | done | with_reducible rfl)
                try simp only [Act.put, List.setIfInBounds_toArray, List.set_cons_zero, List.set_cons_succ]
                refine Held.takeL (i := 14) (v := ?_) rfl (by kernel_rfl) (by kernel_rfl) (by kernel_rfl) (fun _ _ _ h => h) (.inl ⟨by kernel_rfl, ?_⟩) (by assumption) ?_
                rotate_left
                · (intro w_ hSw; go_simp; first | done | with_reducible rfl)
                try simp only [Act.put, List.setIfInBounds_toArray, List.set_cons_zero, List.set_cons_succ]
                refine wpAnyH_done (by kernel_rfl) ?_ _
                have hG3 := hG2.kg hHeld
                clear hHeld hG2 hr2 p18 hss hee l18 n18 HV1 HV2
                go_wp2_with fail
                refine (spoilt_calls g bs _ hG3.c (by have := HBZ.out; omega)).mono ?_
                rintro e w4_ ⟨sp, rfl, hz1, hk, hc⟩
                have hG4 := hG3.kb hk hc
                have HZ1 := Lib.hid hz1
                have hwz : IntKind.i64.wrap ((bs.size : Int) + 1) = (bs.size : Int) + 1 := IntWalk.i64_in _ (by have := HBZ.out; omega)
                clear hk hc hG3 hz1
                go_wp2_with fail
                refine (next_calls g (bs.size + 1) _ hG4.c (by omega) (by have := HBZ.out; omega)).mono ?_
                rintro e w5_ ⟨k, rfl, hk0, hk1, hk, hc⟩
                obtain ⟨k, rfl⟩ : ∃ m : Nat, k = m := ⟨k.toNat, by omega⟩
                have i1 : (k : Int) ≤ bs.size := by omega
                have i2 : k ≤ bs.size := by omega
                have hN := ((hG4.kb hk hc).sub (L' := [(SB, ysO ys), (B0 + 1, .cells e0.cs 31 (0, 0))]) (Y' := ys) (by intro x hx; exact List.mem_cons_of_mem _ hx) (fun x hx => hx)).new (strC [s, bs, sp, bs.extract 0 k]) 9
                have hall : ∀ x ∈ [s, bs, sp, bs.extract 0 k], x.size ≤ 3000 := by
                  have := HS.out; have := HBZ.out; have := HZ1.out
                  have : (bs.extract 0 k).size ≤ 3000 := by rw [ByteArray.size_extract]; omega
                  intro x hx
                  simp only [List.mem_cons, List.not_mem_nil, or_false] at hx
                  rcases hx with rfl | rfl | rfl | rfl <;> omega
                have HALL := Lib.hid hall
                obtain ⟨TB, hTB⟩ : ∃ D, w5_.heap.size = D := ⟨_, rfl⟩
                obtain ⟨W11, hW11⟩ : ∃ W, w5_.alloc (.cells #[.string s, .string bs, .string sp, .string (bs.extract 0 k)] 9) = W := ⟨_, rfl⟩
                have hS11 : Sy B0 g ((TB, strO [s, bs, sp, bs.extract 0 k]) :: [(SB, ysO ys), (B0 + 1, .cells e0.cs 31 (0, 0))]) ys w W11 := by rw [← hW11, ← hTB]; exact hN
                have HW11 := Lib.hid hW11
                clear hk hc hG4 hN hall hW11
                go_wp2_with fail
                rw [HW11.out]
                try rw [hTB]
                clear HW11 hTB
                obtain ⟨ss, hss⟩ : ∃ ss, [s, bs, sp, bs.extract 0 k] = ss := ⟨_, rfl⟩
                have hsl : ss.length = 4 := by rw [← hss]; rfl
                have HSL := Lib.hid hsl
                rw [hss] at hS11 HALL
                clear hss hsl
                go_loopw [211] (fun i wr => ∃ k : Nat, k ≤ 4 ∧ i = .int .i64 k ∧ Sy B0 g ((TB, strO ss) :: [(SB, ysO ys), (B0 + 1, .cells e0.cs 31 (0, 0))]) ys w wr) (fun i _ => 4 - (intOf i).toNat)
                case atStart => exact ⟨0, by omega, rfl, hS11⟩
                case round =>
                  clear hS11
                  obtain ⟨k, hk4, rfl, hF⟩ := hrel
                  by_cases hkk : k < 4
                  · have hdek : decide ((k : Int) < 4) = true := by simp; omega
                    obtain ⟨x, hx⟩ : ∃ x, ss[k]? = some x := ⟨ss[k]'(by rw [HSL.out]; exact hkk), by simp [HSL.out, hkk]⟩
                    have hcx := str_cell (hF.get (b := TB) (o := strO ss) (by simp)) k x hx
                    have HX := Lib.hid (HALL.out x (List.mem_of_getElem? hx))
                    clear hx
                    go_wp2_with fail
                    refine (decIdx_calls g x wr (by have := HX.out; omega) hF.lt).mono ?_
                    rintro e w16 ⟨a21, n21, c21, rfl, hR21, hb16⟩
                    have HN2 := Lib.hid (fun W hg => decIdx11_calls g x W (by have := HX.out; omega) hg)
                    obtain ⟨⟨lr, er⟩, hd⟩ : ∃ d, decI x = d := ⟨_, rfl⟩
                    rw [hd] at HN2 hR21
                    rw [hd]
                    have hR21 : RwAt w16 g a21 n21 c21 lr := hR21
                    have hS16 := ((hF.step hb16).row hR21).new #[.slice a21 n21 c21] 25
                    obtain ⟨D37, hD37⟩ : ∃ D, w16.heap.size = D := ⟨_, rfl⟩
                    obtain ⟨W16, hW16⟩ : ∃ W, w16.alloc (.cells #[.slice a21 n21 c21] 25) = W := ⟨_, rfl⟩
                    rw [hW16, hD37] at hS16
                    have HW16 := Lib.hid hW16
                    clear hF hb16 hd hR21 hW16 hcx
                    go_wp2_with fail
                    rw [HW16.out]
                    try rw [hD37]
                    refine (HN2.out W16 hS16.lt).mono ?_
                    rintro e w17 ⟨a23, n23, c23, rfl, hR23, hb17⟩
                    have hR23 : RwAt w17 g a23 n23 c23 lr := hR23
                    have hS17 := ((hS16.step hb17).row hR23).new #[.slice a23 n23 c23] 25
                    obtain ⟨D39, hD39⟩ : ∃ D, w17.heap.size = D := ⟨_, rfl⟩
                    obtain ⟨W17, hW17⟩ : ∃ W, w17.alloc (.cells #[.slice a23 n23 c23] 25) = W := ⟨_, rfl⟩
                    rw [hW17, hD39] at hS17
                    have g21 := hS17.get (b := D37) (o := ixO a21 n21 c21) (by simp)
                    have p21 : (w17.alloc (.cells #[.slice a23 n23 c23] 25)).cell? ⟨D37, 0, none⟩ = some (.slice a21 n21 c21) := by rw [hW17, heap_cell g21]; rfl
                    have h23 : RwAt W17 g a23 n23 c23 lr := hS17.y (a23, n23, c23, lr) (by simp)
                    have h21 : RwAt W17 g a21 n21 c21 lr := hS17.y (a21, n21, c21, lr) (by simp)
                    have HW17 := Lib.hid hW17
                    have hne : (er != er) = false := by simp
                    clear hS16 hb17 HW16 HN2 hR23 hW17 g21
                    go_wp2_with fail
                    rw [HW17.out]
                    refine (same_calls g g _ _ _ _ _ _ lr _ h21 h23).mono ?_
                    rintro e w18 ⟨rfl, hb18⟩
                    have hS18 : Sy B0 g ((TB, strO ss) :: [(SB, ysO ys), (B0 + 1, .cells e0.cs 31 (0, 0))]) ys w w18 := (hS17.step hb18).sub (by intro x hx; simp only [List.mem_cons, List.not_mem_nil, or_false] at hx ⊢; rcases hx with rfl | rfl | rfl <;> simp) (fun x hx => List.mem_cons_of_mem _ (List.mem_cons_of_mem _ hx))
                    clear hS17 hb18 h21 h23 p21 HW17
                    go_wp2_with fail
                    go_roundw
                    case rel => exact ⟨k + 1, by omega, by go_num, hS18⟩
                    case measure => simp [intOf]; omega
                  · have hdek : decide ((k : Int) < 4) = false := by simp; omega
                    go_wp2_with fail
                    go_roundw
                    case rel => exact ⟨j + 1, by omega, by go_num, hF.sub (by intro x hx; exact List.mem_cons_of_mem _ hx) (fun x hx => hx)⟩
                    case measure => simp [intOf]; omega
    · have hdec : decide ((j : Int) < 3) = false := by simp; omega
      by_cases hx : 1 ≤ x3 ∧ x3 ≤ 64
      · obtain ⟨m, rfl⟩ : ∃ m : Nat, x3 = m := ⟨x3.toNat, by omega⟩
        go_wp2_with fail
        refine (newIdx_ok m _ (by omega) (by omega)).mono ?_
        rintro e w5 ⟨b1, rfl, hb1, hO1, hbb⟩
        have hS5 := ((hF.step hbb).row (hO1.rw (g := g) (by have := hF.lt; omega))).new #[.slice (some ⟨b1, 0, none⟩) m m] 25
        obtain ⟨D41, hD41⟩ : ∃ D, w5.heap.size = D := ⟨_, rfl⟩
        obtain ⟨W5, hW5⟩ : ∃ W, w5.alloc (.cells #[.slice (some ⟨b1, 0, none⟩) m m] 25) = W := ⟨_, rfl⟩
        rw [hW5, hD41] at hS5
        have HW5 := Lib.hid hW5
        clear hF hbb hO1 hW5
        go_wp2_with fail
        rw [HW5.out]
        try rw [hD41]
        refine (new11_ok m _ (by omega) (by omega)).mono ?_
        rintro e w6 ⟨b2, rfl, hb2, hO2, hbb⟩
        have hS6 := ((hS5.step hbb).row (hO2.rw (g := g) (by have := hS5.lt; omega))).new #[.slice (some ⟨b2, 0, none⟩) m m] 25
        obtain ⟨D43, hD43⟩ : ∃ D, w6.heap.size = D := ⟨_, rfl⟩
        obtain ⟨W6, hW6⟩ : ∃ W, w6.alloc (.cells #[.slice (some ⟨b2, 0, none⟩) m m] 25) = W := ⟨_, rfl⟩
        rw [hW6, hD43] at hS6
        have g41 := hS6.get (b := D41) (o := ixO (some ⟨b1, 0, none⟩) m m) (by simp)
        have p41 : (w6.alloc (.cells #[.slice (some ⟨b2, 0, none⟩) m m] 25)).cell? ⟨D41, 0, none⟩ = some (.slice (some ⟨b1, 0, none⟩) m m) := by rw [hW6, heap_cell g41]; rfl
        have h2 : RwAt W6 g (some ⟨b2, 0, none⟩) m m (List.replicate m Row3.zero) := hS6.y (some ⟨b2, 0, none⟩, m, m, List.replicate m Row3.zero) (by simp)
        have h1 : RwAt W6 g (some ⟨b1, 0, none⟩) m m (List.replicate m Row3.zero) := hS6.y (some ⟨b1, 0, none⟩, m, m, List.replicate m Row3.zero) (by simp)
        have HW6 := Lib.hid hW6
        clear hS5 hbb hO2 hW6 g41 HW5
        go_wp2_with fail
        rw [HW6.out]
        refine (same_calls g g _ _ _ _ _ _ (List.replicate m Row3.zero) _ h1 h2).mono ?_
        rintro e w7 ⟨rfl, hb7⟩
        have hX := Lib.hid (hS6.step hb7).out
        clear hS6 hb7 h1 h2 p41 HW6
        go_wp2_with fail
        go_ret
        exact ⟨rfl, hX.out⟩
      · go_wp2_with fail
        refine (newIdx_bad x3 _ hx).mono ?_
        rintro e w5 ⟨rfl, hbb⟩
        have hS5 := (hF.step hbb).new #[.slice none 0 0] 25
        obtain ⟨D41, hD41⟩ : ∃ D, w5.heap.size = D := ⟨_, rfl⟩
        obtain ⟨W5, hW5⟩ : ∃ W, w5.alloc (.cells #[.slice none 0 0] 25) = W := ⟨_, rfl⟩
        rw [hW5, hD41] at hS5
        have HW5 := Lib.hid hW5
        clear hF hbb hW5
        go_wp2_with fail
        rw [HW5.out]
        try rw [hD41]
        refine (new11_bad x3 _ hx).mono ?_
        rintro e w6 ⟨rfl, hbb⟩
        have hS6 := (hS5.step hbb).new #[.slice none 0 0] 25
        obtain ⟨D43, hD43⟩ : ∃ D, w6.heap.size = D := ⟨_, rfl⟩
        obtain ⟨W6, hW6⟩ : ∃ W, w6.alloc (.cells #[.slice none 0 0] 25) = W := ⟨_, rfl⟩
        rw [hW6, hD43] at hS6
        have g41 := hS6.get (b := D41) (o := ixO none 0 0) (by simp)
        have p41 : (w6.alloc (.cells #[.slice none 0 0] 25)).cell? ⟨D41, 0, none⟩ = some (.slice none 0 0) := by rw [hW6, heap_cell g41]; rfl
        have HW6 := Lib.hid hW6
        clear hS5 hbb hW6 g41 HW5
        go_wp2_with fail
        rw [HW6.out]
        refine (same_calls g g _ _ _ _ _ _ [] _ (RwAt.nil _ _) (RwAt.nil _ _)).mono ?_
        rintro e w7 ⟨rfl, hb7⟩
        have hX := Lib.hid (hS6.step hb7).out
        clear hS6 hb7 p41 HW6
        go_wp2_with fail
        go_ret
        exact ⟨rfl, hX.out⟩
/-- .. as the row asks it. -/
theorem exact_wf (a : Option Addr) (n c : Nat) (ai : Option Addr) (ni ci : Nat) (li : List Row3) (e0 : Ent) (x3 x4 x5 : Int) (s : ByteArray) (w : World) (h : Ls w a n c) (hi : Ri w ai ni ci li) (he0 : EntWf e0) (hx3 : (Lit.int .i64 x3).wf = true) (hx4 : (Lit.int .i64 x4).wf = true) (hx5 : (Lit.int .i64 x5).wf = true) (hs : s.size ≤ 140737488351232) :
    Calls Try.prog 3 #[.slice a n c, .agg #[.slice ai ni ci], .agg e0.cs, .int .i64 x3, .int .i64 x4, .int .i64 x5, .string s] w fun e w' => e = .returned (.bool true) ∧ Below w.heap.size w w' := exact_calls a n c ai ni ci li e0 x3 x4 x5 s w h hi he0 hs
end Go.Proofs.Ytldkgmodmpnclaa
