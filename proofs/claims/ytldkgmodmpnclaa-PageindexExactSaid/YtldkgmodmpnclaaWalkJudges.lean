/- PageindexJudges' walk: program and reference judge alike. -/
import Derived.Test.YtldkgmodmpnclaaJudA
import Derived.Test.YtldkgmodmpnclaaDrawH
import Derived.Test.YtldkgmodmpnclaaArgI
namespace Go.Proofs.Ytldkgmodmpnclaa
open Go.RowKit Go.Proofs
set_option linter.unusedVariables false
set_option linter.unusedSimpArgs false
/-- What a walk keeps: blocks, and rows of indices. -/
structure Sy (B g : Nat) (L : List (Nat × Obj)) (Y : List (Option Addr × Nat × Nat × List Row3)) (w0 w : World) : Prop where
  f : Fx B g L w0 w
  y : ∀ p ∈ Y, RwAt w g p.1 p.2.1 p.2.2.1 p.2.2.2
namespace Sy
variable {B g : Nat} {L : List (Nat × Obj)} {Y : List (Option Addr × Nat × Nat × List Row3)} {w0 w w' : World}
theorem c (h : Sy B g L Y w0 w) : Cs w g := h.f.c
theorem lt (h : Sy B g L Y w0 w) : g < w.heap.size := h.f.f.lt
theorem out (h : Sy B g L Y w0 w) : Below B w0 w := h.f.out
theorem kb (h : Sy B g L Y w0 w) (hk : KB g w w') (hc : Cs w' g) : Sy B g L Y w0 w' := ⟨h.f.kb hk hc, fun p hp => (h.y p hp).kb hk⟩
theorem kg (h : Sy B g L Y w0 w) (hk : Kg g w w') : Sy B g L Y w0 w' := h.kb hk.k hk.c
theorem step (h : Sy B g L Y w0 w) (hb : Below w.heap.size w w') : Sy B g L Y w0 w' := ⟨h.f.step hb, fun p hp => (h.y p hp).below hb⟩
theorem alloc (h : Sy B g L Y w0 w) (o : Obj) : Sy B g L Y w0 (w.alloc o) := h.step ((Below.refl _ _).alloc (Nat.le_refl _) o)
theorem drew (h : Sy B g L Y w0 w) : Sy B g L Y w0 w.drew := h.step (Below.refl _ _).drew
theorem new (h : Sy B g L Y w0 w) (cs : Array Value) (t : TypeId) : Sy B g ((w.heap.size, .cells cs t (0, 0)) :: L) Y w0 (w.alloc (.cells cs t (0, 0))) :=
  ⟨h.f.new cs t, fun p hp => (h.y p hp).alloc _⟩
theorem row (h : Sy B g L Y w0 w) {a : Option Addr} {n c : Nat} {l : List Row3} (hr : RwAt w g a n c l) : Sy B g L ((a, n, c, l) :: Y) w0 w :=
  ⟨h.f, fun p hp => by
    rcases List.mem_cons.1 hp with rfl | hp
    · exact hr
    · exact h.y p hp⟩
theorem get (h : Sy B g L Y w0 w) {b : Nat} {o : Obj} (hx : (b, o) ∈ L) : w.heap[b]? = some o := h.f.get hx
theorem ne (h : Sy B g L Y w0 w) {b : Nat} {o : Obj} (hx : (b, o) ∈ L) : b ≠ g := (h.f.m _ hx).1
theorem sub (h : Sy B g L Y w0 w) {L' : List (Nat × Obj)} {Y' : List (Option Addr × Nat × Nat × List Row3)} (hs : ∀ x ∈ L', x ∈ L) (hy : ∀ x ∈ Y', x ∈ Y) : Sy B g L' Y' w0 w := ⟨h.f.sub hs, fun p hp => h.y p (hy p hp)⟩
end Sy
abbrev ixO (a : Option Addr) (n c : Nat) : Obj := .cells #[.slice a n c] 25 (0, 0)
def psL (ps : List (Int × Int)) : List Value := ps.flatMap fun q => [.int .i64 q.1, .int .i64 q.2]
def psC (ps : List (Int × Int)) : Array Value := (psL ps).toArray
abbrev psO (ps : List (Int × Int)) : Obj := .cells (psC ps) 66 (0, 0)
theorem psL_get : ∀ (ps : List (Int × Int)) (j : Nat) (q : Int × Int), ps[j]? = some q → (psL ps)[j * 2]? = some (.int .i64 q.1) ∧ (psL ps)[j * 2 + 1]? = some (.int .i64 q.2)
  | [], _, _, h => by simp at h
  | p :: ps, 0, q, h => by
    obtain rfl : p = q := by simpa using h
    exact ⟨rfl, rfl⟩
  | p :: ps, j + 1, q, h => by
    have := psL_get ps j q (by simpa using h)
    have e : psL (p :: ps) = .int .i64 p.1 :: .int .i64 p.2 :: psL ps := rfl
    rw [e, show (j + 1) * 2 = j * 2 + 1 + 1 by omega]
    simpa using this
theorem ps_cell {w : World} {b : Nat} {ps : List (Int × Int)} (h : w.heap[b]? = some (psO ps)) (j : Nat) (q : Int × Int) (hq : ps[j]? = some q) : w.cell? ⟨b, j * 2, none⟩ = some (.int .i64 q.1) ∧ w.cell? ⟨b, j * 2 + 1, none⟩ = some (.int .i64 q.2) := by
  obtain ⟨h1, h2⟩ := psL_get ps j q hq
  exact ⟨by rw [heap_cell h]; simpa [psC] using h1, by rw [heap_cell h]; simpa [psC] using h2⟩
def ysC (ys : List (Option Addr × Nat × Nat × List Row3)) : Array Value := (ys.map fun y => Value.slice y.1 y.2.1 y.2.2.1).toArray
abbrev ysO (ys : List (Option Addr × Nat × Nat × List Row3)) : Obj := .cells (ysC ys) 25 (0, 0)
theorem ys_cell {w : World} {b : Nat} {ys : List (Option Addr × Nat × Nat × List Row3)} (h : w.heap[b]? = some (ysO ys)) (j : Nat) (y : Option Addr × Nat × Nat × List Row3) (hy : ys[j]? = some y) : w.cell? ⟨b, j, none⟩ = some (.slice y.1 y.2.1 y.2.2.1) := by
  rw [heap_cell h]
  simp [ysC, hy]
set_option maxHeartbeats 8000000 in
set_option maxRecDepth 100000 in
theorem judges_calls (a : Option Addr) (n c : Nat) (ai : Option Addr) (ni ci : Nat) (li : List Row3) (x2 x3 : Int) (s : ByteArray) (w : World) (h : Ls w a n c) (hi : Ri w ai ni ci li) (hs : s.size ≤ 140737488351232) :
    Calls Try.prog 6 #[.slice a n c, .agg #[.slice ai ni ci], .int .i64 x2, .int .i64 x3, .string s] w fun e w' => e = .returned (.bool true) ∧ Below w.heap.size w w' := by
  obtain ⟨B0, hB0⟩ : ∃ B, w.heap.size = B := ⟨_, rfl⟩
  rw [hB0]
  have hqA := heap_alloc_new w (ixO ai ni ci)
  have hbA := (Below.refl w.heap.size w).alloc (Nat.le_refl _) (ixO ai ni ci)
  rw [hB0] at hqA hbA
  have h := h.keep ((Below.refl w.heap.size w).alloc (Nat.le_refl _) (ixO ai ni ci))
  go_enter Try.func6, Try.ntmps6
  go_wp2_with fail
  obtain ⟨wa, hwa⟩ : ∃ wa, w.alloc (ixO ai ni ci) = wa := ⟨_, rfl⟩
  have hsa : wa.heap.size = B0 + 1 := by rw [← hwa]; simp [hB0]
  rw [hwa] at hqA hbA h
  try rw [hwa]
  clear hwa
  refine (awake11_calls _).mono ?_
  rintro e w1 ⟨rfl, hb1⟩
  have hs1 := hb1.size
  have hq1 := (hb1.block B0 (by omega)).trans hqA
  have hc1 : w1.cell? ⟨B0, 0, none⟩ = some (.slice ai ni ci) := by rw [heap_cell hq1]; rfl
  have hbw1 : Below B0 w w1 := hbA.trans (hb1.mono (by omega))
  have hL := h.keep hb1
  clear hqA hbA hb1 h
  by_cases t1 : 100 < ni
  · have d1 : decide (100 < ni) = true := by simpa using t1
    have d2 : decide ((100 : Int) < ni) = true := by simp; omega
    have hX := Lib.hid hbw1
    clear hbw1 hq1 hL hi
    cases d3 : decide ((600 : Int) < s.size)
    all_goals
      go_wp2_with fail
      go_ret
      exact ⟨rfl, hX.out⟩
  have d1 : decide (100 < ni) = false := by simpa using t1
  have d2 : decide ((100 : Int) < ni) = false := by simp; omega
  by_cases t2 : 600 < s.size
  · have d3 : decide (600 < s.size) = true := by simpa using t2
    have d4 : decide ((600 : Int) < s.size) = true := by simp; omega
    have hX := Lib.hid hbw1
    clear hbw1 hq1 hL hi
    go_wp2_with fail
    go_ret
    exact ⟨rfl, hX.out⟩
  have d3 : decide (600 < s.size) = false := by simpa using t2
  have d4 : decide ((600 : Int) < s.size) = false := by simp; omega
  have HS := Lib.hid t2
  clear t1 t2 hs
  go_wp2_with fail
  refine (newCodes_calls a n c 200 _ hL (by omega)).mono ?_
  rintro e w2 ⟨g, rfl, hg, hb2, hc2⟩
  have hF2 : Fr B0 g w w2 := Fr.of (hbw1.trans (hb2.mono (by omega))) hc2 (by omega)
  have hgB : B0 < g := by omega
  have hI2 : RwAt w2 g ai ni ci li := hi.keep (by rw [hB0]; exact hF2.out) (by omega)
  have hq2 : w2.heap[B0]? = some (ixO ai ni ci) := (hb2.block B0 (by omega)).trans hq1
  have hS2 : Sy B0 g [(B0, ixO ai ni ci)] [(ai, ni, ci, li)] w w2 := Sy.row ⟨(Fx.of hF2).add hq2 (by omega), fun p hp => by cases hp⟩ hI2
  clear hbw1 hb2 hc2 hF2 hI2 hq2 hq1 hc1 hL hi hg d1 d2 d3 d4
  go_wp2_with fail
  refine (index_calls g _ hS2.c).mono ?_
  rintro e w3 ⟨b, N, l2, rfl, hb, hO, _, hn1, hn5, hk, hc⟩
  have hR := hO.rw (g := g) (by have := hS2.lt; omega)
  have hS3 := ((hS2.kb hk hc).row hR).new #[.slice (some ⟨b, 0, none⟩) N N] 25
  obtain ⟨D12, hD12⟩ : ∃ D, w3.heap.size = D := ⟨_, rfl⟩
  obtain ⟨W3, hW3⟩ : ∃ W, w3.alloc (ixO (some ⟨b, 0, none⟩) N N) = W := ⟨_, rfl⟩
  rw [hW3, hD12] at hS3
  have HW3 := Lib.hid hW3
  clear hk hc hS2 hO hR hW3 hb
  go_wp2_with fail
  rw [HW3.out]
  try rw [hD12]
  refine (next_calls g 5 _ hS3.c (by omega) (by omega)).mono ?_
  rintro e w4 ⟨id, rfl, hi0, hi1, hk, hc⟩
  have hS4 := hS3.kb hk hc
  clear hk hc hS3 HW3 hD12
  go_wp2_with fail
  refine (cpage_calls g id _ hS4.c).mono ?_
  rintro e w5 ⟨p, rfl, hpid, hpl, hpc, hk, hc⟩
  have hok : pageOk p = true := by
    unfold pageOk placed named
    rw [hpid, hpl, hpc]
    simp [hi0]
    omega
  have hS5 := (hS4.kb hk hc).new (pageC p) 59
  have HE := Lib.hid (fun W => encode02_calls p W)
  rw [pageErr_ok hok] at HE
  have hz := encP_size hok
  obtain ⟨gd, hgd⟩ : ∃ gd, encP p = gd := ⟨_, rfl⟩
  rw [hgd] at HE hz
  have HZ := Lib.hid hz
  obtain ⟨D13, hD13⟩ : ∃ D, w5.heap.size = D := ⟨_, rfl⟩
  obtain ⟨W5, hW5⟩ : ∃ W, w5.alloc (.cells (pageC p) 59) = W := ⟨_, rfl⟩
  rw [hW5, hD13] at hS5
  have hQ5 : PgAt W5 D13 p := hS5.f.hd
  have HW5 := Lib.hid hW5
  clear hk hc hS4 hpl hpc hok hgd hz hW5
  go_wp2_with (first
    | (refine wpList_alloc_row rfl 59 rfl (pageC Page.zero) zero59 ?_)
    | (refine wpList_store_row rfl 59 (.tmp 13) (.tmp 55) rfl _ (pageC p) rfl rfl _ _ (heap_alloc_new _ _) (page_size _) (by simp only [pageC_size]) (pageC_oneCell _) ?_; rw [World.setRow_alloc_new, HW5.out])
    | (refine wpList_load_row rfl 59 (.tmp 13) rfl D13 (by first | rfl | (rw [hD13]; rfl)) _ _ _ _ hQ5.out Try.underlying59 rfl (page_size _) ?_))
  try rw [hD13]
  refine (HE.out _).mono ?_
  rintro e w6 ⟨rfl, hb6⟩
  have hS6 := hS5.step hb6
  have q0 := hS6.get (b := B0) (o := ixO ai ni ci) (by simp)
  have q12 := hS6.get (b := D12) (o := ixO (some ⟨b, 0, none⟩) N N) (by simp)
  have e0 : w6.cell? ⟨B0, 0, none⟩ = some (.slice ai ni ci) := by rw [heap_cell q0]; rfl
  have e12 : w6.cell? ⟨D12, 0, none⟩ = some (.slice (some ⟨b, 0, none⟩) N N) := by rw [heap_cell q12]; rfl
  have n12 : D12 ≠ g := hS6.ne (b := D12) (o := ixO (some ⟨b, 0, none⟩) N N) (by simp)
  have hRi : RwAt w6 g ai ni ci li := hS6.y (ai, ni, ci, li) (by simp)
  have hR2 : RwAt w6 g (some ⟨b, 0, none⟩) N N l2 := hS6.y (some ⟨b, 0, none⟩, N, N, l2) (by simp)
  have l0 := heap_lt q0
  have l12 := heap_lt q12
  clear hS5 hQ5 HW5 hb6 HE hD13
  go_wp2_with fail
  refine wp_region_held_drew (S := Kg g w6) (by kernel_rfl) (Kg.start hS6.c) (fun hHeld => ?_)
  refine Held.takeL (i := 0) (v := ?_) rfl (by kernel_rfl) (by kernel_rfl) (by kernel_rfl) (fun _ _ _ h => h) (.inl ⟨by kernel_rfl, ?_⟩) (by assumption) ?_
  rotate_left
  · (intro w_ hSw; have e0_ := hSw.cell e0 l0 (by omega); have e12_ := hSw.cell e12 l12 n12; go_simp; first | done | with_reducible rfl)
  try simp only [Act.put, List.setIfInBounds_toArray, List.set_cons_zero, List.set_cons_succ]
  refine Held.takeL (i := 1) (v := ?_) rfl (by kernel_rfl) (by kernel_rfl) (by kernel_rfl) (fun _ _ _ h => h) (.inl ⟨by kernel_rfl, ?_⟩) (by assumption) ?_
  rotate_left
  · (intro w_ hSw; have e0_ := hSw.cell e0 l0 (by omega); have e12_ := hSw.cell e12 l12 n12; go_simp; first | done | with_reducible rfl)
  try simp only [Act.put, List.setIfInBounds_toArray, List.set_cons_zero, List.set_cons_succ]
  refine Held.takeL (i := 2) (v := ?_) rfl (by kernel_rfl) (by kernel_rfl) (by kernel_rfl) (fun _ _ _ h => h) (.inl ⟨by kernel_rfl, ?_⟩) (by assumption) ?_
  rotate_left
  · (intro w_ hSw; go_simp; first | done | with_reducible rfl)
  try simp only [Act.put, List.setIfInBounds_toArray, List.set_cons_zero, List.set_cons_succ]
  refine Held.takeL (i := 3) (v := ?_) rfl (by kernel_rfl) (by kernel_rfl) (by kernel_rfl) (fun _ _ _ h => h) (.inl ⟨by kernel_rfl, ?_⟩) (by assumption) ?_
  rotate_left
  · (intro w_ hSw; have e0_ := hSw.cell e0 l0 (by omega); have e12_ := hSw.cell e12 l12 n12; go_simp; first | done | with_reducible rfl)
  try simp only [Act.put, List.setIfInBounds_toArray, List.set_cons_zero, List.set_cons_succ]
  refine Held.takeL (i := 7) (v := ?_) rfl (by kernel_rfl) (by kernel_rfl) (by kernel_rfl) (fun _ _ _ h => h) (.inl ⟨by kernel_rfl, ?_⟩) (by assumption) ?_
  rotate_left
  · (intro w_ hSw; go_simp; first | done | with_reducible rfl)
  try simp only [Act.put, List.setIfInBounds_toArray, List.set_cons_zero, List.set_cons_succ]
  refine wpAnyH_ready (rs := [4]) (by kernel_rfl) (by simp) ?_
  refine Held.consL rfl (fun K hK => ?_) AllReadyH.nil
  go_simp
  refine (odd_calls g _ N N l2 _ hHeld.c (hR2.kb hHeld.k) (by omega) (by omega)).mono ?_
  rintro e_ w7 ⟨a3, n3, c3, l3, rfl, hR3, hn31, hn32, hk, hc⟩
  have hH := hHeld.kb hk hc
  refine hK.out _ _ hH (fun hHeld => ?_)
  clear hK K
  try simp only [Act.put, List.setIfInBounds_toArray, List.set_cons_zero, List.set_cons_succ]
  have hS7 := ((hS6.kg hHeld).row hR3).new #[.slice ai ni ci, .slice (some ⟨b, 0, none⟩) N N, .slice a3 n3 c3] 25
  clear hH hk hc
  refine wpAnyH_ready (rs := [5]) (by kernel_rfl) (by simp) ?_
  refine Held.consL rfl (fun K hK => ?_) AllReadyH.nil
  go_simp
  refine hK.out _ _ (hHeld.step ((Below.refl _ _).alloc (Nat.le_refl _) _)) (fun hHeld => ?_)
  clear hK K
  try simp only [Act.put, List.setIfInBounds_toArray, List.set_cons_zero, List.set_cons_succ]
  refine Held.takeL (i := 6) (v := ?_) rfl (by kernel_rfl) (by kernel_rfl) (by kernel_rfl) (fun _ _ _ h => h) (.inl ⟨by kernel_rfl, ?_⟩) (by assumption) ?_
  rotate_left
  · (intro w_ hSw; go_simp; first | done | with_reducible rfl)
  try simp only [Act.put, List.setIfInBounds_toArray, List.set_cons_zero, List.set_cons_succ]
  refine wpAnyH_done (by kernel_rfl) ?_ _
  clear hHeld hS6 hR3 hR2 hRi q0 q12 e0 e12 n12 l0 l12
  obtain ⟨SB, hSB⟩ : ∃ D, w7.heap.size = D := ⟨_, rfl⟩
  obtain ⟨W7, hW7⟩ : ∃ W, w7.alloc (.cells #[.slice ai ni ci, .slice (some ⟨b, 0, none⟩) N N, .slice a3 n3 c3] 25) = W := ⟨_, rfl⟩
  rw [hW7, hSB] at hS7
  rw [hW7]
  try rw [hSB]
  obtain ⟨ys, hys⟩ : ∃ ys : List (Option Addr × Nat × Nat × List Row3), [(ai, ni, ci, li), (some ⟨b, 0, none⟩, N, N, l2), (a3, n3, c3, l3)] = ys := ⟨_, rfl⟩
  have hyl : ys.length = 3 := by rw [← hys]; rfl
  have hS8 : Sy B0 g [(SB, ysO ys), (D13, pgO p)] ys w W7 := by
    rw [← hys]
    exact hS7.sub (by intro x hx; simp only [List.mem_cons, List.not_mem_nil, or_false] at hx ⊢; rcases hx with rfl | rfl; (exact .inl rfl); (exact .inr (.inl rfl))) (by intro x hx; simp only [List.mem_cons, List.not_mem_nil, or_false] at hx ⊢; rcases hx with rfl | rfl | rfl <;> simp)
  clear hS7 hW7 hSB hys
  have HYL := Lib.hid hyl
  clear hyl
  go_wp2_with fail
  go_loopw [68] (fun i wr => ∃ j : Nat, j ≤ 3 ∧ i = .int .i64 j ∧ Sy B0 g [(SB, ysO ys), (D13, pgO p)] ys w wr) (fun i _ => 3 - (intOf i).toNat)
  case atStart => exact ⟨0, by omega, rfl, hS8⟩
  case round =>
    clear hS8
    obtain ⟨j, hj, rfl, hF⟩ := hrel
    by_cases hj3 : j < 3
    · have hdec : decide ((j : Int) < 3) = true := by simp; omega
      obtain ⟨⟨ay, ny, cy, ly⟩, hy⟩ : ∃ y, ys[j]? = some y := ⟨ys[j]'(by rw [HYL.out]; exact hj3), by simp [HYL.out, hj3]⟩
      have hcy := ys_cell (hF.get (b := SB) (o := ysO ys) (by simp)) j _ hy
      have hmy := List.mem_of_getElem? hy
      have hS9 := hF.new #[.slice ay ny cy] 25
      obtain ⟨D17, hD17⟩ : ∃ D, wr.heap.size = D := ⟨_, rfl⟩
      obtain ⟨W9, hW9⟩ : ∃ W, wr.alloc (.cells #[.slice ay ny cy] 25) = W := ⟨_, rfl⟩
      rw [hW9, hD17] at hS9
      have HW9 := Lib.hid hW9
      have HMY := Lib.hid hmy
      clear hF hW9 hy hmy
      go_wp2_with fail
      rw [HW9.out]
      try rw [hD17]
      refine (spoilt_calls g gd _ hS9.c (by have := HZ.out; omega)).mono ?_
      rintro e w10 ⟨sp, rfl, hz1, hk, hc⟩
      have hS10 := hS9.kb hk hc
      have HZ1 := Lib.hid hz1
      have hzz := zeros_size 256
      obtain ⟨z, hz⟩ : ∃ z, zeros 256 = z := ⟨_, rfl⟩
      have hB2 := Lib.hid (fun W => blank02_calls W)
      rw [hz] at hzz hB2
      have HZZ := Lib.hid hzz
      clear hk hc hS9 hz1 HW9 hD17 hcy hz hzz
      go_wp2_with fail
      refine (hB2.out _).mono ?_
      rintro e w11 ⟨rfl, hb11⟩
      have hN := (hS10.step hb11).new (strC [s, gd, sp, z]) 9
      have hall : ∀ x ∈ [s, gd, sp, z], x.size ≤ 1000 := by
        have := HS.out; have := HZ.out; have := HZ1.out; have := HZZ.out
        intro x hx
        simp only [List.mem_cons, List.not_mem_nil, or_false] at hx
        rcases hx with rfl | rfl | rfl | rfl <;> omega
      have HALL := Lib.hid hall
      clear hS10 hb11 hall hB2
      obtain ⟨TB, hTB⟩ : ∃ D, w11.heap.size = D := ⟨_, rfl⟩
      obtain ⟨W11, hW11⟩ : ∃ W, w11.alloc (.cells #[.string s, .string gd, .string sp, .string z] 9) = W := ⟨_, rfl⟩
      have hS11 : Sy B0 g [(TB, strO [s, gd, sp, z]), (D17, ixO ay ny cy), (SB, ysO ys), (D13, pgO p)] ys w W11 := by rw [← hW11, ← hTB]; exact hN
      have HW11 := Lib.hid hW11
      clear hN hW11
      go_wp2_with fail
      rw [HW11.out]
      try rw [hTB]
      clear HW11 hTB
      obtain ⟨ss, hss⟩ : ∃ ss, [s, gd, sp, z] = ss := ⟨_, rfl⟩
      have hsl : ss.length = 4 := by rw [← hss]; rfl
      have HSL := Lib.hid hsl
      rw [hss] at hS11 HALL
      clear hss hsl
      go_loopw [80] (fun i wr => ∃ k : Nat, k ≤ 4 ∧ i = .int .i64 k ∧ Sy B0 g [(TB, strO ss), (D17, ixO ay ny cy), (SB, ysO ys), (D13, pgO p)] ys w wr) (fun i _ => 4 - (intOf i).toNat)
      case atStart => exact ⟨0, by omega, rfl, hS11⟩
      case round =>
        clear hS11
        obtain ⟨k, hk4, rfl, hF⟩ := hrel
        by_cases hkk : k < 4
        · have hdek : decide ((k : Int) < 4) = true := by simp; omega
          obtain ⟨x, hx⟩ : ∃ x, ss[k]? = some x := ⟨ss[k]'(by rw [HSL.out]; exact hkk), by simp [HSL.out, hkk]⟩
          have hcx := str_cell (hF.get (b := TB) (o := strO ss) (by simp)) k x hx
          have HX := Lib.hid (HALL.out x (List.mem_of_getElem? hx))
          have hQ := hF.get (b := D13) (o := pgO p) (by simp)
          have lid : wr.cell? ⟨D13, 0, none⟩ = some (.int .i64 p.id) := PgAt.id hQ
          have n13 : D13 ≠ g := hF.ne (b := D13) (o := pgO p) (by simp)
          have l13 := heap_lt hQ
          clear hx hQ
          go_wp2_with fail
          try simp only [Act.put, List.setIfInBounds_toArray, List.set_cons_zero, List.set_cons_succ]
          refine wp_region_held_drew (S := Kg g wr) (by kernel_rfl) (Kg.start hF.c) (fun hHeld => ?_)
          refine Held.takeL (i := 0) (v := ?_) rfl (by kernel_rfl) (by kernel_rfl) (by kernel_rfl) (fun _ _ _ h => h) (.inl ⟨by kernel_rfl, ?_⟩) (by assumption) ?_
          rotate_left
          · (intro w_ hSw; go_simp; first | done | with_reducible rfl)
          try simp only [Act.put, List.setIfInBounds_toArray, List.set_cons_zero, List.set_cons_succ]
          refine Held.takeL (i := 1) (v := ?_) rfl (by kernel_rfl) (by kernel_rfl) (by kernel_rfl) (fun _ _ _ h => h) (.inl ⟨by kernel_rfl, ?_⟩) (by assumption) ?_
          rotate_left
          · (intro w_ hSw; go_simp; first | done | with_reducible rfl)
          try simp only [Act.put, List.setIfInBounds_toArray, List.set_cons_zero, List.set_cons_succ]
          refine Held.takeL (i := 2) (v := ?_) rfl (by kernel_rfl) (by kernel_rfl) (by kernel_rfl) (fun _ _ _ h => h) (.inl ⟨by kernel_rfl, ?_⟩) (by assumption) ?_
          rotate_left
          · (intro w_ hSw; go_simp; first | done | with_reducible rfl)
          try simp only [Act.put, List.setIfInBounds_toArray, List.set_cons_zero, List.set_cons_succ]
          refine Held.takeL (i := 3) (v := ?_) rfl (by kernel_rfl) (by kernel_rfl) (by kernel_rfl) (fun _ _ _ h => h) (.inl ⟨by kernel_rfl, ?_⟩) (by assumption) ?_
          rotate_left
          · (intro w_ hSw; go_simp; first | done | with_reducible rfl)
          try simp only [Act.put, List.setIfInBounds_toArray, List.set_cons_zero, List.set_cons_succ]
          refine Held.takeL (i := 4) (v := ?_) rfl (by kernel_rfl) (by kernel_rfl) (by kernel_rfl) (fun _ _ _ h => h) (.inl ⟨by kernel_rfl, ?_⟩) (by assumption) ?_
          rotate_left
          · (intro w_ hSw; have lid_ := hSw.cell lid l13 n13; go_simp; first | done | with_reducible rfl)
          try simp only [Act.put, List.setIfInBounds_toArray, List.set_cons_zero, List.set_cons_succ]
          refine Held.takeL (i := 5) (v := ?_) rfl (by kernel_rfl) (by kernel_rfl) (by kernel_rfl) (fun _ _ _ h => h) (.inl ⟨by kernel_rfl, ?_⟩) (by assumption) ?_
          rotate_left
          · (intro w_ hSw; go_simp; first | done | with_reducible rfl)
          try simp only [Act.put, List.setIfInBounds_toArray, List.set_cons_zero, List.set_cons_succ]
          refine Held.takeL (i := 6) (v := ?_) rfl (by kernel_rfl) (by kernel_rfl) (by kernel_rfl) (fun _ _ _ h => h) (.inl ⟨by kernel_rfl, ?_⟩) (by assumption) ?_
          rotate_left
          · (intro w_ hSw; go_simp; first | done | with_reducible rfl)
          try simp only [Act.put, List.setIfInBounds_toArray, List.set_cons_zero, List.set_cons_succ]
          refine Held.takeL (i := 7) (v := ?_) rfl (by kernel_rfl) (by kernel_rfl) (by kernel_rfl) (fun _ _ _ h => h) (.inl ⟨by kernel_rfl, ?_⟩) (by assumption) ?_
          rotate_left
          · (intro w_ hSw; go_simp; first | done | with_reducible rfl)
          try simp only [Act.put, List.setIfInBounds_toArray, List.set_cons_zero, List.set_cons_succ]
          refine Held.takeL (i := 8) (v := ?_) rfl (by kernel_rfl) (by kernel_rfl) (by kernel_rfl) (fun _ _ _ h => h) (.inl ⟨by kernel_rfl, ?_⟩) (by assumption) ?_
          rotate_left
          · (intro w_ hSw; have lid_ := hSw.cell lid l13 n13; go_simp; first | done | with_reducible rfl)
          try simp only [Act.put, List.setIfInBounds_toArray, List.set_cons_zero, List.set_cons_succ]
          refine Held.takeL (i := 9) (v := ?_) rfl (by kernel_rfl) (by kernel_rfl) (by kernel_rfl) (fun _ _ _ h => h) (.inl ⟨by kernel_rfl, ?_⟩) (by assumption) ?_
          rotate_left
          · (intro w_ hSw; go_simp; first | done | with_reducible rfl)
          try simp only [Act.put, List.setIfInBounds_toArray, List.set_cons_zero, List.set_cons_succ]
          refine Held.takeL (i := 12) (v := ?_) rfl (by kernel_rfl) (by kernel_rfl) (by kernel_rfl) (fun _ _ _ h => h) (.inl ⟨by kernel_rfl, ?_⟩) (by assumption) ?_
          rotate_left
          · (intro w_ hSw; go_simp; first | done | with_reducible rfl)
          try simp only [Act.put, List.setIfInBounds_toArray, List.set_cons_zero, List.set_cons_succ]
          refine Held.takeL (i := 14) (v := ?_) rfl (by kernel_rfl) (by kernel_rfl) (by kernel_rfl) (fun _ _ _ h => h) (.inl ⟨by kernel_rfl, ?_⟩) (by assumption) ?_
          rotate_left
          · (intro w_ hSw; go_simp; first | done | with_reducible rfl)
          try simp only [Act.put, List.setIfInBounds_toArray, List.set_cons_zero, List.set_cons_succ]
          refine Held.takeL (i := 19) (v := ?_) rfl (by kernel_rfl) (by kernel_rfl) (by kernel_rfl) (fun _ _ _ h => h) (.inl ⟨by kernel_rfl, ?_⟩) (by assumption) ?_
          rotate_left
          · (intro w_ hSw; go_simp; first | done | with_reducible rfl)
          try simp only [Act.put, List.setIfInBounds_toArray, List.set_cons_zero, List.set_cons_succ]
          refine wpAnyH_ready (rs := [10]) (by kernel_rfl) (by simp) ?_
          refine Held.consL rfl (fun K hK => ?_) AllReadyH.nil
          go_simp
          refine (next_calls g 60 _ hHeld.c (by omega) (by omega)).mono ?_
          rintro e_ w_v1 ⟨v1, rfl, hv10, hv11, hk, hc⟩
          have hH := hHeld.kb hk hc
          refine hK.out _ _ hH (fun hHeld => ?_)
          clear hK K
          try simp only [Act.put, List.setIfInBounds_toArray, List.set_cons_zero, List.set_cons_succ]
          clear hH hk hc
          refine Held.takeL (i := 11) (v := ?_) rfl (by kernel_rfl) (by kernel_rfl) (by kernel_rfl) (fun _ _ _ h => h) (.inl ⟨by kernel_rfl, ?_⟩) (by assumption) ?_
          rotate_left
          · (intro w_ hSw; go_simp; first | done | with_reducible rfl)
          try simp only [Act.put, List.setIfInBounds_toArray, List.set_cons_zero, List.set_cons_succ]
          refine wpAnyH_ready (rs := [13]) (by kernel_rfl) (by simp) ?_
          refine Held.consL rfl (fun K hK => ?_) AllReadyH.nil
          go_simp
          refine (next_calls g 6 _ hHeld.c (by omega) (by omega)).mono ?_
          rintro e_ w_v2 ⟨v2, rfl, hv20, hv21, hk, hc⟩
          have hH := hHeld.kb hk hc
          refine hK.out _ _ hH (fun hHeld => ?_)
          clear hK K
          try simp only [Act.put, List.setIfInBounds_toArray, List.set_cons_zero, List.set_cons_succ]
          clear hH hk hc
          refine wpAnyH_ready (rs := [15]) (by kernel_rfl) (by simp) ?_
          refine Held.consL rfl (fun K hK => ?_) AllReadyH.nil
          go_simp
          refine (next_calls g 60 _ hHeld.c (by omega) (by omega)).mono ?_
          rintro e_ w_v3 ⟨v3, rfl, hv30, hv31, hk, hc⟩
          have hH := hHeld.kb hk hc
          refine hK.out _ _ hH (fun hHeld => ?_)
          clear hK K
          try simp only [Act.put, List.setIfInBounds_toArray, List.set_cons_zero, List.set_cons_succ]
          have hS13 := (hF.kg hHeld).new (psC [(x2, x3), (id, x3), (id, v1), (v2, v3)]) 66
          clear hH hk hc
          refine Held.takeL (i := 16) (v := ?_) rfl (by kernel_rfl) (by kernel_rfl) (by kernel_rfl) (fun _ _ _ h => h) (.inl ⟨by kernel_rfl, ?_⟩) (by assumption) ?_
          rotate_left
          · (intro w_ hSw; go_simp; first | done | with_reducible rfl)
          try simp only [Act.put, List.setIfInBounds_toArray, List.set_cons_zero, List.set_cons_succ]
          refine wpAnyH_ready (rs := [17]) (by kernel_rfl) (by simp) ?_
          refine Held.consL rfl (fun K hK => ?_) AllReadyH.nil
          go_simp
          refine hK.out _ _ (hHeld.step ((Below.refl _ _).alloc (Nat.le_refl _) _)) (fun hHeld => ?_)
          clear hK K
          try simp only [Act.put, List.setIfInBounds_toArray, List.set_cons_zero, List.set_cons_succ]
          refine Held.takeL (i := 18) (v := ?_) rfl (by kernel_rfl) (by kernel_rfl) (by kernel_rfl) (fun _ _ _ h => h) (.inl ⟨by kernel_rfl, ?_⟩) (by assumption) ?_
          rotate_left
          · (intro w_ hSw; go_simp; first | done | with_reducible rfl)
          try simp only [Act.put, List.setIfInBounds_toArray, List.set_cons_zero, List.set_cons_succ]
          refine wpAnyH_done (by kernel_rfl) ?_ _
          clear hHeld
          obtain ⟨PB, hPB⟩ : ∃ D, w_v3.heap.size = D := ⟨_, rfl⟩
          obtain ⟨W13, hW13⟩ : ∃ W, w_v3.alloc (.cells #[.int .i64 x2, .int .i64 x3, .int .i64 id, .int .i64 x3, .int .i64 id, .int .i64 v1, .int .i64 v2, .int .i64 v3] 66) = W := ⟨_, rfl⟩
          have hS14 : Sy B0 g [(PB, psO [(x2, x3), (id, x3), (id, v1), (v2, v3)]), (TB, strO ss), (D17, ixO ay ny cy), (SB, ysO ys), (D13, pgO p)] ys w W13 := by rw [← hW13, ← hPB]; exact hS13
          rw [hW13]
          try rw [hPB]
          obtain ⟨ps, hps⟩ : ∃ ps, [(x2, x3), (id, x3), (id, v1), (v2, v3)] = ps := ⟨_, rfl⟩
          have hpsl : ps.length = 4 := by rw [← hps]; rfl
          rw [hps] at hS14
          have HPL := Lib.hid hpsl
          clear hS13 hPB hW13 hps hpsl hF lid n13 l13 hcx
          go_wp2_with fail
          go_loopw [103] (fun i wr => ∃ m : Nat, m ≤ 4 ∧ i = .int .i64 m ∧ Sy B0 g [(PB, psO ps), (TB, strO ss), (D17, ixO ay ny cy), (SB, ysO ys), (D13, pgO p)] ys w wr) (fun i _ => 4 - (intOf i).toNat)
          case atStart => exact ⟨0, by omega, rfl, hS14⟩
          case round =>
            clear hS14
            obtain ⟨m, hm4, rfl, hF⟩ := hrel
            by_cases hmm : m < 4
            · have hdem : decide ((m : Int) < 4) = true := by simp; omega
              obtain ⟨⟨qa, qb⟩, hq⟩ : ∃ q, ps[m]? = some q := ⟨ps[m]'(by rw [HPL.out]; exact hmm), by simp [HPL.out, hmm]⟩
              obtain ⟨cq1, cq2⟩ := ps_cell (hF.get (b := PB) (o := psO ps) (by simp)) m _ hq
              dsimp only at cq1 cq2
              have hS15 := hF.new #[.int .i64 qa, .int .i64 qb] 66
              obtain ⟨D21, hD21⟩ : ∃ D, wr.heap.size = D := ⟨_, rfl⟩
              obtain ⟨W15, hW15⟩ : ∃ W, wr.alloc (.cells #[.int .i64 qa, .int .i64 qb] 66) = W := ⟨_, rfl⟩
              rw [hW15, hD21] at hS15
              have g17 := hS15.get (b := D17) (o := ixO ay ny cy) (by simp)
              have p17 : (wr.alloc (.cells #[.int .i64 qa, .int .i64 qb] 66)).cell? ⟨D17, 0, none⟩ = some (.slice ay ny cy) := by rw [hW15, heap_cell g17]; rfl
              have hr15 : RwAt W15 g ay ny cy ly := hS15.y _ HMY.out
              have HW15 := Lib.hid hW15
              clear hF hq hW15 g17
              go_wp2_with fail
              rw [HW15.out]
              try rw [hD21]
              refine (judge_calls g ay ny cy ly qa qb x W15 hr15 (by have := HX.out; omega)).mono ?_
              rintro e w16 ⟨rfl, hb16⟩
              have HJ2 := Lib.hid (fun W h => judge11_calls g ay ny cy ly qa qb x W h (by have := HX.out; omega))
              have hwf0 := judge_wf ly qa qb x
              obtain ⟨⟨d, er⟩, hd⟩ : ∃ d, judgeI ly qa qb x = d := ⟨_, rfl⟩
              rw [hd] at HJ2 hwf0
              rw [hd]
              unfold ansP at HJ2 ⊢
              dsimp only at HJ2 hwf0 ⊢
              have HWF := Lib.hid hwf0
              have hS16 := (hS15.step hb16).new (pageC d) 59
              obtain ⟨D22, hD22⟩ : ∃ D, w16.heap.size = D := ⟨_, rfl⟩
              obtain ⟨W16, hW16⟩ : ∃ W, w16.alloc (.cells (pageC d) 59) = W := ⟨_, rfl⟩
              rw [hW16, hD22] at hS16
              have g17 := hS16.get (b := D17) (o := ixO ay ny cy) (by simp)
              have g21 := hS16.get (b := D21) (o := .cells #[.int .i64 qa, .int .i64 qb] 66 (0, 0)) (by simp)
              have p17 : W16.cell? ⟨D17, 0, none⟩ = some (.slice ay ny cy) := by rw [heap_cell g17]; rfl
              have p21 : W16.cell? ⟨D21, 0, none⟩ = some (.int .i64 qa) := by rw [heap_cell g21]; rfl
              have p22 : W16.cell? ⟨D21, 1, none⟩ = some (.int .i64 qb) := by rw [heap_cell g21]; rfl
              have hr16 : RwAt W16 g ay ny cy ly := hS16.y _ HMY.out
              have HW16 := Lib.hid hW16
              clear hS15 hb16 hr15 HW15 hd hwf0 hW16 g17 g21 cq1 cq2
              go_wp2_with (first
                | (refine wpList_alloc_row rfl 59 rfl (pageC Page.zero) zero59 ?_)
                | (refine wpList_store_row rfl 59 (.tmp 22) (.tmp 115) rfl _ (pageC d) rfl rfl _ _ (heap_alloc_new _ _) (page_size _) (by simp only [pageC_size]) (pageC_oneCell _) ?_; rw [World.setRow_alloc_new, HW16.out]))
              try rw [hD22]
              refine (HJ2.out _ hr16).mono ?_
              rintro e w17 ⟨rfl, hb17⟩
              have hS17 := (hS16.step hb17).new (pageC d) 59
              obtain ⟨D24, hD24⟩ : ∃ D, w17.heap.size = D := ⟨_, rfl⟩
              obtain ⟨W17, hW17⟩ : ∃ W, w17.alloc (.cells (pageC d) 59) = W := ⟨_, rfl⟩
              rw [hW17, hD24] at hS17
              have g22 : W17.heap[D22]? = some (.cells (pageC d) 59 (0, 0)) := hS17.get (b := D22) (o := pgO d) (by simp)
              have g24 : W17.heap[D24]? = some (.cells (pageC d) 59 (0, 0)) := hS17.get (b := D24) (o := pgO d) (by simp)
              have HW17 := Lib.hid hW17
              have hen : (er != er) = false := by simp
              clear hS16 hb17 hr16 HW16 HJ2 hW17 p17 p21 p22
              go_wp2_with (first
                | (refine wpList_alloc_row rfl 59 rfl (pageC Page.zero) zero59 ?_)
                | (refine wpList_store_row rfl 59 (.tmp 24) (.tmp 125) rfl _ (pageC d) rfl rfl _ _ (heap_alloc_new _ _) (page_size _) (by simp only [pageC_size]) (pageC_oneCell _) ?_; rw [World.setRow_alloc_new, HW17.out])
                | (refine wpList_load_row rfl 59 (.tmp 22) rfl D22 (by first | rfl | (rw [hD22]; rfl)) _ _ _ _ g22 Try.underlying59 rfl (page_size _) ?_)
                | (refine wpList_load_row rfl 59 (.tmp 24) rfl D24 (by first | rfl | (rw [hD24]; rfl)) _ _ _ _ g24 Try.underlying59 rfl (page_size _) ?_)
                | (refine wpList_same59 (by rfl) (.tmp 127) (.tmp 128) 59 rfl d rfl rfl HWF.out ?_))
              go_roundw
              case rel => exact ⟨m + 1, by omega, by go_num, hS17.sub (by intro x hx; simp only [List.mem_cons, List.not_mem_nil, or_false] at hx ⊢; rcases hx with rfl | rfl | rfl | rfl | rfl <;> simp) (fun x hx => hx)⟩
              case measure => simp [intOf]; omega
            · have hdem : decide ((m : Int) < 4) = false := by simp; omega
              go_wp2_with fail
              go_roundw
              case rel => exact ⟨k + 1, by omega, by go_num, hF.sub (by intro x hx; simp only [List.mem_cons, List.not_mem_nil, or_false] at hx ⊢; rcases hx with rfl | rfl | rfl | rfl <;> simp) (fun x hx => hx)⟩
              case measure => simp [intOf]; omega
        · have hdek : decide ((k : Int) < 4) = false := by simp; omega
          go_wp2_with fail
          go_roundw
          case rel => exact ⟨j + 1, by omega, by go_num, hF.sub (by intro x hx; simp only [List.mem_cons, List.not_mem_nil, or_false] at hx ⊢; rcases hx with rfl | rfl <;> simp) (fun x hx => hx)⟩
          case measure => simp [intOf]; omega
    · have hdec : decide ((j : Int) < 3) = false := by simp; omega
      have hX := Lib.hid hF.out
      clear hF
      go_wp2_with fail
      go_ret
      exact ⟨rfl, hX.out⟩
/-- .. as the row asks it. -/
theorem judges_wf (a : Option Addr) (n c : Nat) (ai : Option Addr) (ni ci : Nat) (li : List Row3) (x2 x3 : Int) (s : ByteArray) (w : World) (h : Ls w a n c) (hi : Ri w ai ni ci li) (hx2 : (Lit.int .i64 x2).wf = true) (hx3 : (Lit.int .i64 x3).wf = true) (hs : s.size ≤ 140737488351232) :
    Calls Try.prog 6 #[.slice a n c, .agg #[.slice ai ni ci], .int .i64 x2, .int .i64 x3, .string s] w fun e w' => e = .returned (.bool true) ∧ Below w.heap.size w w' := judges_calls a n c ai ni ci li x2 x3 s w h hi hs
end Go.Proofs.Ytldkgmodmpnclaa
