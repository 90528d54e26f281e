/- A drawn index with one change. -/
import Derived.Test.YtldkgmodmpnclaaLwA
import Derived.Test.YtldkgmodmpnclaaZeros
namespace Go.Proofs.Ytldkgmodmpnclaa
open Go.RowKit Go.Proofs
set_option linter.unusedVariables false
set_option linter.unusedSimpArgs false
theorem owns_kb {w w' : World} {base n g : Nat} {v : Value} {xs : List Value} (h : w.ownsRow base 84 3 v n xs) (hk : KB g w w') (hg : g < base) : w'.ownsRow base 84 3 v n xs :=
  h.kept (row := some g) ⟨hk.os, hk.tape, hk.output, hk.size, fun k hl hne => hk.block k hl (fun e => hne (by rw [e]))⟩ (by
    cases hv : v.ownBlock with
    | none => exact .inl rfl
    | some k => exact .inr (fun e => by have := (h.lt k hv).1; injection e; omega))
theorem owns_cell {w : World} {base n A : Nat} {v x : Value} {xs : List Value} (h : w.ownsRow base 84 3 v n xs) (hA : A < base) (o : Nat) : (w.setCell ⟨A, o, none⟩ x).ownsRow base 84 3 v n xs :=
  h.kept (row := some A) ⟨rfl, rfl, rfl, by simp [World.setCell], fun k hl hne => heap_setCell_other _ _ _ _ (fun e => hne (by rw [e]))⟩ (by
    cases hv : v.ownBlock with
    | none => exact .inl rfl
    | some k => exact .inr (fun e => by have := (h.lt k hv).1; injection e; omega))
/-- Some index. -/
def AnyIdx (g : Nat) (w : World) (e : Ending) (w' : World) : Prop := ∃ a n c l, e = .returned (.agg #[.slice a n c]) ∧ RwAt w' g a n c l ∧ 1 ≤ n ∧ n ≤ 1000 ∧ KB g w w' ∧ Cs w' g
/-- The last steps of odd: the index is answered. -/
theorem odd_end {w w' : World} {g A n c : Nat} {a : Option Addr} {l : List Row3} (hg : g < A) (hA : A ≤ w.heap.size) (hK : KB g w w') (hC : Cs w' g) (hZ : w'.heap[A + 1]? = some (.cells #[.slice none 0 0] 25 (0, 0))) (h : RwAt w' g a n c l) (hb : ∀ b off, a = some ⟨b, off, none⟩ → n ≠ 0 → b ≠ A + 1) (hs : w.heap.size ≤ A + 1) (h1 : 1 ≤ n) (h2 : n ≤ 1000) :
    (w'.setCell ⟨A + 1, 0, none⟩ (.slice a n c)).heap[A + 1]? = some (.cells #[.slice a n c] 25 (0, 0)) ∧ AnyIdx g w (.returned (.agg #[.slice a n c])) (w'.setCell ⟨A + 1, 0, none⟩ (.slice a n c)) :=
  ⟨by rw [heap_setCell_same _ _ _ _ _ _ hZ]; rfl, a, n, c, l, rfl, h.setCell hb _ _, h1, h2, hK.setB (B := A + 1) (by omega) 0 _, hC.setB (B := A + 1) (by omega) 0 _⟩
set_option maxHeartbeats 4000000 in
set_option maxRecDepth 100000 in
theorem odd_calls (g : Nat) (a : Option Addr) (n c : Nat) (l : List Row3) (w : World) (hc : Cs w g) (h : RwAt w g a n c l) (h1 : 1 ≤ n) (h2 : n ≤ 100) :
    Calls Try.prog 17 #[.pointer (some ⟨g, 0, none⟩), .agg #[.slice a n c]] w (AnyIdx g w) := by
  have hlt := hc.lt
  obtain ⟨A, hA⟩ : ∃ A, w.heap.size = A := ⟨_, rfl⟩
  obtain ⟨W, hW⟩ : ∃ W, (w.alloc (.cells #[.slice a n c] 25)).alloc (.cells #[.slice none 0 0] 25) = W := ⟨_, rfl⟩
  have hWs : W.heap.size = A + 2 := by rw [← hW]; simp [hA]
  have hWa : W.heap[A]? = some (.cells #[.slice a n c] 25 (0, 0)) := by rw [← hW, ← hA]; exact heap_alloc_of (heap_alloc_new _ _)
  have hWb : W.heap[A + 1]? = some (.cells #[.slice none 0 0] 25 (0, 0)) := by
    have hs1 : (w.alloc (.cells #[.slice a n c] 25)).heap.size = A + 1 := by simp [hA]
    rw [← hW, ← hs1]
    exact heap_alloc_new _ _
  have hK : KB g w W := by rw [← hW]; exact ((KB.refl g w).alloc _).alloc _
  have hCW : Cs W g := by rw [← hW]; exact (hc.alloc _).alloc _
  have H1 : RwAt W g a n c l := by rw [← hW]; exact (h.alloc _).alloc _
  have hWc : W.cell? ⟨A, 0, none⟩ = some (.slice a n c) := by rw [heap_cell hWa]; rfl
  rw [hA] at hlt
  clear h hc
  go_enter Try.func17, Try.ntmps17
  go_wp2_with (refine wpList_append_rows rfl (.const (.slice none 0 0)) (.tmp 7) rfl (A + 2) _ 0 [] rfl (World.ownsRow_nil _ _ _ _) g a n c l rfl H1 (by omega) (by omega) (by omega) ?_)
  intro v' w1 ho hgr hne
  obtain ⟨b, c', rfl, hbb, _⟩ := RwOwn.of ho hne
  have hB1 : Below W.heap.size W w1 := grown_below hgr
  have p0 := (hB1.block A (by omega)).trans hWa
  have p1 := (hB1.block (A + 1) (by omega)).trans hWb
  have d0 : w1.cell? ⟨A, 0, none⟩ = some (.slice a n c) := by rw [heap_cell p0]; rfl
  have d1 : w1.frozen? ⟨A, 0, none⟩ = false := heap_free p0 0
  have hK1 := (hK.trans (KB.of_below hB1)).setB (B := A) (by omega) 0 (.slice (some ⟨b, 0, none⟩) n c')
  have hC1 := (hCW.keep hB1).setB (B := A) hlt 0 (.slice (some ⟨b, 0, none⟩) n c')
  have hO1 := owns_cell ho (by omega : A < A + 2) (x := .slice (some ⟨b, 0, none⟩) n c') 0
  have q0 : (w1.setCell ⟨A, 0, none⟩ (.slice (some ⟨b, 0, none⟩) n c')).heap[A]? = some (.cells #[.slice (some ⟨b, 0, none⟩) n c'] 25 (0, 0)) := by rw [heap_setCell_same _ _ _ _ _ _ p0]; rfl
  have q1 : (w1.setCell ⟨A, 0, none⟩ (.slice (some ⟨b, 0, none⟩) n c')).heap[A + 1]? = _ := (heap_setCell_other _ _ _ _ (by simp)).trans p1
  obtain ⟨w2, hw2⟩ : ∃ w2, w1.setCell ⟨A, 0, none⟩ (.slice (some ⟨b, 0, none⟩) n c') = w2 := ⟨_, rfl⟩
  rw [hw2] at hK1 hC1 hO1 q0 q1
  have hF : Fx 0 g [(A, .cells #[.slice (some ⟨b, 0, none⟩) n c'] 25 (0, 0)), (A + 1, .cells #[.slice none 0 0] 25 (0, 0))] w w2 :=
    ((Fx.of ⟨⟨⟨hK1.os, hK1.tape, hK1.output, hK1.size, fun k hk => by omega⟩, by omega⟩, hC1, by omega⟩).add q1 (by omega)).add q0 (by omega)
  have HF := Lib.hid hF; have HK := Lib.hid hK1; have HO := Lib.hid hO1; have HW2 := Lib.hid hw2
  have i0 : decide (0 < n) = true := by simp; omega
  clear hK hCW H1 hWc hWa hWb ho hgr hne hB1 p0 p1 hK1 hC1 hO1 q0 q1 hF hw2 hW
  go_wp2_with fail
  rw [HW2.out]
  refine wp_region_held_drew (S := Fx 0 g [(A, .cells #[.slice (some ⟨b, 0, none⟩) n c'] 25 (0, 0)), (A + 1, .cells #[.slice none 0 0] 25 (0, 0))] w) (by kernel_rfl) HF.out.drew (fun hHeld => ?_)
  refine Held.takeL (i := 0) (v := ?_) rfl (by kernel_rfl) (by kernel_rfl) (by kernel_rfl) (fun _ _ _ h => h) (.inl ⟨by kernel_rfl, ?_⟩) (by assumption) ?_
  rotate_left
  · (intro w_ hSw; go_simp; first | done | with_reducible rfl)
  try simp only [Act.put, List.setIfInBounds_toArray, List.set_cons_zero, List.set_cons_succ]
  refine Held.takeL (i := 1) (v := ?_) rfl (by kernel_rfl) (by kernel_rfl) (by kernel_rfl) (fun _ _ _ h => h) (.inl ⟨by kernel_rfl, ?_⟩) (by assumption) ?_
  rotate_left
  · (intro w_ hSw; have q0_ : w_.cell? ⟨A, 0, none⟩ = some (.slice (some ⟨b, 0, none⟩) n c') := (heap_cell hSw.hd 0).trans rfl; go_simp; first | done | with_reducible rfl)
  try simp only [Act.put, List.setIfInBounds_toArray, List.set_cons_zero, List.set_cons_succ]
  refine Held.takeL (i := 2) (v := ?_) rfl (by kernel_rfl) (by kernel_rfl) (by kernel_rfl) (fun _ _ _ h => h) (.inl ⟨by kernel_rfl, ?_⟩) (by assumption) ?_
  rotate_left
  · (intro w_ hSw; go_simp; first | done | with_reducible rfl)
  try simp only [Act.put, List.setIfInBounds_toArray, List.set_cons_zero, List.set_cons_succ]
  refine Held.takeL (i := 3) (v := ?_) rfl (by kernel_rfl) (by kernel_rfl) (by kernel_rfl) (fun _ _ _ h => h) (.inl ⟨by kernel_rfl, ?_⟩) (by assumption) ?_
  rotate_left
  · (intro w_ hSw; go_simp; first | done | with_reducible rfl)
  try simp only [Act.put, List.setIfInBounds_toArray, List.set_cons_zero, List.set_cons_succ]
  refine Held.takeL (i := 4) (v := ?_) rfl (by kernel_rfl) (by kernel_rfl) (by kernel_rfl) (fun _ _ _ h => h) (.inl ⟨by kernel_rfl, ?_⟩) (by assumption) ?_
  rotate_left
  · (intro w_ hSw; have q0_ : w_.cell? ⟨A, 0, none⟩ = some (.slice (some ⟨b, 0, none⟩) n c') := (heap_cell hSw.hd 0).trans rfl; go_simp; first | done | with_reducible rfl)
  try simp only [Act.put, List.setIfInBounds_toArray, List.set_cons_zero, List.set_cons_succ]
  refine Held.takeL (i := 5) (v := ?_) rfl (by kernel_rfl) (by kernel_rfl) (by kernel_rfl) (fun _ _ _ h => h) (.inl ⟨by kernel_rfl, ?_⟩) (by assumption) ?_
  rotate_left
  · (intro w_ hSw; go_simp; first | done | with_reducible rfl)
  try simp only [Act.put, List.setIfInBounds_toArray, List.set_cons_zero, List.set_cons_succ]
  refine wpAnyH_ready (rs := [6]) (by kernel_rfl) (by simp) ?_
  refine Held.consL rfl (fun K hK => ?_) AllReadyH.nil
  go_simp
  refine (next_calls g n _ hHeld.c (by omega) (by omega)).mono ?_
  rintro e_ w3 ⟨k, rfl, hk0, hk1, hk, hc⟩
  have hH := hHeld.kb hk hc
  have hO3 := owns_kb (base := A + 2) (w := w2.drew) HO.out hk (show g < A + 2 by omega)
  have hK3 := (HK.out.drew).trans hk
  obtain ⟨k, rfl⟩ : ∃ m : Nat, k = m := ⟨k.toNat, by omega⟩
  have j0 : (0 : Int) ≤ (k : Int) := by omega
  have j1 : (k : Int) < (n : Int) := by omega
  clear hk hc
  refine hK.out _ _ hH (fun hHeld => ?_)
  clear hK K
  try simp only [Act.put, List.setIfInBounds_toArray, List.set_cons_zero, List.set_cons_succ]
  clear hH
  refine Held.takeL (i := 7) (v := ?_) rfl (by kernel_rfl) (by kernel_rfl) (by kernel_rfl) (fun _ _ _ h => h) (.inl ⟨by kernel_rfl, ?_⟩) (by assumption) ?_
  rotate_left
  · (intro w_ hSw; go_simp; first | done | with_reducible rfl)
  try simp only [Act.put, List.setIfInBounds_toArray, List.set_cons_zero, List.set_cons_succ]
  refine Held.takeL (i := 8) (v := ?_) rfl (by kernel_rfl) (by kernel_rfl) (by kernel_rfl) (fun _ _ _ h => h) (.inl ⟨by kernel_rfl, ?_⟩) (by assumption) ?_
  rotate_left
  · (intro w_ hSw; go_simp; first | done | with_reducible rfl)
  try simp only [Act.put, List.setIfInBounds_toArray, List.set_cons_zero, List.set_cons_succ]
  refine wpAnyH_done (by kernel_rfl) ?_ _
  have HF3 := Lib.hid hHeld; have HO3 := Lib.hid hO3; have HK3 := Lib.hid hK3
  clear hHeld hO3 hK3
  go_wp2_with fail
  refine (next_calls g 4 _ HF3.out.c (by omega) (by omega)).mono ?_
  rintro e_ w4 ⟨r, rfl, hr0, hr1, hk, hc⟩
  have hF4 := HF3.out.kb hk hc
  have hO4 := owns_kb (base := A + 2) HO3.out hk (show g < A + 2 by omega)
  have hK4 := HK3.out.trans hk
  have HF4 := Lib.hid hF4; have HO4 := Lib.hid hO4; have HK4 := Lib.hid hK4
  clear hk hc hF4 hO4 hK4
  rcases (show r = 0 ∨ r = 1 ∨ r = 2 ∨ r = 3 by omega) with hr | hr | hr | hr
  · have hrb : (r == 0) = true := by rw [hr]; rfl
    go_wp2_with fail
    refine (int_calls g _ HF4.out.c).mono ?_
    rintro e_ w5 ⟨m, rfl, hm, hk, hc⟩
    have hF5 := HF4.out.kb hk hc
    have hO5 := owns_kb (base := A + 2) HO4.out hk (show g < A + 2 by omega)
    have hK5 := HK4.out.trans hk
    obtain ⟨_, _, e5, _, hR5⟩ := RwOwn.of hO5 (by simp)
    cases e5
    obtain ⟨rw5, hrw5⟩ : ∃ x, l[k]? = some x := ⟨l[k]'(by have := hR5.len; omega), by simp⟩
    have g5 := hR5.cell _ _ (rowsV_get l k rw5 hrw5).1
    have f5 := hR5.free (k * 3 + 0)
    have hR6 := hR5.set hrw5 (k := 0) (by omega) m
    try simp only [Nat.add_zero] at f5 hR6
    have hF6 := hF5.set (b := b) (by omega) (by intro x hx; simp only [List.mem_cons, List.not_mem_nil, or_false] at hx; rcases hx with rfl | rfl <;> simp <;> omega) (k * 3) (.int .i64 m)
    have hK6 := hK5.setB (B := b) (by omega) (k * 3) (.int .i64 m)
    have y0 : (w5.setCell ⟨b, k * 3, none⟩ (.int .i64 m)).cell? ⟨A, 0, none⟩ = some (.slice (some ⟨b, 0, none⟩) n c') := (heap_cell hF6.hd 0).trans rfl
    have y1 : (w5.setCell ⟨b, k * 3, none⟩ (.int .i64 m)).cell? ⟨A + 1, 0, none⟩ = some (.slice none 0 0) := (heap_cell hF6.hd2 0).trans rfl
    have y2 := heap_free hF6.hd2 0
    have hle5 := hR5.le
    obtain ⟨z1, z2⟩ := odd_end (w := w) (A := A) (l := l.set k (rw5.put 0 m)) hlt (by omega) hK6 hF6.c hF6.hd2 (hR6.rw (by omega)) (fun b_ off_ e_ _ => by cases e_; omega) (by omega) h1 (by omega)
    have Z1 := Lib.hid z1; have Z2 := Lib.hid z2
    clear hk hc hF5 hO5 hK5 hR5 hR6 hF6 hK6 z1 z2
    go_wp2_with fail
    exact end25a rfl rfl Z1.out rfl Z2.out
  · have hrb : (r == 1) = true := by rw [hr]; rfl
    have hrn0 : (r == 0) = false := by rw [hr]; rfl
    go_wp2_with fail
    refine (int_calls g _ HF4.out.c).mono ?_
    rintro e_ w5 ⟨m, rfl, hm, hk, hc⟩
    have hF5 := HF4.out.kb hk hc
    have hO5 := owns_kb (base := A + 2) HO4.out hk (show g < A + 2 by omega)
    have hK5 := HK4.out.trans hk
    obtain ⟨_, _, e5, _, hR5⟩ := RwOwn.of hO5 (by simp)
    cases e5
    obtain ⟨rw5, hrw5⟩ : ∃ x, l[k]? = some x := ⟨l[k]'(by have := hR5.len; omega), by simp⟩
    have g5 := hR5.cell _ _ (rowsV_get l k rw5 hrw5).2.1
    have f5 := hR5.free (k * 3 + 1)
    have hR6 := hR5.set hrw5 (k := 1) (by omega) m
    try simp only [Nat.add_zero] at f5 hR6
    have hF6 := hF5.set (b := b) (by omega) (by intro x hx; simp only [List.mem_cons, List.not_mem_nil, or_false] at hx; rcases hx with rfl | rfl <;> simp <;> omega) (k * 3 + 1) (.int .i64 m)
    have hK6 := hK5.setB (B := b) (by omega) (k * 3 + 1) (.int .i64 m)
    have y0 : (w5.setCell ⟨b, k * 3 + 1, none⟩ (.int .i64 m)).cell? ⟨A, 0, none⟩ = some (.slice (some ⟨b, 0, none⟩) n c') := (heap_cell hF6.hd 0).trans rfl
    have y1 : (w5.setCell ⟨b, k * 3 + 1, none⟩ (.int .i64 m)).cell? ⟨A + 1, 0, none⟩ = some (.slice none 0 0) := (heap_cell hF6.hd2 0).trans rfl
    have y2 := heap_free hF6.hd2 0
    have hle5 := hR5.le
    obtain ⟨z1, z2⟩ := odd_end (w := w) (A := A) (l := l.set k (rw5.put 1 m)) hlt (by omega) hK6 hF6.c hF6.hd2 (hR6.rw (by omega)) (fun b_ off_ e_ _ => by cases e_; omega) (by omega) h1 (by omega)
    have Z1 := Lib.hid z1; have Z2 := Lib.hid z2
    clear hk hc hF5 hO5 hK5 hR5 hR6 hF6 hK6 z1 z2
    go_wp2_with fail
    exact end25a rfl rfl Z1.out rfl Z2.out
  · have hrb : (r == 2) = true := by rw [hr]; rfl
    have hrn0 : (r == 0) = false := by rw [hr]; rfl
    have hrn1 : (r == 1) = false := by rw [hr]; rfl
    go_wp2_with fail
    refine (int_calls g _ HF4.out.c).mono ?_
    rintro e_ w5 ⟨m, rfl, hm, hk, hc⟩
    have hF5 := HF4.out.kb hk hc
    have hO5 := owns_kb (base := A + 2) HO4.out hk (show g < A + 2 by omega)
    have hK5 := HK4.out.trans hk
    obtain ⟨_, _, e5, _, hR5⟩ := RwOwn.of hO5 (by simp)
    cases e5
    obtain ⟨rw5, hrw5⟩ : ∃ x, l[k]? = some x := ⟨l[k]'(by have := hR5.len; omega), by simp⟩
    have g5 := hR5.cell _ _ (rowsV_get l k rw5 hrw5).2.2
    have f5 := hR5.free (k * 3 + 2)
    have hR6 := hR5.set hrw5 (k := 2) (by omega) m
    try simp only [Nat.add_zero] at f5 hR6
    have hF6 := hF5.set (b := b) (by omega) (by intro x hx; simp only [List.mem_cons, List.not_mem_nil, or_false] at hx; rcases hx with rfl | rfl <;> simp <;> omega) (k * 3 + 2) (.int .i64 m)
    have hK6 := hK5.setB (B := b) (by omega) (k * 3 + 2) (.int .i64 m)
    have y0 : (w5.setCell ⟨b, k * 3 + 2, none⟩ (.int .i64 m)).cell? ⟨A, 0, none⟩ = some (.slice (some ⟨b, 0, none⟩) n c') := (heap_cell hF6.hd 0).trans rfl
    have y1 : (w5.setCell ⟨b, k * 3 + 2, none⟩ (.int .i64 m)).cell? ⟨A + 1, 0, none⟩ = some (.slice none 0 0) := (heap_cell hF6.hd2 0).trans rfl
    have y2 := heap_free hF6.hd2 0
    have hle5 := hR5.le
    obtain ⟨z1, z2⟩ := odd_end (w := w) (A := A) (l := l.set k (rw5.put 2 m)) hlt (by omega) hK6 hF6.c hF6.hd2 (hR6.rw (by omega)) (fun b_ off_ e_ _ => by cases e_; omega) (by omega) h1 (by omega)
    have Z1 := Lib.hid z1; have Z2 := Lib.hid z2
    clear hk hc hF5 hO5 hK5 hR5 hR6 hF6 hK6 z1 z2
    go_wp2_with fail
    exact end25a rfl rfl Z1.out rfl Z2.out
  · have hrb : (r == 3) = true := by rw [hr]; rfl
    have hrn0 : (r == 0) = false := by rw [hr]; rfl
    have hrn1 : (r == 1) = false := by rw [hr]; rfl
    have hrn2 : (r == 2) = false := by rw [hr]; rfl
    go_wp2_with fail
    refine Whichever.start (S := fun w_ => w_.cell? ⟨A, 0, none⟩ = some (.slice (some ⟨b, 0, none⟩) n c')) (n := 7) (by kernel_rfl) ?_
    have hS : w4.drew.cell? ⟨A, 0, none⟩ = some (.slice (some ⟨b, 0, none⟩) n c') := (heap_cell HF4.out.hd 0).trans rfl
    refine Whichever.any (i := 0) (v := ?_) rfl (by kernel_rfl) (by kernel_rfl) (by kernel_rfl) (by kernel_rfl) (fun _ _ _ h => h) (.inl ⟨by rfl, ?_⟩) (fun _ => hS) ?_
    rotate_left
    · (intro w_ _; go_simp; first | done | with_reducible rfl)
    simp only [Act.put, List.setIfInBounds_toArray, List.set_cons_zero, List.set_cons_succ]
    refine Whichever.take (i := 1) (v := ?_) rfl (by kernel_rfl) (by kernel_rfl) (by kernel_rfl) (by kernel_rfl) (by kernel_rfl) (by kernel_rfl) (fun _ _ _ h => h) (.inl ⟨by rfl, ?_⟩) hS ?_
    rotate_left
    · (intro w_ hSw; (try dsimp only at hSw); go_simp; first | done | with_reducible rfl)
    simp only [Act.put, List.setIfInBounds_toArray, List.set_cons_zero, List.set_cons_succ]
    refine Whichever.any (i := 2) (v := ?_) rfl (by kernel_rfl) (by kernel_rfl) (by kernel_rfl) (by kernel_rfl) (fun _ _ _ h => h) (.inl ⟨by rfl, ?_⟩) (fun _ => hS) ?_
    rotate_left
    · (intro w_ _; go_simp; first | done | with_reducible rfl)
    simp only [Act.put, List.setIfInBounds_toArray, List.set_cons_zero, List.set_cons_succ]
    refine Whichever.one (i := 3) (by kernel_rfl) rfl (fun K_ hK_ => ?_)
    go_simp
    refine (next_calls g 6 _ HF4.out.drew.c (by omega) (by omega)).mono ?_
    rintro e_ w5 ⟨x, rfl, hx0, hx1, hk, hc⟩
    have hF5 := (HF4.out.drew).kb hk hc
    have hO5 := owns_kb (base := A + 2) (w := w4.drew) HO4.out hk (show g < A + 2 by omega)
    have hK5 := (HK4.out.drew).trans hk
    obtain ⟨m, hm⟩ : ∃ m : Nat, 60 + x = m := ⟨(60 + x).toNat, by omega⟩
    have hwx : IntKind.i64.wrap (60 + x) = (m : Int) := (IntWalk.i64_in _ (by omega)).trans hm
    have hwy : IntKind.i64.wrap (m : Int) = (m : Int) := IntWalk.i64_in _ (by omega)
    have hS5 : w5.cell? ⟨A, 0, none⟩ = some (.slice (some ⟨b, 0, none⟩) n c') := (heap_cell hF5.hd 0).trans rfl
    clear hk hc
    refine hK_ _ _ (fun _ => hS5) ?_
    clear hK_ K_
    refine Whichever.any (i := 4) (v := ?_) rfl (by kernel_rfl) (by kernel_rfl) (by kernel_rfl) (by kernel_rfl) (fun _ _ _ h => h) (.inl ⟨by rfl, ?_⟩) (fun _ => hS5) ?_
    rotate_left
    · (intro w_ _; go_simp; first | done | with_reducible rfl)
    simp only [Act.put, List.setIfInBounds_toArray, List.set_cons_zero, List.set_cons_succ]
    refine Whichever.one (i := 5) (by kernel_rfl) rfl (fun K_ hK_ => ?_)
    rw [if_pos (by kernel_rfl)]
    refine wp_append_zeros (.tmp 44) (.tmp 47) rfl (A + 2) _ n l (by rfl) hO5 (by simp) m (by rfl) (by omega) (by omega) (by omega) (by have := heap_lt hF5.hd2; omega) ?_
    intro v6 w6 hO6 hg6 hne6
    obtain ⟨b6, c6, rfl, hb6, hR6⟩ := RwOwn.of hO6 hne6
    have hB6 : Below (A + 2) w5 w6 := ⟨hg6.os, hg6.tape, hg6.output, hg6.size, fun k hk => hg6.block k (by have := heap_lt hF5.hd2; omega) (fun e => by simp only [Value.ownBlock] at e; first | omega | (injection e; omega))⟩
    have q0 := (hB6.block A (by omega)).trans hF5.hd
    have q1 := (hB6.block (A + 1) (by omega)).trans hF5.hd2
    have hG6 : Kg g w w6 := Kg.high ⟨hK5, hF5.c⟩ (by omega) (by omega) hB6
    have hS6 : w6.cell? ⟨A, 0, none⟩ = some (.slice (some ⟨b, 0, none⟩) n c') := (heap_cell q0 0).trans rfl
    have hf6 : w6.frozen? ⟨A, 0, none⟩ = false := heap_free q0 0
    refine hK_ _ _ (fun _ => hS6) ?_
    clear hK_ K_
    refine Whichever.any (i := 6) (v := ?_) rfl (by kernel_rfl) (by kernel_rfl) (by kernel_rfl) (by kernel_rfl) (fun _ _ _ h => h) (.inl ⟨by rfl, ?_⟩) (fun _ => hS6) ?_
    rotate_left
    · (intro w_ _; go_simp; first | done | with_reducible rfl)
    simp only [Act.put, List.setIfInBounds_toArray, List.set_cons_zero, List.set_cons_succ]
    refine Whichever.one (i := 7) (by kernel_rfl) rfl (fun K_ hK_ => ?_)
    have hc0_ := hS6
    go_simp
    refine hK_ _ _ (fun h => Bool.noConfusion ((by kernel_rfl : _ = true).symm.trans h)) ?_
    clear hK_ K_
    refine Whichever.done (by kernel_rfl) ?_ _
    have hK7 : Kg g w (w6.setCell ⟨A, 0, none⟩ (.slice (some ⟨b6, 0, none⟩) (n + m) c6)) := ⟨hG6.k.setB (B := A) (by omega) 0 _, hG6.c.setB (B := A) hlt 0 _⟩
    have z0 : (w6.setCell ⟨A, 0, none⟩ (.slice (some ⟨b6, 0, none⟩) (n + m) c6)).heap[A]? = some (.cells #[.slice (some ⟨b6, 0, none⟩) (n + m) c6] 25 (0, 0)) := by rw [heap_setCell_same _ _ _ _ _ _ q0]; rfl
    have z1 : (w6.setCell ⟨A, 0, none⟩ (.slice (some ⟨b6, 0, none⟩) (n + m) c6)).heap[A + 1]? = _ := (heap_setCell_other _ _ _ _ (by simp)).trans q1
    have hR7 := hR6.keep (w' := w6.setCell ⟨A, 0, none⟩ (.slice (some ⟨b6, 0, none⟩) (n + m) c6)) (heap_setCell_other _ _ _ _ (by simp; omega))
    obtain ⟨w7, hw7⟩ : ∃ w7, w6.setCell ⟨A, 0, none⟩ (.slice (some ⟨b6, 0, none⟩) (n + m) c6) = w7 := ⟨_, rfl⟩
    rw [hw7] at hK7 z0 z1 hR7
    have y0 : w7.cell? ⟨A, 0, none⟩ = some (.slice (some ⟨b6, 0, none⟩) (n + m) c6) := (heap_cell z0 0).trans rfl
    have y1 : w7.cell? ⟨A + 1, 0, none⟩ = some (.slice none 0 0) := (heap_cell z1 0).trans rfl
    have y2 := heap_free z1 0
    obtain ⟨u1, u2⟩ := odd_end (w := w) (A := A) hlt (by omega) hK7.k hK7.c z1 (hR7.rw (by omega)) (fun b_ off_ e_ _ => by cases e_; omega) (by omega) (by omega) (by omega)
    have U1 := Lib.hid u1; have U2 := Lib.hid u2
    clear hG6 hB6 q0 q1 hS6 hf6 hS5 hO6 hg6 hne6 hR6 hF5 hO5 hK5 hS hK7 z0 z1 hR7 u1 u2
    rw [hw7]
    go_wp2_with fail
    exact end25a rfl rfl U1.out rfl U2.out
end Go.Proofs.Ytldkgmodmpnclaa
