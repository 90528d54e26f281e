/- PageindexFinds' walk: Judge finds what is stale, what is torn and what is foreign. -/
import Derived.Test.YtldkgmodmpnclaaJudA
import Derived.Test.YtldkgmodmpnclaaLwA
namespace Go.Proofs.Ytldkgmodmpnclaa
open Go.RowKit Go.Proofs
set_option linter.unusedVariables false
set_option linter.unusedSimpArgs false
theorem finds {p q : Page} (hp : pageOk p = true) (hq : pageOk q = true) (hpi : p.id = 1) (hqi : q.id = 1) (h1 : 1 ≤ p.lsn) (h2 : p.lsn < q.lsn) (h3 : q.lsn ≤ 40) :
    ∃ l1, noteI (List.replicate 3 Row3.zero) (ent7 90 q.lsn 1) = (l1, 0) ∧ l1.length = 3 ∧ judgeI l1 1 q.lsn (encP p) = (Page.zero, 8) ∧ judgeI l1 1 q.lsn (zeros 256) = (Page.zero, 8) ∧ judgeI l1 2 0 (encP q) = (Page.zero, 6) ∧ judgeI l1 1 q.lsn (encP q) = (q, 0)
      ∧ judgeI (List.replicate 3 Row3.zero) 1 q.lsn (encP q) = (q, 0) ∧ judgeI (List.replicate 3 Row3.zero) 1 (q.lsn - 1) (encP q) = (Page.zero, 9) := by
  have e1 := ent7_ok (lsn := 90) (ref := q.lsn) (page := 1) (by omega) (by omega) (by omega)
  have hz : idxOk (List.replicate 3 Row3.zero) = true := rfl
  have hn := noteI_mod (l := List.replicate 3 Row3.zero) (e := ent7 90 q.lsn 1) (i := 1) hz e1 rfl rfl (by decide)
  have ho : idxOk ((List.replicate 3 Row3.zero).modify 1 (noteF q.lsn)) = true := mod_ok hz (noteF_ok (by omega) (by omega))
  have hr : ((List.replicate 3 Row3.zero).modify 1 (noteF q.lsn))[1]? = some ⟨q.lsn, 0, 0⟩ := by
    show some (noteF q.lsn Row3.zero) = _
    have : noteF q.lsn Row3.zero = ⟨q.lsn, 0, 0⟩ := by
      simp only [noteF, Row3.zero]
      congr 1
      omega
    rw [this]
  have hr2 : ((List.replicate 3 Row3.zero).modify 1 (noteF q.lsn))[2]? = some Row3.zero := rfl
  have hz1 : (List.replicate 3 Row3.zero)[1]? = some Row3.zero := rfl
  have n1 : named 1 = true := rfl
  have n2 : named 2 = true := rfl
  have ip : idP (encP p) 1 = (p, 0) := by rw [encP_ok hp, idP_enc hp 1 n1, if_pos hpi.symm]
  have iq : idP (encP q) 1 = (q, 0) := by rw [encP_ok hq, idP_enc hq 1 n1, if_pos hqi.symm]
  have iq2 : idP (encP q) 2 = (Page.zero, 6) := by rw [encP_ok hq, idP_enc hq 2 n2, if_neg (by omega)]
  have ib : idP (zeros 256) 1 = (Page.new 1, 0) := idP_blank 1 n1
  have nl : (Page.new 1).lsn = 0 := rfl
  have zl : Row3.zero.lsn = 0 := rfl
  refine ⟨_, hn, rfl, ?_, ?_, ?_, ?_, ?_, ?_⟩
  · have := judge_in (i := 1) (pos := q.lsn) ho hr (by omega) ip
    rw [if_neg (by simp), if_neg (by simp; omega), if_pos (by simpa using h2)] at this
    exact this
  · have := judge_in (i := 1) (pos := q.lsn) ho hr (by omega) ib
    rw [if_neg (by simp), if_neg (by rw [nl]; omega), if_pos (by rw [nl]; show (0 : Int) < q.lsn; omega)] at this
    exact this
  · have := judge_in (i := 2) (pos := 0) ho hr2 (by omega) iq2
    rw [if_pos (by simp)] at this
    exact this
  · have := judge_in (i := 1) (pos := q.lsn) ho hr (by omega) iq
    rw [if_neg (by simp), if_neg (by omega), if_neg (by simp)] at this
    exact this
  · have := judge_in (i := 1) (pos := q.lsn) hz hz1 (by omega) iq
    rw [if_neg (by simp), if_neg (by omega), if_neg (by rw [zl]; omega)] at this
    exact this
  · have := judge_in (i := 1) (pos := q.lsn - 1) hz hz1 (by omega) iq
    rw [if_neg (by simp), if_pos (by rw [zl]; omega)] at this
    exact this
theorem cells_up {p : Page} {x : Int} (h : cellsOk p = true) (hx : 0 < x) : cellsOk ⟨p.id, x, p.cells, p.len⟩ = true := by
  unfold cellsOk at h ⊢
  rw [List.all_eq_true] at h ⊢
  intro c hc
  have := h c hc
  unfold cellOk at this ⊢
  simp only [Bool.and_eq_true, Bool.not_eq_true', Bool.or_eq_true, decide_eq_true_eq] at this ⊢
  first | (simp_all; done) | (simp_all; omega)
theorem Sx.neX {B g : Nat} {L : List (Nat × Obj)} {X : List (Nat × List Row3)} {w0 w : World} (h : Sx B g L X w0 w) : ∀ x ∈ X, x.1 ≠ g := fun x hx => by
  obtain ⟨a, n, c, _, _, h3⟩ := h.x x hx
  exact h3
set_option maxHeartbeats 4000000 in
set_option maxRecDepth 100000 in
theorem finds_calls (a : Option Addr) (n c : Nat) (x1 x2 : Int) (w : World) (h : Ls w a n c) (hx1 : 0 ≤ x1 ∧ x1 < 256) (hx2 : 0 ≤ x2 ∧ x2 < 256) :
    Calls Try.prog 8 #[.slice a n c, .int .u8 x1, .int .u8 x2] w fun e w' => e = .returned (.bool true) ∧ Below w.heap.size w w' := by
  obtain ⟨B0, hB0⟩ : ∃ B, w.heap.size = B := ⟨_, rfl⟩
  rw [hB0]
  go_enter Try.func8, Try.ntmps8
  go_wp2_with fail
  refine (awake11_calls _).mono ?_
  rintro e w1 ⟨rfl, hb1⟩
  go_wp2_with fail
  refine (newCodes_calls a n c 200 _ (h.keep hb1) (by omega)).mono ?_
  rintro e w2 ⟨g, rfl, hg, hb2, hc2⟩
  have hF2 : Fr B0 g w w2 := Fr.of ((hb1.mono (by omega)).trans (hb2.mono (by have := hb1.size; omega))) hc2 (by have := hb1.size; omega)
  clear hb1 hb2 hg h hc2
  go_wp2_with fail
  refine (cpage_calls g 1 _ hF2.c).mono ?_
  rintro e w3 ⟨p0, rfl, hpidp0, hpl, hpc, hk, hc⟩
  have hF3 := hF2.kb hk hc
  clear hk hc hF2
  go_wp2_with fail
  refine (cpage_calls g 1 _ hF3.c).mono ?_
  rintro e w4 ⟨q0, rfl, hpidq0, hql, hqc, hk, hc⟩
  have hF4 := hF3.kb hk hc
  clear hk hc hF3
  have hA4 := heap_alloc_new w4 (.cells (pageC Page.zero) 59)
  obtain ⟨A, hA⟩ : ∃ A, w4.heap.size = A := ⟨_, rfl⟩
  rw [hA] at hA4
  have hB4 : (w4.alloc (.cells (pageC Page.zero) 59)).heap.size = A + 1 := by simp [hA]
  have hP5 : PgAt ((w4.alloc (.cells (pageC Page.zero) 59)).alloc (.cells (pageC Page.zero) 59)) A Page.zero := heap_alloc_of hA4
  have hQ5 : PgAt ((w4.alloc (.cells (pageC Page.zero) 59)).alloc (.cells (pageC Page.zero) 59)) (A + 1) Page.zero := by rw [← hB4]; exact heap_alloc_new _ _
  obtain ⟨W5, hW5⟩ : ∃ W, (w4.alloc (.cells (pageC Page.zero) 59)).alloc (.cells (pageC Page.zero) 59) = W := ⟨_, rfl⟩
  have hK5 : Kg g w4 W5 := by rw [← hW5]; exact ⟨((KB.refl g w4).alloc _).alloc _, (hF4.c.alloc _).alloc _⟩
  rw [hW5] at hP5 hQ5
  have hgA : g < A := by rw [← hA]; exact hF4.lt
  have hP6 := hP5.row (q := p0)
  have hQ6 : PgAt (W5.setRow A (pageC p0)) (A + 1) Page.zero := (setRow_other _ _ _ _ (by omega)).trans hQ5
  have hP7 : PgAt ((W5.setRow A (pageC p0)).setRow (A + 1) (pageC q0)) A p0 := (setRow_other _ _ _ _ (by omega)).trans hP6
  have hQ7 := hQ6.row (q := q0)
  have hK7 : Kg g w4 ((W5.setRow A (pageC p0)).setRow (A + 1) (pageC q0)) := ⟨(hK5.k.setRowB (B := A) (by omega) _).setRowB (B := A + 1) (by omega) _, (hK5.c.setRowB hgA _).setRowB (by omega) _⟩
  obtain ⟨W7, hW7⟩ : ∃ W, (W5.setRow A (pageC p0)).setRow (A + 1) (pageC q0) = W := ⟨_, rfl⟩
  rw [hW7] at hP7 hQ7 hK7
  have hL7 := hP7.lsn
  have hM7 := hQ7.lsn
  have hf7 : W7.frozen? ⟨A, 1, none⟩ = false := heap_free hP7 1
  have hg7 : W7.frozen? ⟨A + 1, 1, none⟩ = false := heap_free hQ7 1
  obtain ⟨X1, hX1⟩ : ∃ X, 1 + x1 % 20 = X := ⟨_, rfl⟩
  obtain ⟨X2, hX2⟩ : ∃ X, X1 + 1 + x2 % 20 = X := ⟨_, rfl⟩
  obtain ⟨p, hp⟩ : ∃ p : Page, p = ⟨p0.id, X1, p0.cells, p0.len⟩ := ⟨_, rfl⟩
  obtain ⟨q, hq⟩ : ∃ q : Page, q = ⟨q0.id, X2, q0.cells, q0.len⟩ := ⟨_, rfl⟩
  have hpo : pageOk p = true := by
    have h1 : cellsOk p = true := by rw [hp]; exact cells_up (x := X1) hpc (by omega)
    have h2 : p.id = 1 := by rw [hp]; exact hpidp0
    have h3 : p.lsn = X1 := by rw [hp]
    unfold pageOk placed named lsnOk
    rw [h1, h2, h3]
    simp
    omega
  have hqo : pageOk q = true := by
    have h1 : cellsOk q = true := by rw [hq]; exact cells_up (x := X2) hqc (by omega)
    have h2 : q.id = 1 := by rw [hq]; exact hpidq0
    have h3 : q.lsn = X2 := by rw [hq]
    unfold pageOk placed named lsnOk
    rw [h1, h2, h3]
    simp
    omega
  have hpx : p.lsn = X1 := by rw [hp]
  have hqx : q.lsn = X2 := by rw [hq]
  obtain ⟨l1, n1, nl, j1, j2, j3, j4, j5, j6⟩ := finds hpo hqo (by rw [hp]; exact hpidp0) (by rw [hq]; exact hpidq0) (by rw [hpx]; omega) (by rw [hpx, hqx]; omega) (by rw [hqx]; omega)
  rw [hqx] at n1 j1 j2 j4 j5 j6
  have HE1 := Lib.hid (fun W => encode_calls p W)
  have HE2 := Lib.hid (fun W => encode_calls q W)
  rw [pageErr_ok hpo] at HE1
  rw [pageErr_ok hqo] at HE2
  have hz1 := encP_size hpo
  have hz2 := encP_size hqo
  obtain ⟨s1, hs1⟩ : ∃ s, encP p = s := ⟨_, rfl⟩
  obtain ⟨s2, hs2⟩ : ∃ s, encP q = s := ⟨_, rfl⟩
  rw [hs1] at HE1 hz1 j1
  rw [hs2] at HE2 hz2 j3 j4 j5 j6
  have QX := Lib.hid hqx
  have HZ1 := Lib.hid hz1; have HZ2 := Lib.hid hz2
  have N1 := Lib.hid n1; have NL := Lib.hid nl; have J1 := Lib.hid j1; have J2 := Lib.hid j2; have J3 := Lib.hid j3; have J4 := Lib.hid j4; have J5 := Lib.hid j5; have J6 := Lib.hid j6
  have hwq := Lib.hid (show PgWf q from by have := judge_wf l1 1 X2 s2; rw [j4] at this; exact this)
  have WE := Lib.hid (ent7_wf (lsn := 90) (ref := X2) (page := 1) (by omega) (by omega) (by omega))
  have HNo := Lib.hid (fun g a n c l e he W h hg => note_calls g a n c l e he W h hg)
  have HJ := Lib.hid (fun g a n c l id pos s W h hs => judge_calls g a n c l id pos s W h hs)
  have hP8 : PgAt ((W7.setCell ⟨A, 1, none⟩ (.int .i64 X1)).setCell ⟨A + 1, 1, none⟩ (.int .i64 X2)) A p := by rw [hp]; exact (hP7.setL X1).setCell _ (by simp)
  have hQ8 : PgAt ((W7.setCell ⟨A, 1, none⟩ (.int .i64 X1)).setCell ⟨A + 1, 1, none⟩ (.int .i64 X2)) (A + 1) q := by rw [hq]; exact (PgAt.setCell hQ7 _ (by simp)).setL X2
  have hK8 : Kg g w4 ((W7.setCell ⟨A, 1, none⟩ (.int .i64 X1)).setCell ⟨A + 1, 1, none⟩ (.int .i64 X2)) := ⟨(hK7.k.setB (B := A) (by omega) 1 _).setB (B := A + 1) (by omega) 1 _, (hK7.c.setB hgA 1 _).setB (B := A + 1) (by omega) 1 _⟩
  obtain ⟨W8, hW8⟩ : ∃ W, (W7.setCell ⟨A, 1, none⟩ (.int .i64 X1)).setCell ⟨A + 1, 1, none⟩ (.int .i64 X2) = W := ⟨_, rfl⟩
  rw [hW8] at hP8 hQ8 hK8
  have hS8 : Sx B0 g [(A + 1, pgO q)] [] w W8 := ((Sx.of hF4).kg hK8).add hQ8 (by omega)
  clear hpo hqo n1 nl j1 j2 j3 j4 j5 j6 hp hq hs1 hs2 hz1 hz2 hA4 hpx hqx hpl hpc hql hqc
  go_wp2_with (first
    | (refine wpList_alloc_row rfl 59 rfl (pageC Page.zero) zero59 ?_)
    | (refine wpList_store_row rfl 59 (.tmp 8) (.tmp 35) rfl _ (pageC p0) rfl rfl 59 (pageC Page.zero) (by first | exact hP5.out | (rw [hA, hW5]; exact hP5.out) | (rw [hW5, hA]; exact hP5.out)) (page_size _) (by simp only [pageC_size]) (pageC_oneCell _) ?_; (try rw [hW5]); (try rw [hA]))
    | (refine wpList_store_row rfl 59 (.tmp 9) (.tmp 37) rfl _ (pageC q0) rfl rfl 59 (pageC Page.zero) (by first | exact hQ6.out | (rw [hB4]; exact hQ6.out)) (page_size _) (by simp only [pageC_size]) (pageC_oneCell _) ?_; (try rw [hB4]); rw [hW7])
    | (refine wpList_load_row rfl 59 (.tmp 8) rfl A rfl _ _ _ _ (by first | exact hP8.out | (rw [hW8]; exact hP8.out)) Try.underlying59 rfl (page_size _) ?_)
    | fail)
  try rw [hW8]
  refine (HE1.out _).mono ?_
  rintro e w9 ⟨rfl, hb9⟩
  have hS9 := hS8.step hb9
  have hQ9 : PgAt w9 (A + 1) q := hS9.f.hd
  clear hW5 hW7 hW8 hB4 hS8 hP8 hQ8 hK8 hP7 hQ7 hK7 hP6 hQ6 hP5 hQ5 hK5 hL7 hM7 hf7 hg7 hb9 hF4
  go_wp2_with (refine wpList_load_row rfl 59 (.tmp 9) rfl (A + 1) rfl _ _ _ _ hQ9.out Try.underlying59 rfl (page_size _) ?_)
  refine (HE2.out _).mono ?_
  rintro e w10 ⟨rfl, hb10⟩
  have hS10 := hS9.step hb10
  clear hS9 hb10 hQ9
  go_wp2_with fail
  refine (newIdx_ok 3 _ (by omega) (by omega)).mono ?_
  rintro e w11 ⟨b, rfl, hb, hO, hb11⟩
  have hR11 := hO.rw (g := g) (by have := hS10.lt; omega)
  have hSa := hS10.step hb11
  have hS11 := hSa.box hR11
  have hR11 := hR11.alloc (.cells #[.slice (some ⟨b, 0, none⟩) 3 3] 25)
  obtain ⟨D14, hD14⟩ : ∃ D, w11.heap.size = D := ⟨_, rfl⟩
  obtain ⟨W11, hW11⟩ : ∃ W, w11.alloc (.cells #[.slice (some ⟨b, 0, none⟩) 3 3] 25) = W := ⟨_, rfl⟩
  rw [hW11] at hS11 hR11
  rw [hD14] at hS11
  have HW11 := Lib.hid hW11
  have hQ11 : PgAt W11 (A + 1) q := hS11.f.hd
  have hl11 : W11.cell? ⟨A + 1, 1, none⟩ = some (.int .i64 X2) := by rw [hQ11.lsn, QX.out]
  have hm11 : (w11.alloc (.cells #[.slice (some ⟨b, 0, none⟩) 3 3] 25)).cell? ⟨A + 1, 1, none⟩ = some (.int .i64 X2) := by rw [hW11]; exact hl11
  clear hW11 hS10 hO hb hb11 hSa
  go_wp2_with fail
  rw [HW11.out]
  try rw [hD14]
  refine (HNo.out g _ 3 3 _ (ent7 90 X2 1) WE.out W11 hR11 hS11.lt).mono ?_
  rintro e w12 ⟨a16, n16, c16, rfl, hR12, hb12⟩
  rw [N1.out] at hR12 ⊢
  have hR12 : RwAt w12 g a16 n16 c16 l1 := hR12
  obtain rfl : 3 = n16 := by rw [← hR12.len]; exact NL.out.symm
  have hSa := hS11.step hb12
  have hS12 := hSa.box hR12
  have hR12 := hR12.alloc (.cells #[.slice a16 3 c16] 25)
  obtain ⟨D16, hD16⟩ : ∃ D, w12.heap.size = D := ⟨_, rfl⟩
  obtain ⟨W12, hW12⟩ : ∃ W, w12.alloc (.cells #[.slice a16 3 c16] 25) = W := ⟨_, rfl⟩
  rw [hW12] at hS12 hR12
  rw [hD16] at hS12
  have HW12 := Lib.hid hW12
  have hQ12 : PgAt W12 (A + 1) q := hS12.f.hd
  have hm12 : (w12.alloc (.cells #[.slice a16 3 c16] 25)).cell? ⟨A + 1, 1, none⟩ = some (.int .i64 X2) := by rw [hW12, hQ12.lsn, QX.out]
  clear hW12 hSa hS11 hR11 hQ11 hl11 hm11 hb12 HW11
  go_wp2_with fail
  rw [HW12.out]
  try rw [hD16]
  refine (HJ.out g _ 3 _ l1 1 X2 s1 W12 hR12 (by have := HZ1.out; omega)).mono ?_
  rintro e w13 ⟨rfl, hb13⟩
  rw [J1.out]
  unfold ansP
  have hS13 := (hS12.step hb13).alloc (.cells (pageC Page.zero) 59)
  obtain ⟨W13, hW13⟩ : ∃ W, w13.alloc (.cells (pageC Page.zero) 59) = W := ⟨_, rfl⟩
  rw [hW13] at hS13
  have HW13 := Lib.hid hW13
  clear hW13
  obtain ⟨a16, c16, p16, f16, h16⟩ := (hS13.ix (D := D16) (l := l1) (by simp)).len NL.out
  have hQ13 : PgAt W13 (A + 1) q := hS13.f.hd
  have hl13 : W13.cell? ⟨A + 1, 1, none⟩ = some (.int .i64 X2) := by rw [hQ13.lsn, QX.out]
  clear hS12 hR12 hQ12 hm12 hb13 HW12
  go_wp2_with (first
    | (refine wpList_alloc_row rfl 59 rfl (pageC Page.zero) zero59 ?_)
    | (refine wpList_store_row rfl 59 (.tmp 18) (.tmp 94) rfl _ (pageC Page.zero) rfl rfl _ _ (heap_alloc_new _ _) (page_size _) rfl (pageC_oneCell _) ?_; rw [World.setRow_alloc_new, HW13.out]))
  try simp only [Act.put, List.setIfInBounds_toArray, List.set_cons_zero, List.set_cons_succ]
  apply wp_merge2 (fun (D20 : Nat) (_ : World) W => Kg g W13 W)
  · refine wp_region_held_drew (S := Kg g W13) (by kernel_rfl) (Kg.start hS13.c) (fun hHeld => ?_)
    refine Held.takeL (i := 0) (v := ?_) rfl (by kernel_rfl) (by kernel_rfl) (by kernel_rfl) (fun _ _ _ h => h) (.inl ⟨by kernel_rfl, ?_⟩) (by assumption) ?_
    rotate_left
    · (intro w_ hSw; have p16_ := hSw.cell p16 (hS13.ltX (D16, l1) (by simp)) (hS13.neX (D16, l1) (by simp)); have l13_ := hSw.cell hl13 hQ13.lt (hS13.neL _ (List.mem_cons_self ..)); go_simp; first | done | with_reducible rfl)
    try simp only [Act.put, List.setIfInBounds_toArray, List.set_cons_zero, List.set_cons_succ]
    refine Held.takeL (i := 1) (v := ?_) rfl (by kernel_rfl) (by kernel_rfl) (by kernel_rfl) (fun _ _ _ h => h) (.inl ⟨by kernel_rfl, ?_⟩) (by assumption) ?_
    rotate_left
    · (intro w_ hSw; go_simp; first | done | with_reducible rfl)
    try simp only [Act.put, List.setIfInBounds_toArray, List.set_cons_zero, List.set_cons_succ]
    refine Held.takeL (i := 2) (v := ?_) rfl (by kernel_rfl) (by kernel_rfl) (by kernel_rfl) (fun _ _ _ h => h) (.inl ⟨by kernel_rfl, ?_⟩) (by assumption) ?_
    rotate_left
    · (intro w_ hSw; have p16_ := hSw.cell p16 (hS13.ltX (D16, l1) (by simp)) (hS13.neX (D16, l1) (by simp)); have l13_ := hSw.cell hl13 hQ13.lt (hS13.neL _ (List.mem_cons_self ..)); go_simp; first | done | with_reducible rfl)
    try simp only [Act.put, List.setIfInBounds_toArray, List.set_cons_zero, List.set_cons_succ]
    refine wpAnyH_ready (rs := [3, 8]) (by kernel_rfl) (by simp) ?_
    refine Held.consL rfl (fun K hK => ?_) (Held.consL rfl (fun K hK => ?_) AllReadyH.nil)
    · go_simp
      refine (blank_calls _).mono ?_
      rintro e_ wb_ ⟨rfl, hbk⟩
      have hH := hHeld.step hbk
      refine hK.out _ _ hH (fun hHeld => ?_)
      clear hK K
      try simp only [Act.put, List.setIfInBounds_toArray, List.set_cons_zero, List.set_cons_succ]
      clear hH hbk
      refine wpAnyH_ready (rs := [4, 8]) (by kernel_rfl) (by simp) ?_
      refine Held.consL rfl (fun K hK => ?_) (Held.consL rfl (fun K hK => ?_) AllReadyH.nil)
      · go_simp
        refine (HJ.out g _ 3 _ l1 1 X2 (zeros 256) _ (h16.kb hHeld.k) (by rw [zeros_size]; omega)).mono ?_
        rintro e_ wb_ ⟨rfl, hbk⟩
        rw [J2.out]
        unfold ansP
        have hH := hHeld.step hbk
        refine hK.out _ _ hH (fun hHeld => ?_)
        clear hK K
        try simp only [Act.put, List.setIfInBounds_toArray, List.set_cons_zero, List.set_cons_succ]
        clear hH hbk
        refine Held.takeL (i := 5) (v := ?_) rfl (by kernel_rfl) (by kernel_rfl) (by kernel_rfl) (fun _ _ _ h => h) (.inl ⟨by kernel_rfl, ?_⟩) (by assumption) ?_
        rotate_left
        · (intro w_ hSw; go_simp; first | done | with_reducible rfl)
        try simp only [Act.put, List.setIfInBounds_toArray, List.set_cons_zero, List.set_cons_succ]
        refine Held.takeL (i := 6) (v := ?_) rfl (by kernel_rfl) (by kernel_rfl) (by kernel_rfl) (fun _ _ _ h => h) (.inl ⟨by kernel_rfl, ?_⟩) (by assumption) ?_
        rotate_left
        · (intro w_ hSw; go_simp; first | done | with_reducible rfl)
        try simp only [Act.put, List.setIfInBounds_toArray, List.set_cons_zero, List.set_cons_succ]
        refine Held.takeL (i := 7) (v := ?_) rfl (by kernel_rfl) (by kernel_rfl) (by kernel_rfl) (fun _ _ _ h => h) (.inl ⟨by kernel_rfl, ?_⟩) (by assumption) ?_
        rotate_left
        · (intro w_ hSw; go_simp; first | done | with_reducible rfl)
        try simp only [Act.put, List.setIfInBounds_toArray, List.set_cons_zero, List.set_cons_succ]
        refine wpAnyH_ready (rs := [8]) (by kernel_rfl) (by simp) ?_
        refine Held.consL rfl (fun K hK => ?_) AllReadyH.nil
        rw [if_pos (by kernel_rfl)]
        refine wp_alloc_new 59 (by kernel_rfl) _ zero59 ?_
        rintro D20 wa_ hD20 hT hba
        have hg20 : g < D20 := Nat.lt_of_lt_of_le hHeld.lt hD20
        have hD20 : W13.heap.size ≤ D20 := Nat.le_trans hHeld.k.size hD20
        have hH := hHeld.step hba
        refine hK.out _ _ hH (fun hHeld => ?_)
        clear hK K
        try simp only [Act.put, List.setIfInBounds_toArray, List.set_cons_zero, List.set_cons_succ]
        clear hH hba
        refine wpAnyH_ready (rs := [9]) (by kernel_rfl) (by simp) ?_
        refine Held.consL rfl (fun K hK => ?_) AllReadyH.nil
        rw [if_pos (by kernel_rfl)]
        refine wp_store_page (.tmp 20) (.tmp 102) (by kernel_rfl) D20 Page.zero Page.zero (by rfl) (by rfl) hT ?_
        intro wz_ hT2 hbel
        have hH := hHeld.high hD20 hg20 (hbel _ _ (Nat.le_refl _) (Below.refl _ _))
        refine hK.out _ _ hH (fun hHeld => ?_)
        clear hK K
        try simp only [Act.put, List.setIfInBounds_toArray, List.set_cons_zero, List.set_cons_succ]
        clear hH
        refine Held.takeL (i := 10) (v := ?_) rfl (by kernel_rfl) (by kernel_rfl) (by kernel_rfl) (fun _ _ _ h => h) (.inl ⟨by kernel_rfl, ?_⟩) (by assumption) ?_
        rotate_left
        · (intro w_ hSw; go_simp; first | done | with_reducible rfl)
        try simp only [Act.put, List.setIfInBounds_toArray, List.set_cons_zero, List.set_cons_succ]
        refine wpAnyH_done (by kernel_rfl) ?_ _
        exact Merge2.mk D20 wz_ hHeld
      · rw [if_pos (by kernel_rfl)]
        refine wp_alloc_new 59 (by kernel_rfl) _ zero59 ?_
        rintro D20 wa_ hD20 hT hba
        have hg20 : g < D20 := Nat.lt_of_lt_of_le hHeld.lt hD20
        have hD20 : W13.heap.size ≤ D20 := Nat.le_trans hHeld.k.size hD20
        have hH := hHeld.step hba
        refine hK.out _ _ hH (fun hHeld => ?_)
        clear hK K
        try simp only [Act.put, List.setIfInBounds_toArray, List.set_cons_zero, List.set_cons_succ]
        clear hH hba
        refine wpAnyH_ready (rs := [4]) (by kernel_rfl) (by simp) ?_
        refine Held.consL rfl (fun K hK => ?_) AllReadyH.nil
        go_simp
        refine (HJ.out g _ 3 _ l1 1 X2 (zeros 256) _ (h16.kb hHeld.k) (by rw [zeros_size]; omega)).mono ?_
        rintro e_ wb_ ⟨rfl, hbk⟩
        rw [J2.out]
        unfold ansP
        have hH := hHeld.step hbk
        have hT := (hbk.block D20 (heap_lt hT)).trans hT
        refine hK.out _ _ hH (fun hHeld => ?_)
        clear hK K
        try simp only [Act.put, List.setIfInBounds_toArray, List.set_cons_zero, List.set_cons_succ]
        clear hH hbk
        refine Held.takeL (i := 5) (v := ?_) rfl (by kernel_rfl) (by kernel_rfl) (by kernel_rfl) (fun _ _ _ h => h) (.inl ⟨by kernel_rfl, ?_⟩) (by assumption) ?_
        rotate_left
        · (intro w_ hSw; go_simp; first | done | with_reducible rfl)
        try simp only [Act.put, List.setIfInBounds_toArray, List.set_cons_zero, List.set_cons_succ]
        refine Held.takeL (i := 6) (v := ?_) rfl (by kernel_rfl) (by kernel_rfl) (by kernel_rfl) (fun _ _ _ h => h) (.inl ⟨by kernel_rfl, ?_⟩) (by assumption) ?_
        rotate_left
        · (intro w_ hSw; go_simp; first | done | with_reducible rfl)
        try simp only [Act.put, List.setIfInBounds_toArray, List.set_cons_zero, List.set_cons_succ]
        refine Held.takeL (i := 7) (v := ?_) rfl (by kernel_rfl) (by kernel_rfl) (by kernel_rfl) (fun _ _ _ h => h) (.inl ⟨by kernel_rfl, ?_⟩) (by assumption) ?_
        rotate_left
        · (intro w_ hSw; go_simp; first | done | with_reducible rfl)
        try simp only [Act.put, List.setIfInBounds_toArray, List.set_cons_zero, List.set_cons_succ]
        refine wpAnyH_ready (rs := [9]) (by kernel_rfl) (by simp) ?_
        refine Held.consL rfl (fun K hK => ?_) AllReadyH.nil
        rw [if_pos (by kernel_rfl)]
        refine wp_store_page (.tmp 20) (.tmp 102) (by kernel_rfl) D20 Page.zero Page.zero (by rfl) (by rfl) hT ?_
        intro wz_ hT2 hbel
        have hH := hHeld.high hD20 hg20 (hbel _ _ (Nat.le_refl _) (Below.refl _ _))
        refine hK.out _ _ hH (fun hHeld => ?_)
        clear hK K
        try simp only [Act.put, List.setIfInBounds_toArray, List.set_cons_zero, List.set_cons_succ]
        clear hH
        refine Held.takeL (i := 10) (v := ?_) rfl (by kernel_rfl) (by kernel_rfl) (by kernel_rfl) (fun _ _ _ h => h) (.inl ⟨by kernel_rfl, ?_⟩) (by assumption) ?_
        rotate_left
        · (intro w_ hSw; go_simp; first | done | with_reducible rfl)
        try simp only [Act.put, List.setIfInBounds_toArray, List.set_cons_zero, List.set_cons_succ]
        refine wpAnyH_done (by kernel_rfl) ?_ _
        exact Merge2.mk D20 wz_ hHeld
    · rw [if_pos (by kernel_rfl)]
      refine wp_alloc_new 59 (by kernel_rfl) _ zero59 ?_
      rintro D20 wa_ hD20 hT hba
      have hg20 : g < D20 := Nat.lt_of_lt_of_le hHeld.lt hD20
      have hD20 : W13.heap.size ≤ D20 := Nat.le_trans hHeld.k.size hD20
      have hH := hHeld.step hba
      refine hK.out _ _ hH (fun hHeld => ?_)
      clear hK K
      try simp only [Act.put, List.setIfInBounds_toArray, List.set_cons_zero, List.set_cons_succ]
      clear hH hba
      refine wpAnyH_ready (rs := [3]) (by kernel_rfl) (by simp) ?_
      refine Held.consL rfl (fun K hK => ?_) AllReadyH.nil
      go_simp
      refine (blank_calls _).mono ?_
      rintro e_ wb_ ⟨rfl, hbk⟩
      have hH := hHeld.step hbk
      have hT := (hbk.block D20 (heap_lt hT)).trans hT
      refine hK.out _ _ hH (fun hHeld => ?_)
      clear hK K
      try simp only [Act.put, List.setIfInBounds_toArray, List.set_cons_zero, List.set_cons_succ]
      clear hH hbk
      refine wpAnyH_ready (rs := [4]) (by kernel_rfl) (by simp) ?_
      refine Held.consL rfl (fun K hK => ?_) AllReadyH.nil
      go_simp
      refine (HJ.out g _ 3 _ l1 1 X2 (zeros 256) _ (h16.kb hHeld.k) (by rw [zeros_size]; omega)).mono ?_
      rintro e_ wb_ ⟨rfl, hbk⟩
      rw [J2.out]
      unfold ansP
      have hH := hHeld.step hbk
      have hT := (hbk.block D20 (heap_lt hT)).trans hT
      refine hK.out _ _ hH (fun hHeld => ?_)
      clear hK K
      try simp only [Act.put, List.setIfInBounds_toArray, List.set_cons_zero, List.set_cons_succ]
      clear hH hbk
      refine Held.takeL (i := 5) (v := ?_) rfl (by kernel_rfl) (by kernel_rfl) (by kernel_rfl) (fun _ _ _ h => h) (.inl ⟨by kernel_rfl, ?_⟩) (by assumption) ?_
      rotate_left
      · (intro w_ hSw; go_simp; first | done | with_reducible rfl)
      try simp only [Act.put, List.setIfInBounds_toArray, List.set_cons_zero, List.set_cons_succ]
      refine Held.takeL (i := 6) (v := ?_) rfl (by kernel_rfl) (by kernel_rfl) (by kernel_rfl) (fun _ _ _ h => h) (.inl ⟨by kernel_rfl, ?_⟩) (by assumption) ?_
      rotate_left
      · (intro w_ hSw; go_simp; first | done | with_reducible rfl)
      try simp only [Act.put, List.setIfInBounds_toArray, List.set_cons_zero, List.set_cons_succ]
      refine Held.takeL (i := 7) (v := ?_) rfl (by kernel_rfl) (by kernel_rfl) (by kernel_rfl) (fun _ _ _ h => h) (.inl ⟨by kernel_rfl, ?_⟩) (by assumption) ?_
      rotate_left
      · (intro w_ hSw; go_simp; first | done | with_reducible rfl)
      try simp only [Act.put, List.setIfInBounds_toArray, List.set_cons_zero, List.set_cons_succ]
      refine wpAnyH_ready (rs := [9]) (by kernel_rfl) (by simp) ?_
      refine Held.consL rfl (fun K hK => ?_) AllReadyH.nil
      rw [if_pos (by kernel_rfl)]
      refine wp_store_page (.tmp 20) (.tmp 102) (by kernel_rfl) D20 Page.zero Page.zero (by rfl) (by rfl) hT ?_
      intro wz_ hT2 hbel
      have hH := hHeld.high hD20 hg20 (hbel _ _ (Nat.le_refl _) (Below.refl _ _))
      refine hK.out _ _ hH (fun hHeld => ?_)
      clear hK K
      try simp only [Act.put, List.setIfInBounds_toArray, List.set_cons_zero, List.set_cons_succ]
      clear hH
      refine Held.takeL (i := 10) (v := ?_) rfl (by kernel_rfl) (by kernel_rfl) (by kernel_rfl) (fun _ _ _ h => h) (.inl ⟨by kernel_rfl, ?_⟩) (by assumption) ?_
      rotate_left
      · (intro w_ hSw; go_simp; first | done | with_reducible rfl)
      try simp only [Act.put, List.setIfInBounds_toArray, List.set_cons_zero, List.set_cons_succ]
      refine wpAnyH_done (by kernel_rfl) ?_ _
      exact Merge2.mk D20 wz_ hHeld
  rintro D20 w_ w14 hG
  have hS14 := hS13.kg hG
  have wx1 : IntKind.i64.wrap (X2 - 1) = X2 - 1 := IntWalk.i64_in _ (by omega)
  clear hS13 hG p16 f16 h16 hQ13 hl13
  obtain ⟨aq, cq, pq, fq, hq⟩ := (hS14.ix (D := D16) (l := l1) (by simp)).len NL.out
  go_wp2_with fail
  refine (HJ.out g _ 3 _ l1 2 0 s2 _ hq (by have := HZ2.out; omega)).mono ?_
  rintro e w15 ⟨rfl, hb⟩
  rw [J3.out]
  unfold ansP
  have hS15 := (hS14.step hb).alloc (.cells (pageC Page.zero) 59)
  obtain ⟨W15, hW15⟩ : ∃ W, w15.alloc (.cells (pageC Page.zero) 59) = W := ⟨_, rfl⟩
  rw [hW15] at hS15
  have HW15 := Lib.hid hW15
  clear hW15 hb hS14 pq fq hq
  obtain ⟨aq, cq, pq, fq, hq⟩ := (hS15.ix (D := D16) (l := l1) (by simp)).len NL.out
  have hlq : W15.cell? ⟨A + 1, 1, none⟩ = some (.int .i64 X2) := by rw [(show PgAt W15 (A + 1) q from hS15.get (b := A + 1) (o := pgO q) (by simp)).lsn, QX.out]
  go_wp2_with (first
    | (refine wpList_alloc_row rfl 59 rfl (pageC Page.zero) zero59 ?_)
    | (refine wpList_store_row rfl 59 (.tmp 22) (.tmp 108) rfl _ (pageC Page.zero) rfl rfl _ _ (heap_alloc_new _ _) (page_size _) (by simp only [pageC_size]) (pageC_oneCell _) ?_; rw [World.setRow_alloc_new, HW15.out]))
  clear hlq
  refine (HJ.out g _ 3 _ l1 1 X2 s2 _ hq (by have := HZ2.out; omega)).mono ?_
  rintro e w16 ⟨rfl, hb⟩
  rw [J4.out]
  unfold ansP
  have hS16 := (hS15.step hb).new (pageC q) 59
  obtain ⟨D24, hD24⟩ : ∃ D, w16.heap.size = D := ⟨_, rfl⟩
  obtain ⟨W16, hW16⟩ : ∃ W, w16.alloc (.cells (pageC q) 59) = W := ⟨_, rfl⟩
  rw [hW16] at hS16
  rw [hD24] at hS16
  have HW16 := Lib.hid hW16
  clear hW16 hb hS15 pq fq hq
  obtain ⟨aq, cq, pq, fq, hq⟩ := (hS16.ix (D := D14) (l := (List.replicate 3 Row3.zero)) (by simp)).len (rfl : (List.replicate 3 Row3.zero).length = 3)
  have hlq : W16.cell? ⟨A + 1, 1, none⟩ = some (.int .i64 X2) := by rw [(show PgAt W16 (A + 1) q from hS16.get (b := A + 1) (o := pgO q) (by simp)).lsn, QX.out]
  go_wp2_with (first
    | (refine wpList_alloc_row rfl 59 rfl (pageC Page.zero) zero59 ?_)
    | (refine wpList_store_row rfl 59 (.tmp 24) (.tmp 116) rfl _ (pageC q) rfl rfl _ _ (heap_alloc_new _ _) (page_size _) (by simp only [pageC_size]) (pageC_oneCell _) ?_; rw [World.setRow_alloc_new, HW16.out]))
  clear hlq
  try rw [hD24]
  refine (HJ.out g _ 3 _ (List.replicate 3 Row3.zero) 1 X2 s2 _ hq (by have := HZ2.out; omega)).mono ?_
  rintro e w17 ⟨rfl, hb⟩
  rw [J5.out]
  unfold ansP
  have hS17 := (hS16.step hb).new (pageC q) 59
  obtain ⟨D26, hD26⟩ : ∃ D, w17.heap.size = D := ⟨_, rfl⟩
  obtain ⟨W17, hW17⟩ : ∃ W, w17.alloc (.cells (pageC q) 59) = W := ⟨_, rfl⟩
  rw [hW17] at hS17
  rw [hD26] at hS17
  have HW17 := Lib.hid hW17
  clear hW17 hb hS16 pq fq hq
  obtain ⟨aq, cq, pq, fq, hq⟩ := (hS17.ix (D := D14) (l := (List.replicate 3 Row3.zero)) (by simp)).len (rfl : (List.replicate 3 Row3.zero).length = 3)
  have hlq : W17.cell? ⟨A + 1, 1, none⟩ = some (.int .i64 X2) := by rw [(show PgAt W17 (A + 1) q from hS17.get (b := A + 1) (o := pgO q) (by simp)).lsn, QX.out]
  go_wp2_with (first
    | (refine wpList_alloc_row rfl 59 rfl (pageC Page.zero) zero59 ?_)
    | (refine wpList_store_row rfl 59 (.tmp 26) (.tmp 124) rfl _ (pageC q) rfl rfl _ _ (heap_alloc_new _ _) (page_size _) (by simp only [pageC_size]) (pageC_oneCell _) ?_; rw [World.setRow_alloc_new, HW17.out]))
  clear hlq
  try rw [hD26]
  refine (HJ.out g _ 3 _ (List.replicate 3 Row3.zero) 1 (X2 - 1) s2 _ hq (by have := HZ2.out; omega)).mono ?_
  rintro e w18 ⟨rfl, hb⟩
  rw [J6.out]
  unfold ansP
  have hS18 := (hS17.step hb).alloc (.cells (pageC Page.zero) 59)
  obtain ⟨W18, hW18⟩ : ∃ W, w18.alloc (.cells (pageC Page.zero) 59) = W := ⟨_, rfl⟩
  rw [hW18] at hS18
  have HW18 := Lib.hid hW18
  clear hW18 hb hS17 pq fq hq
  have g9 : W18.heap[A + 1]? = some (.cells (pageC q) 59 (0, 0)) := hS18.get (b := A + 1) (o := pgO q) (by simp)
  have g24 : W18.heap[D24]? = some (.cells (pageC q) 59 (0, 0)) := hS18.get (b := D24) (o := pgO q) (by simp)
  have g26 : W18.heap[D26]? = some (.cells (pageC q) 59 (0, 0)) := hS18.get (b := D26) (o := pgO q) (by simp)
  have hF := Lib.hid hS18.out
  clear hS18
  go_wp2_with (first
    | (refine wpList_alloc_row rfl 59 rfl (pageC Page.zero) zero59 ?_)
    | (refine wpList_store_row rfl 59 (.tmp 28) (.tmp 133) rfl _ (pageC Page.zero) rfl rfl _ _ (heap_alloc_new _ _) (page_size _) rfl (pageC_oneCell _) ?_; rw [World.setRow_alloc_new, HW18.out])
    | (refine wpList_load_row_g (by rfl) 59 (.tmp 24) rfl D24 rfl 59 (pageC q) (0, 0) _ g24 Try.underlying59 rfl (page_size _) ?_)
    | (refine wpList_load_row_g (by rfl) 59 (.tmp 26) rfl D26 rfl 59 (pageC q) (0, 0) _ g26 Try.underlying59 rfl (page_size _) ?_)
    | (refine wpList_load_row_g (by rfl) 59 (.tmp 9) rfl (A + 1) rfl 59 (pageC q) (0, 0) _ g9 Try.underlying59 rfl (page_size _) ?_)
    | (refine wpList_self59 (by rfl) (.tmp 150) (.tmp 151) 59 rfl q rfl rfl hwq.out ?_)
    | (refine wpList_self59 (by rfl) (.tmp 159) (.tmp 160) 59 rfl q rfl rfl hwq.out ?_))
  go_ret
  exact ⟨rfl, hF.out⟩
theorem u8_range {v : Int} (hv : (Lit.int .u8 v).wf = true) : 0 ≤ v ∧ v < 256 := by
  simp only [Lit.wf, Bool.and_eq_true, decide_eq_true_eq, show IntKind.u8.min = 0 from rfl, show IntKind.u8.max = 255 from rfl] at hv
  omega
/-- .. as the row asks it. -/
theorem finds_wf (a : Option Addr) (n c : Nat) (x1 x2 : Int) (w : World) (h : Ls w a n c) (hx1 : (Lit.int .u8 x1).wf = true) (hx2 : (Lit.int .u8 x2).wf = true) :
    Calls Try.prog 8 #[.slice a n c, .int .u8 x1, .int .u8 x2] w fun e w' => e = .returned (.bool true) ∧ Below w.heap.size w w' := finds_calls a n c x1 x2 w h (u8_range hx1) (u8_range hx2)
end Go.Proofs.Ytldkgmodmpnclaa
