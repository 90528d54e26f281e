/- Law 11: what its walks share, and plain laws of indices. -/
import Derived.Test.YtldkgmodmpnclaaDrawG
import Derived.Test.YtldkgmodmpnclaaIdxJ
/-! Law 11: what the laws' walks keep of indices in boxes; entries of kind 7; the reference awake. -/
namespace Go.Proofs.Ytldkgmodmpnclaa
open Go.RowKit Go.Proofs
set_option linter.unusedVariables false
set_option linter.unusedSimpArgs false
/-- A box with an index. -/
def Ix (w : World) (g D : Nat) (l : List Row3) : Prop := ∃ a n c, w.heap[D]? = some (.cells #[.slice a n c] 25 (0, 0)) ∧ RwAt w g a n c l ∧ D ≠ g
theorem RwAt.ne_box {w : World} {g n c D : Nat} {a : Option Addr} {l : List Row3} {x : Option Addr} {y z : Nat} {t : TypeId} {fr : Nat × Nat} (h : RwAt w g a n c l) (hD : w.heap[D]? = some (.cells #[.slice x y z] t fr)) : ∀ b off, a = some ⟨b, off, none⟩ → n ≠ 0 → b ≠ D := by
  rintro b off rfl hn rfl
  obtain ⟨b', off', e, _, hc⟩ := h.at_.resolve_left hn
  cases e
  have hl := h.len
  have := (hc 0 (l[0]'(by omega)) (by simp)).1
  rw [heap_cell hD] at this
  rcases off with _ | off
  · simp at this
  · simp at this
theorem Ix.below {w w' : World} {g D : Nat} {l : List Row3} (h : Ix w g D l) (hb : Below w.heap.size w w') : Ix w' g D l := by
  obtain ⟨a, n, c, h1, h2, h3⟩ := h
  exact ⟨a, n, c, (hb.block D (heap_lt h1)).trans h1, h2.below hb, h3⟩
theorem Ix.kb {w w' : World} {g D : Nat} {l : List Row3} (h : Ix w g D l) (hb : KB g w w') : Ix w' g D l := by
  obtain ⟨a, n, c, h1, h2, h3⟩ := h
  exact ⟨a, n, c, (hb.block D (heap_lt h1) h3).trans h1, h2.kb hb, h3⟩
theorem Ix.other {w : World} {g D D' : Nat} {l l' : List Row3} (h : Ix w g D l) (h' : Ix w g D' l') (hne : D ≠ D') (v : Value) : Ix (w.setCell ⟨D', 0, none⟩ v) g D l := by
  obtain ⟨a, n, c, h1, h2, h3⟩ := h
  obtain ⟨a', n', c', h1', _, _⟩ := h'
  exact ⟨a, n, c, (heap_setCell_other _ _ _ _ hne).trans h1, h2.setCell (h2.ne_box h1') _ _, h3⟩
theorem Ix.set {w : World} {g D : Nat} {l l' : List Row3} (h : Ix w g D l) {a : Option Addr} {n c : Nat} (hr : RwAt w g a n c l') : Ix (w.setCell ⟨D, 0, none⟩ (.slice a n c)) g D l' := by
  obtain ⟨a', n', c', h1', _, h3⟩ := h
  exact ⟨a, n, c, by rw [heap_setCell_same _ _ _ _ _ _ h1']; rfl, hr.setCell (hr.ne_box h1') _ _, h3⟩
/-- A box with an index, opened. -/
theorem Ix.get {w : World} {g D : Nat} {l : List Row3} (h : Ix w g D l) : ∃ a n c, w.heap[D]? = some (.cells #[.slice a n c] 25 (0, 0)) ∧ w.cell? ⟨D, 0, none⟩ = some (.slice a n c) ∧ w.frozen? ⟨D, 0, none⟩ = false ∧ RwAt w g a n c l := by
  obtain ⟨a, n, c, h1, h2, h3⟩ := h
  exact ⟨a, n, c, h1, by rw [heap_cell h1]; rfl, heap_free h1 0, h2⟩
theorem Ix.new {w : World} {g : Nat} {l : List Row3} (hg : g < w.heap.size) {a : Option Addr} {n c : Nat} (hr : RwAt w g a n c l) : Ix (w.alloc (.cells #[.slice a n c] 25)) g w.heap.size l :=
  ⟨a, n, c, heap_alloc_new _ _, hr.alloc _, by omega⟩
structure Sx (B g : Nat) (L : List (Nat × Obj)) (X : List (Nat × List Row3)) (w0 w : World) : Prop where
  f : Fx B g L w0 w
  x : ∀ p ∈ X, Ix w g p.1 p.2
namespace Sx
variable {B g : Nat} {L : List (Nat × Obj)} {X : List (Nat × List Row3)} {w0 w w' : World}
theorem of (h : Fr B g w0 w) : Sx B g [] [] w0 w := ⟨Fx.of h, fun x hx => by cases hx⟩
theorem c (h : Sx B g L X w0 w) : Cs w g := h.f.c
theorem lt (h : Sx B g L X w0 w) : g < w.heap.size := h.f.f.lt
theorem out (h : Sx B g L X w0 w) : Below B w0 w := h.f.out
theorem kb (h : Sx B g L X w0 w) (hk : KB g w w') (hc : Cs w' g) : Sx B g L X w0 w' := ⟨h.f.kb hk hc, fun p hp => (h.x p hp).kb hk⟩
theorem step (h : Sx B g L X w0 w) (hb : Below w.heap.size w w') : Sx B g L X w0 w' := ⟨h.f.step hb, fun p hp => (h.x p hp).below hb⟩
theorem alloc (h : Sx B g L X w0 w) (o : Obj) : Sx B g L X w0 (w.alloc o) := h.step ((Below.refl _ _).alloc (Nat.le_refl _) o)
theorem drew (h : Sx B g L X w0 w) : Sx B g L X w0 w.drew := h.step (Below.refl _ _).drew
theorem new (h : Sx B g L X w0 w) (cs : Array Value) (t : TypeId) : Sx B g ((w.heap.size, .cells cs t (0, 0)) :: L) X w0 (w.alloc (.cells cs t (0, 0))) :=
  ⟨h.f.new cs t, fun p hp => (h.x p hp).below ((Below.refl _ _).alloc (Nat.le_refl _) _)⟩
theorem box (h : Sx B g L X w0 w) {l : List Row3} {a : Option Addr} {n c : Nat} (hr : RwAt w g a n c l) : Sx B g L ((w.heap.size, l) :: X) w0 (w.alloc (.cells #[.slice a n c] 25)) :=
  ⟨h.f.alloc _, fun p hp => by
    rcases List.mem_cons.1 hp with rfl | hp
    · exact Ix.new h.lt hr
    · exact (h.x p hp).below ((Below.refl _ _).alloc (Nat.le_refl _) _)⟩
theorem get (h : Sx B g L X w0 w) {b : Nat} {o : Obj} (hx : (b, o) ∈ L) : w.heap[b]? = some o := h.f.get hx
theorem ix (h : Sx B g L X w0 w) {D : Nat} {l : List Row3} (hx : (D, l) ∈ X) : Ix w g D l := h.x _ hx
theorem set {D : Nat} {l l' : List Row3} (h : Sx B g L ((D, l) :: X) w0 w) (hg : g < D) (hL : ∀ x ∈ L, x.1 ≠ D) (hX : ∀ x ∈ X, x.1 ≠ D) {a : Option Addr} {n c : Nat} (hr : RwAt w g a n c l') : Sx B g L ((D, l') :: X) w0 (w.setCell ⟨D, 0, none⟩ (.slice a n c)) :=
  ⟨h.f.set hg hL _ _, fun p hp => by
    have hD := h.x (D, l) (List.mem_cons_self ..)
    rcases List.mem_cons.1 hp with rfl | hp
    · exact hD.set hr
    · exact (h.x p (List.mem_cons_of_mem _ hp)).other hD (hX p hp) _⟩
theorem row {D : Nat} {old : Array Value} {t : TypeId} (h : Sx B g ((D, .cells old t (0, 0)) :: L) X w0 w) (hg : g < D) (hne : ∀ x ∈ L, x.1 ≠ D) (hX : ∀ p ∈ X, Ix w g p.1 p.2 → ∀ cs, Ix (w.setRow D cs) g p.1 p.2) (cs : Array Value) : Sx B g ((D, .cells cs t (0, 0)) :: L) X w0 (w.setRow D cs) :=
  ⟨h.f.row hg hne cs, fun p hp => hX p hp (h.x p hp) cs⟩
theorem swap {y z : Nat × List Row3} (h : Sx B g L (y :: z :: X) w0 w) : Sx B g L (z :: y :: X) w0 w := ⟨h.f, fun p hp => h.x p (by
  rcases List.mem_cons.1 hp with rfl | hp
  · simp
  · rcases List.mem_cons.1 hp with rfl | hp
    · simp
    · simp [hp])⟩
theorem sub (h : Sx B g L X w0 w) {L' : List (Nat × Obj)} {X' : List (Nat × List Row3)} (hs : ∀ x ∈ L', x ∈ L) (hx : ∀ x ∈ X', x ∈ X) : Sx B g L' X' w0 w := ⟨h.f.sub hs, fun p hp => h.x p (hx p hp)⟩
end Sx
/-- An entry of kind 7: it names a page. -/
def ent7 (lsn ref page : Int) : Ent := ⟨lsn, 7, 0, 0, 0, ref, ⟨page, 0, ⟨false, ByteArray.empty⟩, ⟨false, ByteArray.empty⟩⟩, ByteArray.empty⟩
theorem wf_range (n : Int) (h0 : 0 ≤ n) (h1 : n ≤ 1000000) : wf64 n := by
  have e1 : IntKind.i64.min = -9223372036854775808 := rfl
  have e2 : IntKind.i64.max = 9223372036854775807 := rfl
  simp [wf64, Lit.wf, e1, e2]
  omega
theorem ent7_wf {lsn ref page : Int} (h1 : 0 ≤ lsn ∧ lsn ≤ 1000000) (h2 : 0 ≤ ref ∧ ref ≤ 1000000) (h3 : 0 ≤ page ∧ page ≤ 1000000) : EntWf (ent7 lsn ref page) :=
  ⟨wf_range _ h1.1 h1.2, rfl, rfl, rfl, rfl, wf_range _ h2.1 h2.2, ⟨wf_range _ h3.1 h3.2, rfl, Nat.zero_le _, Nat.zero_le _⟩, Nat.zero_le _⟩
theorem ent7_ok {lsn ref page : Int} (h1 : 1 ≤ lsn ∧ lsn ≤ 1000000) (h2 : 0 ≤ ref ∧ ref < lsn) (h3 : 0 ≤ page ∧ page ≤ 60) : entOk (ent7 lsn ref page) = true := by
  have hp : paged page = true := by simp [paged]; omega
  have hb : before ref lsn = true := by simp [before]; omega
  have hb0 : before 0 lsn = true := by simp [before]; omega
  have hh : headOk (ent7 lsn ref page) = true := by
    unfold headOk ent7
    simp only [hb, hb0]
    simp
    omega
  have hk : kindRes (ent7 lsn ref page) = ruleRes false false false true false true (decide ((ent7 lsn ref page).chg = Chg.only page) && paged page) (ent7 lsn ref page) := rfl
  have hc : (ent7 lsn ref page).chg = Chg.only page := rfl
  have he : ByteArray.empty.toList.isEmpty = true := by simp
  unfold entOk
  rw [hh, hk, hc, hp]
  simp [ruleRes, ent7, he]
/-- The rows of a slice, and a box that holds no row, after a store to the box. -/
theorem RwAt.store {w : World} {D n c : Nat} {a : Option Addr} {l : List Row3} (h : RwAt w D a n c l) (v : Value) : RwAt (w.setCell ⟨D, 0, none⟩ v) D a n c l := by
  refine h.setCell (fun b off ha hn => ?_) _ _
  obtain ⟨b', off', e, hg, _⟩ := h.at_.resolve_left hn
  rw [ha] at e
  cases e
  exact hg
set_option maxHeartbeats 1000000 in
set_option maxRecDepth 100000 in
theorem awake11_calls (w : World) : Calls Try.prog 14 #[] w fun e w' => e = .returned (.bool true) ∧ Below w.heap.size w w' := by
  have hE1 := ent7_ok (lsn := 9) (ref := 5) (page := 1) (by omega) (by omega) (by omega)
  have hE2 := ent7_ok (lsn := 10) (ref := 3) (page := 1) (by omega) (by omega) (by omega)
  have hW1 := ent7_wf (lsn := 9) (ref := 5) (page := 1) (by omega) (by omega) (by omega)
  have hW2 := ent7_wf (lsn := 10) (ref := 3) (page := 1) (by omega) (by omega) (by omega)
  have hz1 := noteI_ok (l := List.replicate 2 Row3.zero) (e := ent7 9 5 1) (i := 1) (r := Row3.zero) rfl hE1 rfl rfl rfl
  have hz2 := noteI_ok (l := (List.replicate 2 Row3.zero).set 1 ⟨max Row3.zero.lsn (ent7 9 5 1).ref, Row3.zero.image, Row3.zero.ilsn⟩) (e := ent7 10 3 1) (i := 1) (r := ⟨5, 0, 0⟩) rfl hE2 rfl rfl rfl
  have HN := Lib.hid (fun g a n c l e he W h hg => note_calls g a n c l e he W h hg)
  have HZ1 := Lib.hid hz1; have HZ2 := Lib.hid hz2; have HW1 := Lib.hid hW1; have HW2 := Lib.hid hW2
  clear hE1 hE2 hz1 hz2 hW1 hW2
  go_enter Try.func14, Try.ntmps14
  go_wp2_with fail
  refine (newIdx_ok 2 _ (by omega) (by omega)).mono ?_
  rintro e w1 ⟨b, rfl, hb, hO, hb1⟩
  have hlt := hO.lt
  obtain ⟨D, hD⟩ : ∃ D, w1.heap.size = D := ⟨_, rfl⟩
  have hR := (hO.rw (g := D) (by omega)).alloc (.cells #[.slice (some ⟨b, 0, none⟩) 2 2] 25)
  have hQ := heap_alloc_new w1 (.cells #[.slice (some ⟨b, 0, none⟩) 2 2] 25)
  have hbw := hb1.alloc (hb1.size) (.cells #[.slice (some ⟨b, 0, none⟩) 2 2] 25)
  have hs1 := hb1.size
  rw [hD] at hQ
  clear hO hb1
  go_wp2_with fail
  obtain ⟨W, hW⟩ : ∃ W, w1.alloc (.cells #[.slice (some ⟨b, 0, none⟩) 2 2] 25) = W := ⟨_, rfl⟩
  rw [hW] at hR hQ hbw ⊢
  refine (HN.out D _ 2 2 _ (ent7 9 5 1) HW1.out W hR (heap_lt hQ)).mono ?_
  rintro e w2 ⟨a2, n2, c2, rfl, hR2, hb2⟩
  rw [HZ1.out] at hR2 ⊢
  have hQ2 := (hb2.block D (heap_lt hQ)).trans hQ
  have hbw2 := hbw.trans (hb2.mono hbw.size)
  have hf2 := heap_free hQ2 0
  have hc2 : w2.cell? ⟨D, 0, none⟩ = some (.slice (some ⟨b, 0, none⟩) 2 2) := by rw [heap_cell hQ2]; rfl
  have hx2 := hR2.store (.slice a2 n2 c2)
  have hy2 : (w2.setCell ⟨D, 0, none⟩ (.slice a2 n2 c2)).heap[D]? = some (.cells #[.slice a2 n2 c2] 25 (0, 0)) := by rw [heap_setCell_same _ _ _ _ _ _ hQ2]; rfl
  have hz2 := setCell_below hbw2 (D := D) (by omega) (.slice a2 n2 c2)
  obtain ⟨V, hV⟩ : ∃ V, w2.setCell ⟨D, 0, none⟩ (.slice a2 n2 c2) = V := ⟨_, rfl⟩
  rw [hV] at hx2 hy2 hz2
  have hv2 : V.cell? ⟨D, 0, none⟩ = some (.slice a2 n2 c2) := by rw [heap_cell hy2]; rfl
  have HV := Lib.hid hV
  clear hb2 hbw2 hR2 hQ hR hW hV hbw
  go_wp2_with fail
  rw [HV.out]
  refine (HN.out D _ n2 c2 _ (ent7 10 3 1) HW2.out V hx2 (heap_lt hy2)).mono ?_
  rintro e w3 ⟨a3, n3, c3, rfl, hR3, hb3⟩
  rw [HZ2.out] at hR3 ⊢
  have hQ3 := (hb3.block D (heap_lt hy2)).trans hy2
  have hbw3 := hz2.trans (hb3.mono hz2.size)
  have hf3 := heap_free hQ3 0
  have hc3 : w3.cell? ⟨D, 0, none⟩ = some (.slice a2 n2 c2) := by rw [heap_cell hQ3]; rfl
  have hx3 := hR3.store (.slice a3 n3 c3)
  have hy3 : (w3.setCell ⟨D, 0, none⟩ (.slice a3 n3 c3)).heap[D]? = some (.cells #[.slice a3 n3 c3] 25 (0, 0)) := by rw [heap_setCell_same _ _ _ _ _ _ hQ3]; rfl
  have hz3 := setCell_below hbw3 (D := D) (by omega) (.slice a3 n3 c3)
  obtain rfl : n3 = 2 := by rw [← hR3.len]; rfl
  obtain ⟨b3, off3, r3, rfl, hr3, hrg3, _⟩ := hx3.row 1 (by omega)
  obtain rfl : (⟨5, 0, 0⟩ : Row3) = r3 := by
    have : (⟨max 5 (ent7 10 3 1).ref, 0, 0⟩ : Row3) = r3 := by simpa using hr3
    exact this
  have hl3 := hrg3 0 _ rfl
  have hne : b3 ≠ D := by
    obtain ⟨b', off', e, hg, _⟩ := hx3.at_.resolve_left (by omega)
    cases e
    exact hg
  have HZ3 := Lib.hid hz3
  clear hb3 hbw3 hR3 hx2 hy2 hz2 hx3 hy3 hz3 hQ3 hQ2 hrg3
  go_wp2_with fail
  go_ret
  exact ⟨by rfl, HZ3.out⟩
end Go.Proofs.Ytldkgmodmpnclaa
/-! Plain laws of indices: bytes and back; Note and SetImage as changes of one row, which commute. -/
namespace Go.Proofs.Ytldkgmodmpnclaa
open Go.RowKit Go.Proofs
set_option linter.unusedVariables false
set_option linter.unusedSimpArgs false
def noteF (x : Int) (r : Row3) : Row3 := ⟨max r.lsn x, r.image, r.ilsn⟩
def imgF (x y : Int) (r : Row3) : Row3 := ⟨r.lsn, x, y⟩
theorem set_modify {l : List Row3} {i : Nat} {r : Row3} (f : Row3 → Row3) (h : l[i]? = some r) : l.set i (f r) = l.modify i f := by
  apply List.ext_getElem?
  intro k
  rw [List.getElem?_set, List.getElem?_modify]
  obtain ⟨hi, he⟩ := List.getElem?_eq_some_iff.1 h
  by_cases hk : i = k
  · subst hk
    simp [h, hi, he]
  · simp [hk]
theorem noteI_mod {l : List Row3} {e : Ent} {i : Nat} (h : idxOk l = true) (h2 : entOk e = true) (h3 : e.kind = 7) (h4 : e.chg.page = i) (hi : i < l.length) : noteI l e = (l.modify i (noteF e.ref), 0) := by
  rw [noteI_ok h h2 h3 h4 (r := l[i]) (by simp)]
  exact congrArg (·, (0 : Int)) (set_modify (noteF e.ref) (by simp))
theorem imgI_mod {l : List Row3} {i : Nat} {image at_ : Int} (h : idxOk l = true) (hi : i < l.length) (hx : 1 ≤ image ∧ image ≤ 1000000) (hy : 0 ≤ at_ ∧ at_ ≤ 1000000) : imgI l i image at_ = (l.modify i (imgF image at_), 0) := by
  have hz : (image == 0) = false := by simp; omega
  rw [imgI_ok h (r := l[i]) (by simp [imgOk, lsnOk, hz]; omega) (by simp)]
  exact congrArg (·, (0 : Int)) (set_modify (imgF image at_) (by simp))
theorem mod_ok {l : List Row3} {i : Nat} {f : Row3 → Row3} (h : idxOk l = true) (hf : ∀ r, rowOk r = true → rowOk (f r) = true) : idxOk (l.modify i f) = true := by
  simp only [idxOk, Bool.and_eq_true, decide_eq_true_eq, List.length_modify, List.all_eq_true] at h ⊢
  refine ⟨h.1, fun r hr => ?_⟩
  obtain ⟨k, hk, rfl⟩ := List.getElem_of_mem hr
  rw [List.getElem_modify]
  split
  · exact hf _ (h.2 _ (List.getElem_mem _))
  · exact h.2 _ (List.getElem_mem _)
theorem rowOk_iff (r : Row3) : rowOk r = true ↔ (0 ≤ r.lsn ∧ r.lsn ≤ 1099511627776) ∧ (0 ≤ r.image ∧ r.image ≤ 1099511627776) ∧ (0 ≤ r.ilsn ∧ r.ilsn ≤ 1099511627776) ∧ ((r.image == 0) && (r.ilsn != 0)) = false := by
  simp [rowOk, lsnOk, and_assoc]
  intros
  by_cases h : r.image = 0 <;> simp [h]
theorem noteF_ok {x : Int} (h0 : 0 ≤ x) (h1 : x ≤ 1000000) (r : Row3) (h : rowOk r = true) : rowOk (noteF x r) = true := by
  rw [rowOk_iff] at h ⊢
  refine ⟨?_, h.2.1, h.2.2.1, h.2.2.2⟩
  show 0 ≤ max r.lsn x ∧ max r.lsn x ≤ _
  omega
theorem imgF_ok {x y : Int} (h0 : 1 ≤ x) (h1 : x ≤ 1000000) (h2 : 0 ≤ y) (h3 : y ≤ 1000000) (r : Row3) (h : rowOk r = true) : rowOk (imgF x y r) = true := by
  have hz : (x == 0) = false := by simp; omega
  rw [rowOk_iff] at h ⊢
  refine ⟨h.1, ?_, ?_, by show ((x == 0) && _) = false; rw [hz]; rfl⟩
  · show 0 ≤ x ∧ x ≤ _
    omega
  · show 0 ≤ y ∧ y ≤ _
    omega
theorem mod_comm {l : List Row3} {i j : Nat} {f g : Row3 → Row3} (h : ∀ r, f (g r) = g (f r)) : (l.modify i f).modify j g = (l.modify j g).modify i f := by
  apply List.ext_getElem?
  intro k
  simp only [List.getElem?_modify]
  by_cases h1 : i = k <;> by_cases h2 : j = k <;> simp [h1, h2]
  cases l[k]? <;> simp [h]
theorem note_note (x y : Int) (r : Row3) : noteF x (noteF y r) = noteF y (noteF x r) := by
  simp only [noteF]
  congr 1
  omega
theorem note_img (x y z : Int) (r : Row3) : noteF x (imgF y z r) = imgF y z (noteF x r) := rfl
/-! ### Bytes -/
def rowB (r : Row3) : ByteArray := leB r.lsn 8 ++ leB r.image 8 ++ leB r.ilsn 8
theorem rowB_size (r : Row3) : (rowB r).size = 24 := by simp only [rowB, ByteArray.size_append, leB_size]
theorem putRow_eq (s : ByteArray) (r : Row3) : putRow s r = s ++ rowB r := by
  apply ByteArray.ext
  simp [putRow, rowB, ByteArray.data_append]
theorem encUp_head (l : List Row3) (j k : Nat) (h : j ≤ l.length) (hk : k < 2) : bt (encUp l j) k = leByte l.length k := by
  induction j with
  | zero => rw [encUp_zero, bt_right _ _ _ (Nat.zero_le _)]; exact bt_leB _ _ _ hk
  | succ j ih =>
    rw [encUp_step l j l[j] (by simp), putRow_eq, bt_left _ _ _ (by rw [encUp_size l j (by omega)]; omega), ih (by omega)]
theorem encUp_row (l : List Row3) (j i k : Nat) (h : j ≤ l.length) (hi : i < j) (hk : k < 24) (r : Row3) (hr : l[i]? = some r) : bt (encUp l j) (2 + 24 * i + k) = bt (rowB r) k := by
  induction j with
  | zero => omega
  | succ j ih =>
    have hz := encUp_size l j (by omega)
    rw [encUp_step l j l[j] (by simp), putRow_eq]
    by_cases hij : i < j
    · rw [bt_left _ _ _ (by omega), ih (by omega) hij]
    · obtain rfl : i = j := by omega
      obtain ⟨_, he⟩ := List.getElem?_eq_some_iff.1 hr
      rw [bt_right _ _ _ (by omega), hz, he]
      congr 1
      omega
theorem getV_of (s : ByteArray) (p : Nat) (x : Int) (h0 : 0 ≤ x) (h1 : x ≤ 1099511627776) (hb : ∀ i, i < 8 → bt s (p + i) = leByte x i) : getV s p 8 = x := by
  obtain ⟨m, rfl⟩ : ∃ m : Nat, x = m := ⟨x.toNat, by omega⟩
  unfold getV
  rw [getU_eq _ _ _ (by omega), leN_of _ p m 8 (by omega) hb, Nat.mod_eq_of_lt (by omega), wrap64_small _ (by omega)]
theorem encI_ok {l : List Row3} (h : idxOk l = true) : encI l = encUp l l.length := by unfold encI; rw [if_pos h]
theorem encE_ok {l : List Row3} (h : idxOk l = true) : encE l = 0 := by unfold encE; rw [if_pos h]
theorem encI_size {l : List Row3} (h : idxOk l = true) : (encI l).size = 2 + 24 * l.length := by rw [encI_ok h, encUp_size l _ (Nat.le_refl _)]
theorem rdRow_enc {l : List Row3} (h : idxOk l = true) (i : Nat) (hi : i < l.length) : rdRow (encUp l l.length) i = l[i] := by
  simp only [idxOk, Bool.and_eq_true, decide_eq_true_eq, List.all_eq_true] at h
  have hr := (rowOk_iff _).1 (h.2 l[i] (List.getElem_mem _))
  obtain ⟨r, hr0⟩ : ∃ r, l[i] = r := ⟨_, rfl⟩
  have hb := fun k hk => encUp_row l l.length i k (Nat.le_refl _) hi hk r (by rw [← hr0]; simp)
  rw [hr0] at hr ⊢
  unfold rdRow
  rw [getV_of _ _ r.lsn (by omega) (by omega) (fun k hk => by
      rw [hb k (by omega)]
      unfold rowB
      rw [bt_left _ _ _ (by simp only [ByteArray.size_append, leB_size]; omega), bt_left _ _ _ (by rw [leB_size]; omega), bt_leB _ _ _ hk])]
  rw [getV_of _ _ r.image (by omega) (by omega) (fun k hk => by
      rw [show 2 + 24 * i + 8 + k = 2 + 24 * i + (8 + k) by omega, hb (8 + k) (by omega)]
      unfold rowB
      rw [bt_left _ _ _ (by simp only [ByteArray.size_append, leB_size]; omega), bt_right _ _ _ (by rw [leB_size]; omega), leB_size, show 8 + k - 8 = k by omega, bt_leB _ _ _ hk])]
  rw [getV_of _ _ r.ilsn (by omega) (by omega) (fun k hk => by
      rw [show 2 + 24 * i + 16 + k = 2 + 24 * i + (16 + k) by omega, hb (16 + k) (by omega)]
      unfold rowB
      rw [bt_right _ _ _ (by simp only [ByteArray.size_append, leB_size]; omega), ByteArray.size_append, leB_size, leB_size, show 16 + k - (8 + 8) = k by omega, bt_leB _ _ _ hk])]
theorem decI_encI {l : List Row3} (h : idxOk l = true) : decI (encI l) = (l, 0) := by
  have hl := idxOk_len h
  have hz := encI_size h
  rw [encI_ok h] at hz ⊢
  have hn : leN (encUp l l.length) 0 2 = l.length := by
    rw [leN_of _ 0 l.length 2 (by omega) (fun i hi => by rw [Nat.zero_add]; exact encUp_head l _ i (Nat.le_refl _) hi), Nat.mod_eq_of_lt (by omega)]
  have hr : rdRows (encUp l l.length) l.length = l := by
    apply List.ext_getElem
    · simp [rdRows]
    · intro i h1 h2
      simp only [rdRows, List.getElem_map, List.getElem_range]
      exact rdRow_enc h i h2
  rw [decI_ok hn hz (by rw [hr]; exact h), hr]
end Go.Proofs.Ytldkgmodmpnclaa
/-! More of what the laws' walks share: paths of a drawn region are led together; what is kept while block g and new blocks are written; the plain chain of PageindexReturns. -/
namespace Go.Proofs.Ytldkgmodmpnclaa
open Go.RowKit Go.Proofs
set_option linter.unusedVariables false
set_option linter.unusedSimpArgs false
/-- Three things tell how a drawn region ended. -/
def Merge3 {α β γ : Type} (S : α → β → γ → World → Prop) (f : α → β → γ → Act) : Exit → Act → World → Prop
  | .normal, a, w => ∃ x y z, a = f x y z ∧ S x y z w
  | _, _, _ => False
theorem Merge3.mk {α β γ : Type} {S : α → β → γ → World → Prop} {f : α → β → γ → Act} {w : World} (x : α) (y : β) (z : γ) (h : S x y z w) : Merge3 S f .normal (f x y z) w := ⟨x, y, z, rfl, h⟩
theorem wp_merge3 {α β γ : Type} {c : Code} {Q : Exit → Act → World → Prop} {a : Act} {w : World} (S : α → β → γ → World → Prop) {f : α → β → γ → Act}
    (h : c.wp Try.prog (Merge3 S f) a w) (k : ∀ x y z w', S x y z w' → Q .normal (f x y z) w') : c.wp Try.prog Q a w :=
  Code.wp_mono (fun e a w h => by
    cases e with
    | normal => obtain ⟨x, y, z, rfl, h⟩ := h; exact k x y z w h
    | _ => exact h.elim) h
/-- Two things tell how a drawn region ended. -/
def Merge2 {α β : Type} (S : α → β → World → Prop) (f : α → β → Act) : Exit → Act → World → Prop
  | .normal, a, w => ∃ x y, a = f x y ∧ S x y w
  | _, _, _ => False
theorem Merge2.mk {α β : Type} {S : α → β → World → Prop} {f : α → β → Act} {w : World} (x : α) (y : β) (h : S x y w) : Merge2 S f .normal (f x y) w := ⟨x, y, rfl, h⟩
theorem wp_merge2 {α β : Type} {c : Code} {Q : Exit → Act → World → Prop} {a : Act} {w : World} (S : α → β → World → Prop) {f : α → β → Act}
    (h : c.wp Try.prog (Merge2 S f) a w) (k : ∀ x y w', S x y w' → Q .normal (f x y) w') : c.wp Try.prog Q a w :=
  Code.wp_mono (fun e a w h => by
    cases e with
    | normal => obtain ⟨x, y, rfl, h⟩ := h; exact k x y w h
    | _ => exact h.elim) h
/-- What is kept while block g and new blocks are written. -/
structure Kg (g : Nat) (w0 w : World) : Prop where
  k : KB g w0 w
  c : Cs w g
namespace Kg
variable {g : Nat} {w0 w w' : World}
theorem start (h : Cs w g) : Kg g w w.drew := ⟨(KB.refl g w).drew, h.drew⟩
theorem lt (h : Kg g w0 w) : g < w.heap.size := h.c.lt
theorem kb (h : Kg g w0 w) (hk : KB g w w') (hc : Cs w' g) : Kg g w0 w' := ⟨h.k.trans hk, hc⟩
theorem step (h : Kg g w0 w) (hb : Below w.heap.size w w') : Kg g w0 w' := ⟨h.k.trans (KB.of_below hb), h.c.keep hb⟩
theorem high (h : Kg g w0 w) {D : Nat} (hD : w0.heap.size ≤ D) (hg : g < D) (hb : Below D w w') : Kg g w0 w' :=
  ⟨⟨hb.os.trans h.k.os, hb.tape.trans h.k.tape, hb.output.trans h.k.output, Nat.le_trans h.k.size hb.size, fun k hk hne => (hb.block k (by omega)).trans (h.k.block k hk hne)⟩, h.c.keepG (hb.mono (by omega))⟩
theorem cell (h : Kg g w0 w) {D o : Nat} {v : Value} (hp : w0.cell? ⟨D, o, none⟩ = some v) (hlt : D < w0.heap.size) (hne : D ≠ g) : w.cell? ⟨D, o, none⟩ = some v :=
  (World.cell?_of_block (w := w0) (a := ⟨D, o, none⟩) (h.k.block D hlt hne)).trans hp
theorem blk (h : Kg g w0 w) {D : Nat} {o : Obj} (hp : w0.heap[D]? = some o) (hne : D ≠ g) : w.heap[D]? = some o := (h.k.block D (heap_lt hp) hne).trans hp
end Kg
theorem Sx.kg {B g : Nat} {L : List (Nat × Obj)} {X : List (Nat × List Row3)} {w0 w w' : World} (h : Sx B g L X w0 w) (hk : Kg g w w') : Sx B g L X w0 w' := h.kb hk.k hk.c
theorem Sx.add {B g : Nat} {L : List (Nat × Obj)} {X : List (Nat × List Row3)} {w0 w : World} (h : Sx B g L X w0 w) {b : Nat} {o : Obj} (hb : w.heap[b]? = some o) (hg : b ≠ g) : Sx B g ((b, o) :: L) X w0 w := ⟨h.f.add hb hg, h.x⟩
theorem Sx.ltL {B g : Nat} {L : List (Nat × Obj)} {X : List (Nat × List Row3)} {w0 w : World} (h : Sx B g L X w0 w) : ∀ x ∈ L, x.1 < w.heap.size := fun x hx => heap_lt (h.f.m x hx).2
theorem Sx.ltX {B g : Nat} {L : List (Nat × Obj)} {X : List (Nat × List Row3)} {w0 w : World} (h : Sx B g L X w0 w) : ∀ x ∈ X, x.1 < w.heap.size := fun x hx => by
  obtain ⟨a, n, c, h1, _, _⟩ := h.x x hx
  exact heap_lt h1
theorem Sx.neL {B g : Nat} {L : List (Nat × Obj)} {X : List (Nat × List Row3)} {w0 w : World} (h : Sx B g L X w0 w) : ∀ x ∈ L, x.1 ≠ g := fun x hx => (h.f.m x hx).1
/-- A box that is newer than all else is written. -/
theorem Sx.put {B g D : Nat} {L : List (Nat × Obj)} {X : List (Nat × List Row3)} {w0 w : World} {l l' : List Row3} (h : Sx B g L ((D, l) :: X) w0 w) (hg : g < D) (hL : ∀ x ∈ L, x.1 < D) (hX : ∀ x ∈ X, x.1 < D) {a : Option Addr} {n c : Nat} (hr : RwAt w g a n c l') : Sx B g L ((D, l') :: X) w0 (w.setCell ⟨D, 0, none⟩ (.slice a n c)) :=
  h.set hg (fun x hx => Nat.ne_of_lt (hL x hx)) (fun x hx => Nat.ne_of_lt (hX x hx)) hr
theorem Ix.len {w : World} {g D N : Nat} {l : List Row3} (h : Ix w g D l) (hN : l.length = N) : ∃ a c, w.cell? ⟨D, 0, none⟩ = some (.slice a N c) ∧ w.frozen? ⟨D, 0, none⟩ = false ∧ RwAt w g a N c l := by
  obtain ⟨a, n, c, _, h2, h3, h4⟩ := h.get
  obtain rfl : n = N := by rw [← h4.len, hN]
  exact ⟨a, c, h2, h3, h4⟩
theorem chain {l : List Row3} {k N : Nat} {r1 r2 x y : Int} (h : idxOk l = true) (hN : l.length = N) (hk : k < N) (hN5 : N ≤ 5) (h1 : 0 ≤ r1 ∧ r1 < 80) (h2 : 0 ≤ r2 ∧ r2 < 80) (hx : 1 ≤ x ∧ x ≤ 1000) (hy : 0 ≤ y ∧ y ≤ 1000) :
    ∃ l1 l2 l3 m1 m2 p2, noteI l (ent7 90 r1 0) = (l1, 0) ∧ noteI l1 (ent7 91 r2 k) = (l2, 0) ∧ imgI l2 0 x y = (l3, 0) ∧ imgI l 0 x y = (m1, 0) ∧ (noteI m1 (ent7 90 r1 0) = (m2, 0) ∧ noteI m2 (ent7 91 r2 k) = (l3, 0)) ∧ (noteI m1 (ent7 91 r2 k) = (p2, 0) ∧ noteI p2 (ent7 90 r1 0) = (l3, 0))
      ∧ l1.length = N ∧ l2.length = N ∧ l3.length = N ∧ m1.length = N ∧ m2.length = N ∧ p2.length = N := by
  have e1 := ent7_ok (lsn := 90) (ref := r1) (page := 0) (by omega) (by omega) (by omega)
  have e2 := ent7_ok (lsn := 91) (ref := r2) (page := k) (by omega) (by omega) (by omega)
  have k1 : ∀ l, idxOk l = true → idxOk (l.modify 0 (noteF r1)) = true := fun l h => mod_ok h (noteF_ok (by omega) (by omega))
  have k2 : ∀ l, idxOk l = true → idxOk (l.modify k (noteF r2)) = true := fun l h => mod_ok h (noteF_ok (by omega) (by omega))
  have k3 : ∀ l, idxOk l = true → idxOk (l.modify 0 (imgF x y)) = true := fun l h => mod_ok h (imgF_ok (by omega) (by omega) (by omega) (by omega))
  have n1 : ∀ l, idxOk l = true → l.length = N → noteI l (ent7 90 r1 0) = (l.modify 0 (noteF r1), 0) := fun l h hl => noteI_mod h e1 rfl rfl (by omega)
  have n2 : ∀ l, idxOk l = true → l.length = N → noteI l (ent7 91 r2 k) = (l.modify k (noteF r2), 0) := fun l h hl => noteI_mod h e2 rfl rfl (by omega)
  have n3 : ∀ l, idxOk l = true → l.length = N → imgI l 0 x y = (l.modify 0 (imgF x y), 0) := fun l h hl => imgI_mod (i := 0) h (by omega) (by omega) (by omega)
  refine ⟨_, _, _, _, _, _, n1 l h hN, n2 _ (k1 l h) (by simp [hN]), n3 _ (k2 _ (k1 l h)) (by simp [hN]), n3 l h hN, ⟨n1 _ (k3 l h) (by simp [hN]), ?_⟩, ⟨n2 _ (k3 l h) (by simp [hN]), ?_⟩, ?_⟩
  · rw [n2 _ (k1 _ (k3 l h)) (by simp [hN])]
    refine congrArg (·, (0 : Int)) ?_
    rw [mod_comm (l := l) (i := 0) (j := 0) (f := imgF x y) (g := noteF r1) (fun r => rfl), mod_comm (l := l.modify 0 (noteF r1)) (i := 0) (j := k) (f := imgF x y) (g := noteF r2) (fun r => rfl)]
  · rw [n1 _ (k2 _ (k3 l h)) (by simp [hN])]
    refine congrArg (·, (0 : Int)) ?_
    rw [mod_comm (i := k) (j := 0) (f := noteF r2) (g := noteF r1) (note_note r2 r1)]
    rw [mod_comm (l := l) (i := 0) (j := 0) (f := imgF x y) (g := noteF r1) (fun r => rfl), mod_comm (l := l.modify 0 (noteF r1)) (i := 0) (j := k) (f := imgF x y) (g := noteF r2) (fun r => rfl)]
  · simp [hN]
end Go.Proofs.Ytldkgmodmpnclaa
