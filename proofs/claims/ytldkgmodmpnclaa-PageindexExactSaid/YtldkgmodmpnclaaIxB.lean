/- The index: Clone, same, change, set, SetImage. -/
import Derived.Test.YtldkgmodmpnclaaIxA
/-! Indices compared, copied, and changed in a row: Same, Clone, set, change. -/
namespace Go.Proofs.Ytldkgmodmpnclaa
open Go.RowKit Go.Proofs
set_option linter.unusedVariables false
set_option linter.unusedSimpArgs false
theorem slice_equal (d b off n c : Nat) (W : World) : (Op.equalIn (d + 1) 23 (.slice (some ⟨b, off, none⟩) n c) (.slice none 0 0)).run Try.prog W = .ok false W := by
  simp [Op.equalIn, run_underlying Try.underlying23]
theorem slice_nil (b off n c : Nat) (W : World) : (binOp .eql 23 (.slice (some ⟨b, off, none⟩) n c) (.slice none 0 0)).run Try.prog W = .ok (.bool false) W := by
  have h : (Op.equal 23 (.slice (some ⟨b, off, none⟩) n c) (.slice none 0 0)).run Try.prog W = .ok false W := slice_equal 9999 b off n c W
  simp only [binOp]
  simp [h]
set_option maxHeartbeats 1000000 in
set_option maxRecDepth 100000 in
theorem clone_calls (g : Nat) (a : Option Addr) (n c : Nat) (l : List Row3) (w : World) (h : RwAt w g a n c l) (h1 : 1 ≤ n) (h2 : n ≤ 1000) :
    Calls Try.prog 89 #[.slice a n c] w fun e w' => ∃ b c', e = .returned (.slice (some ⟨b, 0, none⟩) n c') ∧ w.heap.size ≤ b ∧ RwOwn w' b n c' l ∧ Below w.heap.size w w' := by
  obtain ⟨b, off, rfl, hg, _⟩ := h.at_.resolve_left (by omega)
  have hm : (w.alloc (.cells #[] 84)).ownsRow w.heap.size 84 3 (.slice (some ⟨w.heap.size, 0, none⟩) 0 0) 0 (rowsV []) := World.ownsRow_made w #[] 0 (Nat.le_refl _) (by simp [maxLen]) rfl
  have h' := h.alloc (.cells #[] 84)
  have hb := (Below.refl w.heap.size w).alloc (Nat.le_refl _) (.cells #[] 84)
  have hsn := slice_nil b off n c
  go_enter Try.func89, Try.ntmps89
  go_wp2_with (refine wpList_append_rows rfl (.tmp 5) (.tmp 6) rfl w.heap.size _ 0 [] rfl hm g _ n c l rfl h' h1 (by omega) (by simp) ?_)
  intro v' w' ho hgr hne
  obtain ⟨b', c', rfl, hbb, hO⟩ := RwOwn.of ho hne
  have hbf : Below w.heap.size w w' := ⟨hgr.os, hgr.tape, hgr.output, Nat.le_trans (by simp) hgr.size, fun k hk => (hgr.block k (by simp; omega) (by simp [Value.ownBlock]; omega)).trans (hb.block k hk)⟩
  go_wp2_with fail
  go_ret
  exact ⟨b', c', rfl, hbb, hO, hbf⟩
theorem info84b (r : Row3) : (Try.prog.info? 84).map (·.size) = some r.cells.length := by kernel_rfl
/-- In a region that draws its order: a row is loaded. -/
theorem yields_row {ops : Array Oper} {S : World → Prop} {o : Oper} {a : Act} (hw : Region.wanted o (yielded ops a.tmps) = true) (x : Operand) (ho : o.op = .load 84 x) (b off : Nat) (hx : a.eval x = .pointer (some ⟨b, off, none⟩)) (r : Row3)
    (hS : ∀ w, S w → w.rangeAt b off r.cells) : YieldsIf Try.prog ops S o (.agg #[.int .i64 r.lsn, .int .i64 r.image, .int .i64 r.ilsn]) a :=
  yieldsIf_load_mid hw 84 x ho b off hx r.cells _ hS Try.underlying84 rfl (info84b r)
set_option maxHeartbeats 1000000 in
set_option maxRecDepth 100000 in
theorem same_calls (g g' : Nat) (a a' : Option Addr) (n c n' c' : Nat) (l : List Row3) (w : World) (h : RwAt w g a n c l) (h' : RwAt w g' a' n' c' l) :
    Calls Try.prog 22 #[.agg #[.slice a n c], .agg #[.slice a' n' c']] w fun e w' => e = .returned (.bool true) ∧ Below w.heap.size w w' := by
  obtain rfl : n = n' := by rw [← h.len, ← h'.len]
  have hle := h.le
  have htop := h.top
  obtain ⟨A, hA⟩ : ∃ A, w.heap.size = A := ⟨_, rfl⟩
  obtain ⟨W, hW⟩ : ∃ W, (w.alloc (.cells #[.slice a n c] 25)).alloc (.cells #[.slice a' n c'] 25) = W := ⟨_, rfl⟩
  have hWs : W.heap.size = A + 2 := by rw [← hW, ← hA]; simp
  have hWc : W.cell? ⟨A, 0, none⟩ = some (.slice a n c) := by rw [← hW, ← hA, heap_cell (heap_alloc_of (heap_alloc_new _ _))]; rfl
  have hWd : W.cell? ⟨A + 1, 0, none⟩ = some (.slice a' n c') := by
    have hs : (w.alloc (.cells #[.slice a n c] 25)).heap.size = A + 1 := by simp [hA]
    rw [← hW, ← hs, heap_cell (heap_alloc_new _ _)]
    rfl
  have hb : Below A w W := by rw [← hW, ← hA]; exact ((Below.refl _ _).alloc (Nat.le_refl _) _).alloc (by simp) _
  have H1 : RwAt W g a n c l := by rw [← hW]; exact (h.alloc _).alloc _
  have H2 : RwAt W g' a' n c' l := by rw [← hW]; exact (h'.alloc _).alloc _
  have hnn : ((n : Int) != n) = false := by simp
  clear h h'
  rw [hA]
  go_enter Try.func22, Try.ntmps22
  go_wp2_with fail
  try rw [hW]
  try rw [hA]
  go_loopw [5] (fun i wr => ∃ j : Nat, j ≤ n ∧ i = .int .i64 j ∧ Below (A + 2) W wr) (fun i _ => n - (intOf i).toNat)
  case atStart => exact ⟨0, by omega, rfl, Below.refl _ _⟩
  case round =>
    obtain ⟨j, hj, rfl, hB⟩ := hrel
    have hwr := hB.size
    have hc0 := (hB.cell (p := ⟨A, 0, none⟩) (show A < A + 2 by omega)).trans hWc
    have hd0 := (hB.cell (p := ⟨A + 1, 0, none⟩) (show A + 1 < A + 2 by omega)).trans hWd
    have hBd : Below (A + 2) W wr.drew := hB.drew
    by_cases hlt : j < n
    · have hdec : decide (j < n) = true := by simp; omega
      obtain ⟨b, off, r, rfl, hr, hrg, hb0⟩ := (H1.below (hB.mono (by omega))).drew.row j hlt
      obtain ⟨b', off', r', rfl, hr', hrg', hb0'⟩ := (H2.below (hB.mono (by omega))).drew.row j hlt
      obtain rfl : r = r' := by rw [hr] at hr'; exact Option.some.inj hr'
      have hdc : wr.drew.cell? ⟨A, 0, none⟩ = some (.slice (some ⟨b, off, none⟩) n c) := hc0
      have hdd : wr.drew.cell? ⟨A + 1, 0, none⟩ = some (.slice (some ⟨b', off', none⟩) n c') := hd0
      have hr1 : ∀ w_, w_ = wr.drew → w_.rangeAt b (off + j * 3) r.cells := fun w_ e => e ▸ hrg
      have hr2 : ∀ w_, w_ = wr.drew → w_.rangeAt b' (off' + j * 3) r.cells := fun w_ e => e ▸ hrg'
      have HR1 := Lib.hid hr1; have HR2 := Lib.hid hr2
      have i0 : (0 : Int) ≤ (j : Int) := by omega
      have i1 : (j : Int) < (n : Int) := by omega
      clear hr hr' hrg hrg' hr1 hr2 hb0 hb0'
      go_wp2_with fail
      refine wp_region_held_drew (S := (fun w_ => w_ = wr.drew)) (by kernel_rfl) rfl (fun hHeld => ?_)
      refine Held.takeL (i := 0) (v := ?_) rfl (by kernel_rfl) (by kernel_rfl) (by kernel_rfl) (fun _ _ _ h => h) (.inl ⟨by kernel_rfl, ?_⟩) (by assumption) ?_
      rotate_left
      · (intro w_ hSw; go_simp; first | done | with_reducible rfl)
      try simp only [Act.put, List.setIfInBounds_toArray, List.set_cons_zero, List.set_cons_succ]
      refine Held.takeL (i := 1) (v := ?_) rfl (by kernel_rfl) (by kernel_rfl) (by kernel_rfl) (fun _ _ _ h => h) (.inl ⟨by kernel_rfl, ?_⟩) (by assumption) ?_
      rotate_left
      · (intro w_ hSw; subst hSw; go_simp; first | done | with_reducible rfl)
      try simp only [Act.put, List.setIfInBounds_toArray, List.set_cons_zero, List.set_cons_succ]
      refine Held.takeL (i := 2) (v := ?_) rfl (by kernel_rfl) (by kernel_rfl) (by kernel_rfl) (fun _ _ _ h => h) (.inl ⟨by kernel_rfl, ?_⟩) (by assumption) ?_
      rotate_left
      · (intro w_ hSw; go_simp; first | done | with_reducible rfl)
      try simp only [Act.put, List.setIfInBounds_toArray, List.set_cons_zero, List.set_cons_succ]
      refine Held.takeL (i := 3) (v := ?_) rfl (by kernel_rfl) (by kernel_rfl) (by kernel_rfl) (fun _ _ _ h => h) (.inl ⟨by kernel_rfl, ?_⟩) (by assumption) ?_
      rotate_left
      · (intro w_ hSw; go_simp; first | done | with_reducible rfl)
      try simp only [Act.put, List.setIfInBounds_toArray, List.set_cons_zero, List.set_cons_succ]
      refine Held.takeL (i := 4) (v := .agg #[.int .i64 r.lsn, .int .i64 r.image, .int .i64 r.ilsn]) rfl (by kernel_rfl) (by kernel_rfl) (by kernel_rfl) (fun _ _ _ h => h) ?_ (by assumption) ?_
      · exact yields_row (by kernel_rfl) (.tmp 23) (by kernel_rfl) b (off + j * 3) (by rfl) r HR1.out
      try simp only [Act.put, List.setIfInBounds_toArray, List.set_cons_zero, List.set_cons_succ]
      refine Held.takeL (i := 5) (v := ?_) rfl (by kernel_rfl) (by kernel_rfl) (by kernel_rfl) (fun _ _ _ h => h) (.inl ⟨by kernel_rfl, ?_⟩) (by assumption) ?_
      rotate_left
      · (intro w_ hSw; go_simp; first | done | with_reducible rfl)
      try simp only [Act.put, List.setIfInBounds_toArray, List.set_cons_zero, List.set_cons_succ]
      refine Held.takeL (i := 6) (v := ?_) rfl (by kernel_rfl) (by kernel_rfl) (by kernel_rfl) (fun _ _ _ h => h) (.inl ⟨by kernel_rfl, ?_⟩) (by assumption) ?_
      rotate_left
      · (intro w_ hSw; subst hSw; go_simp; first | done | with_reducible rfl)
      try simp only [Act.put, List.setIfInBounds_toArray, List.set_cons_zero, List.set_cons_succ]
      refine Held.takeL (i := 7) (v := ?_) rfl (by kernel_rfl) (by kernel_rfl) (by kernel_rfl) (fun _ _ _ h => h) (.inl ⟨by kernel_rfl, ?_⟩) (by assumption) ?_
      rotate_left
      · (intro w_ hSw; go_simp; first | done | with_reducible rfl)
      try simp only [Act.put, List.setIfInBounds_toArray, List.set_cons_zero, List.set_cons_succ]
      refine Held.takeL (i := 8) (v := ?_) rfl (by kernel_rfl) (by kernel_rfl) (by kernel_rfl) (fun _ _ _ h => h) (.inl ⟨by kernel_rfl, ?_⟩) (by assumption) ?_
      rotate_left
      · (intro w_ hSw; go_simp; first | done | with_reducible rfl)
      try simp only [Act.put, List.setIfInBounds_toArray, List.set_cons_zero, List.set_cons_succ]
      refine Held.takeL (i := 9) (v := .agg #[.int .i64 r.lsn, .int .i64 r.image, .int .i64 r.ilsn]) rfl (by kernel_rfl) (by kernel_rfl) (by kernel_rfl) (fun _ _ _ h => h) ?_ (by assumption) ?_
      · exact yields_row (by kernel_rfl) (.tmp 28) (by kernel_rfl) b' (off' + j * 3) (by rfl) r HR2.out
      try simp only [Act.put, List.setIfInBounds_toArray, List.set_cons_zero, List.set_cons_succ]
      refine Held.takeL (i := 10) (v := .bool false) rfl (by kernel_rfl) (by kernel_rfl) (by kernel_rfl) (fun _ _ _ h => h) (.inl ⟨by kernel_rfl, ?_⟩) (by assumption) ?_
      · (intro w_ hSw; go_simp)
      try simp only [Act.put, List.setIfInBounds_toArray, List.set_cons_zero, List.set_cons_succ]
      refine wpAnyH_done (by kernel_rfl) ?_ _
      go_wp2_with fail
      go_roundw
      case rel => exact ⟨j + 1, by omega, by go_num, hBd⟩
      case measure => simp [intOf]; omega
    · have hdec : decide (j < n) = false := by simp; omega
      go_wp2_with fail
      go_ret
      exact ⟨rfl, hb.trans (hB.mono (by omega))⟩
end Go.Proofs.Ytldkgmodmpnclaa
/-! A row of an index is changed in a copy: change with the closures of Note and SetImage, and the reference's set. -/
namespace Go.Proofs.Ytldkgmodmpnclaa
open Go.RowKit Go.Proofs
set_option linter.unusedVariables false
set_option linter.unusedSimpArgs false
theorem RwOwn.drew {w : World} {b n c : Nat} {l : List Row3} (h : RwOwn w b n c l) : RwOwn w.drew b n c l := h.keep rfl
theorem get_set {l : List Row3} {i : Nat} {r : Row3} (h : l[i]? = some r) (x : Row3) : (l.set i x)[i]? = some x := by
  have := (List.getElem?_eq_some_iff.1 h).1
  simp [this]
set_option maxHeartbeats 1000000 in
set_option maxRecDepth 100000 in
theorem noteC_calls (b n c id p : Nat) (l : List Row3) (r : Row3) (ref : Int) (w : World) (h : RwOwn w b n c l) (hr : l[id]? = some r) (hp : w.cell? ⟨p, 5, none⟩ = some (.int .i64 ref)) :
    Calls Try.prog 59 #[.pointer (some ⟨b, id * 3, none⟩), .pointer (some ⟨p, 0, none⟩)] w fun e w' => e = .returned (.tuple #[]) ∧ RwOwn w' b n c (l.set id ⟨max r.lsn ref, r.image, r.ilsn⟩) ∧ Below b w w' := by
  obtain ⟨h1, _, _⟩ := rowsV_get l id r hr
  have hc := h.cell _ _ h1
  have hf := h.free (id * 3)
  have H := Lib.hid h
  clear h h1
  go_enter Try.func59, Try.ntmps59
  go_wp2_with fail
  go_region
  refine bodyPost_end (results_none rfl _ _ _) rfl ?_
  exact ⟨rfl, (H.out.set hr (k := 0) (by omega) (max r.lsn ref)).drew, ((Below.refl _ _).setCell (p := ⟨b, id * 3, none⟩) (Nat.le_refl _) _).drew⟩
set_option maxHeartbeats 1000000 in
set_option maxRecDepth 100000 in
theorem imageC_calls (b n c id p q : Nat) (l : List Row3) (r : Row3) (x y : Int) (w : World) (h : RwOwn w b n c l) (hr : l[id]? = some r) (hp : w.cell? ⟨p, 0, none⟩ = some (.int .i64 x)) (hq : w.cell? ⟨q, 0, none⟩ = some (.int .i64 y)) (hpb : p ≠ b) (hqb : q ≠ b):
    Calls Try.prog 63 #[.pointer (some ⟨b, id * 3, none⟩), .pointer (some ⟨p, 0, none⟩), .pointer (some ⟨q, 0, none⟩)] w fun e w' => e = .returned (.tuple #[]) ∧ RwOwn w' b n c (l.set id ⟨r.lsn, x, y⟩) ∧ Below b w w' := by
  obtain ⟨_, h1, h2⟩ := rowsV_get l id r hr
  have hc := h.cell _ _ h1
  have hf := h.free (id * 3 + 1)
  have hc2 := h.cell _ _ h2
  have hf2 := h.free (id * 3 + 2)
  have H := Lib.hid h
  clear h h1
  go_enter Try.func63, Try.ntmps63
  go_wp2_with fail
  go_region
  refine bodyPost_end (results_none rfl _ _ _) rfl ?_
  have s1 := H.out.set hr (k := 1) (by omega) x
  have s2 := s1.set (get_set hr _) (k := 2) (by omega) y
  rw [List.set_set] at s2
  exact ⟨rfl, s2.drew, (((Below.refl _ _).setCell (p := ⟨b, id * 3 + 1, none⟩) (Nat.le_refl _) _).setCell (p := ⟨b, id * 3 + 2, none⟩) (Nat.le_refl _) _).drew⟩
/-- An index in a block of its own is answered. -/
def OwnAns (n : Nat) (l : List Row3) (w : World) (e : Ending) (w' : World) : Prop := ∃ b c, e = .returned (.agg #[.slice (some ⟨b, 0, none⟩) n c]) ∧ w.heap.size ≤ b ∧ RwOwn w' b n c l ∧ Below w.heap.size w w'
set_option maxHeartbeats 1000000 in
set_option maxRecDepth 100000 in
theorem changeNote_calls (g : Nat) (a : Option Addr) (n c id : Nat) (p : Nat) (ref : Int) (l : List Row3) (r : Row3) (w : World) (h : RwAt w g a n c l) (hr : l[id]? = some r) (h2 : n ≤ 1000) (hp : w.cell? ⟨p, 5, none⟩ = some (.int .i64 ref)) :
    Calls Try.prog 58 #[.agg #[.slice a n c], .int .i64 id, .func (Fn.func 59) #[] #[.pointer (some ⟨p, 0, none⟩)]] w (OwnAns n (l.set id ⟨max r.lsn ref, r.image, r.ilsn⟩) w) := by
  have h1 : id < n := by rw [← h.len]; exact (List.getElem?_eq_some_iff.1 hr).1
  obtain ⟨A, hA⟩ : ∃ A, w.heap.size = A := ⟨_, rfl⟩
  have hb0 := World.block_lt_of_cell? w _ hp
  obtain ⟨W, hW⟩ : ∃ W, (w.alloc (.cells #[.slice a n c] 25)).alloc (.cells #[.slice none 0 0] 25) = W := ⟨_, rfl⟩
  have hWs : W.heap.size = A + 2 := by rw [← hW, ← hA]; simp
  have hWa : W.heap[A]? = some (.cells #[.slice a n c] 25 (0, 0)) := by rw [← hW, ← hA]; exact heap_alloc_of (heap_alloc_new _ _)
  have hWb : W.heap[A + 1]? = some (.cells #[.slice none 0 0] 25 (0, 0)) := by
    have hs : (w.alloc (.cells #[.slice a n c] 25)).heap.size = A + 1 := by simp [hA]
    rw [← hW, ← hs]
    exact heap_alloc_new _ _
  have hb : Below A w W := by rw [← hW, ← hA]; exact ((Below.refl _ _).alloc (Nat.le_refl _) _).alloc (by simp) _
  have H1 : RwAt W g a n c l := by rw [← hW]; exact (h.alloc _).alloc _
  have hWac : W.cell? ⟨A, 0, none⟩ = some (.slice a n c) := by rw [heap_cell hWa]; rfl
  have i1 : (id : Int) < n := by omega
  have hdec : decide (id < n) = true := by simpa using h1
  clear h
  go_enter Try.func58, Try.ntmps58
  go_wp2_with fail
  try rw [hW]
  try rw [hA]
  refine (clone_calls g a n c l W H1 (by omega) h2).mono ?_
  rintro e w1 ⟨b, c', rfl, hbb, hO, hB⟩
  have hc0 := hO.le
  have hA1 := (hB.block A (by omega)).trans hWa
  have hA2 := (hB.block (A + 1) (by omega)).trans hWb
  have hc : w1.cell? ⟨A, 0, none⟩ = some (.slice a n c) := by rw [heap_cell hA1]; rfl
  have hf : w1.frozen? ⟨A, 0, none⟩ = false := heap_free hA1 0
  have hp1 : w1.cell? ⟨p, 5, none⟩ = _ := (((hb.trans (hB.mono (by omega))).cell (p := ⟨p, 5, none⟩) (by simpa [hA] using hb0))).trans hp
  have hO2 := hO.keep (w' := w1.setCell ⟨A, 0, none⟩ (.slice (some ⟨b, 0, none⟩) n c')) (heap_setCell_other _ _ _ _ (by simp; omega))
  have hp2 : (w1.setCell ⟨A, 0, none⟩ (.slice (some ⟨b, 0, none⟩) n c')).cell? ⟨p, 5, none⟩ = _ := (World.cell?_setCell_other _ _ _ _ (fun e => by injection e; simp [hA] at hb0; omega)).trans hp1
  have hA3 : (w1.setCell ⟨A, 0, none⟩ (.slice (some ⟨b, 0, none⟩) n c')).heap[A]? = some (.cells #[.slice (some ⟨b, 0, none⟩) n c'] 25 (0, 0)) := by rw [heap_setCell_same _ _ _ _ _ _ hA1]; rfl
  have hA4 : (w1.setCell ⟨A, 0, none⟩ (.slice (some ⟨b, 0, none⟩) n c')).heap[A + 1]? = some (.cells #[.slice none 0 0] 25 (0, 0)) := by rw [heap_setCell_other _ _ _ _ (by simp)]; exact hA2
  have hBf : Below A w (w1.setCell ⟨A, 0, none⟩ (.slice (some ⟨b, 0, none⟩) n c')) := (hb.trans (hB.mono (by omega))).setCell (p := ⟨A, 0, none⟩) (Nat.le_refl _) _
  have HP := Lib.hid hp2
  have HO2 := Lib.hid hO2
  clear hO hB H1 hp1 hp2 hA1 hA2 hO2 hp hb0
  go_wp2_with fail
  refine (noteC_calls b n c' id p l r ref _ HO2.out hr HP.out).mono ?_
  rintro e w2 ⟨rfl, hO3, hB3⟩
  have hA5 := (hB3.block A (by omega)).trans hA3
  have hA6 := (hB3.block (A + 1) (by omega)).trans hA4
  have hc5 : w2.cell? ⟨A, 0, none⟩ = some (.slice (some ⟨b, 0, none⟩) n c') := by rw [heap_cell hA5]; rfl
  have hc6 : w2.cell? ⟨A + 1, 0, none⟩ = some (.slice none 0 0) := by rw [heap_cell hA6]; rfl
  have hf6 : w2.frozen? ⟨A + 1, 0, none⟩ = false := heap_free hA6 0
  have hO4 := hO3.keep (w' := w2.setCell ⟨A + 1, 0, none⟩ (.slice (some ⟨b, 0, none⟩) n c')) (heap_setCell_other _ _ _ _ (by simp; omega))
  have hA7 : (w2.setCell ⟨A + 1, 0, none⟩ (.slice (some ⟨b, 0, none⟩) n c')).heap[A + 1]? = some (.cells #[.slice (some ⟨b, 0, none⟩) n c'] 25 (0, 0)) := by rw [heap_setCell_same _ _ _ _ _ _ hA6]; rfl
  have HF := Lib.hid (show Below A w (w2.setCell ⟨A + 1, 0, none⟩ (.slice (some ⟨b, 0, none⟩) n c')) from (hBf.trans (hB3.mono (by omega))).setCell (p := ⟨A + 1, 0, none⟩) (by simp) _)
  have HO4 := Lib.hid hO4
  have HA7 := Lib.hid hA7
  clear hO3 hB3 hO4 hA7 hA5 hA6 hA3 hA4 HO2 HP hBf
  go_wp2_with fail
  exact end25a rfl rfl HA7.out rfl ⟨b, c', rfl, by omega, HO4.out, by rw [hA]; exact HF.out⟩
set_option maxHeartbeats 1000000 in
set_option maxRecDepth 100000 in
theorem changeImage_calls (g : Nat) (a : Option Addr) (n c id : Nat) (p q : Nat) (x y : Int) (l : List Row3) (r : Row3) (w : World) (h : RwAt w g a n c l) (hr : l[id]? = some r) (h2 : n ≤ 1000) (hp : w.cell? ⟨p, 0, none⟩ = some (.int .i64 x)) (hq : w.cell? ⟨q, 0, none⟩ = some (.int .i64 y)) :
    Calls Try.prog 58 #[.agg #[.slice a n c], .int .i64 id, .func (Fn.func 63) #[] #[.pointer (some ⟨p, 0, none⟩), .pointer (some ⟨q, 0, none⟩)]] w (OwnAns n (l.set id ⟨r.lsn, x, y⟩) w) := by
  have h1 : id < n := by rw [← h.len]; exact (List.getElem?_eq_some_iff.1 hr).1
  obtain ⟨A, hA⟩ : ∃ A, w.heap.size = A := ⟨_, rfl⟩
  have hb0 := World.block_lt_of_cell? w _ hp
  have hq0 := World.block_lt_of_cell? w _ hq
  obtain ⟨W, hW⟩ : ∃ W, (w.alloc (.cells #[.slice a n c] 25)).alloc (.cells #[.slice none 0 0] 25) = W := ⟨_, rfl⟩
  have hWs : W.heap.size = A + 2 := by rw [← hW, ← hA]; simp
  have hWa : W.heap[A]? = some (.cells #[.slice a n c] 25 (0, 0)) := by rw [← hW, ← hA]; exact heap_alloc_of (heap_alloc_new _ _)
  have hWb : W.heap[A + 1]? = some (.cells #[.slice none 0 0] 25 (0, 0)) := by
    have hs : (w.alloc (.cells #[.slice a n c] 25)).heap.size = A + 1 := by simp [hA]
    rw [← hW, ← hs]
    exact heap_alloc_new _ _
  have hb : Below A w W := by rw [← hW, ← hA]; exact ((Below.refl _ _).alloc (Nat.le_refl _) _).alloc (by simp) _
  have H1 : RwAt W g a n c l := by rw [← hW]; exact (h.alloc _).alloc _
  have hWac : W.cell? ⟨A, 0, none⟩ = some (.slice a n c) := by rw [heap_cell hWa]; rfl
  have i1 : (id : Int) < n := by omega
  have hdec : decide (id < n) = true := by simpa using h1
  clear h
  go_enter Try.func58, Try.ntmps58
  go_wp2_with fail
  try rw [hW]
  try rw [hA]
  refine (clone_calls g a n c l W H1 (by omega) h2).mono ?_
  rintro e w1 ⟨b, c', rfl, hbb, hO, hB⟩
  have hc0 := hO.le
  have hA1 := (hB.block A (by omega)).trans hWa
  have hA2 := (hB.block (A + 1) (by omega)).trans hWb
  have hc : w1.cell? ⟨A, 0, none⟩ = some (.slice a n c) := by rw [heap_cell hA1]; rfl
  have hf : w1.frozen? ⟨A, 0, none⟩ = false := heap_free hA1 0
  have hp1 : w1.cell? ⟨p, 0, none⟩ = _ := (((hb.trans (hB.mono (by omega))).cell (p := ⟨p, 0, none⟩) (by simpa [hA] using hb0))).trans hp
  have hq1 : w1.cell? ⟨q, 0, none⟩ = _ := (((hb.trans (hB.mono (by omega))).cell (p := ⟨q, 0, none⟩) (by simpa [hA] using hq0))).trans hq
  have hO2 := hO.keep (w' := w1.setCell ⟨A, 0, none⟩ (.slice (some ⟨b, 0, none⟩) n c')) (heap_setCell_other _ _ _ _ (by simp; omega))
  have hp2 : (w1.setCell ⟨A, 0, none⟩ (.slice (some ⟨b, 0, none⟩) n c')).cell? ⟨p, 0, none⟩ = _ := (World.cell?_setCell_other _ _ _ _ (fun e => by injection e; simp [hA] at hb0; omega)).trans hp1
  have hq2 : (w1.setCell ⟨A, 0, none⟩ (.slice (some ⟨b, 0, none⟩) n c')).cell? ⟨q, 0, none⟩ = _ := (World.cell?_setCell_other _ _ _ _ (fun e => by injection e; simp [hA] at hq0; omega)).trans hq1
  have hpb : p < b := by simp [hA] at hb0; omega
  have hqb : q < b := by simp [hA] at hq0; omega
  have hA3 : (w1.setCell ⟨A, 0, none⟩ (.slice (some ⟨b, 0, none⟩) n c')).heap[A]? = some (.cells #[.slice (some ⟨b, 0, none⟩) n c'] 25 (0, 0)) := by rw [heap_setCell_same _ _ _ _ _ _ hA1]; rfl
  have hA4 : (w1.setCell ⟨A, 0, none⟩ (.slice (some ⟨b, 0, none⟩) n c')).heap[A + 1]? = some (.cells #[.slice none 0 0] 25 (0, 0)) := by rw [heap_setCell_other _ _ _ _ (by simp)]; exact hA2
  have hBf : Below A w (w1.setCell ⟨A, 0, none⟩ (.slice (some ⟨b, 0, none⟩) n c')) := (hb.trans (hB.mono (by omega))).setCell (p := ⟨A, 0, none⟩) (Nat.le_refl _) _
  have HP := Lib.hid hp2
  have HQ := Lib.hid hq2
  have HO2 := Lib.hid hO2
  clear hO hB H1 hp1 hp2 hq1 hq2 hq hq0 hA1 hA2 hO2 hp hb0
  go_wp2_with fail
  refine (imageC_calls b n c' id p q l r x y _ HO2.out hr HP.out HQ.out (by omega) (by omega)).mono ?_
  rintro e w2 ⟨rfl, hO3, hB3⟩
  have hA5 := (hB3.block A (by omega)).trans hA3
  have hA6 := (hB3.block (A + 1) (by omega)).trans hA4
  have hc5 : w2.cell? ⟨A, 0, none⟩ = some (.slice (some ⟨b, 0, none⟩) n c') := by rw [heap_cell hA5]; rfl
  have hc6 : w2.cell? ⟨A + 1, 0, none⟩ = some (.slice none 0 0) := by rw [heap_cell hA6]; rfl
  have hf6 : w2.frozen? ⟨A + 1, 0, none⟩ = false := heap_free hA6 0
  have hO4 := hO3.keep (w' := w2.setCell ⟨A + 1, 0, none⟩ (.slice (some ⟨b, 0, none⟩) n c')) (heap_setCell_other _ _ _ _ (by simp; omega))
  have hA7 : (w2.setCell ⟨A + 1, 0, none⟩ (.slice (some ⟨b, 0, none⟩) n c')).heap[A + 1]? = some (.cells #[.slice (some ⟨b, 0, none⟩) n c'] 25 (0, 0)) := by rw [heap_setCell_same _ _ _ _ _ _ hA6]; rfl
  have HF := Lib.hid (show Below A w (w2.setCell ⟨A + 1, 0, none⟩ (.slice (some ⟨b, 0, none⟩) n c')) from (hBf.trans (hB3.mono (by omega))).setCell (p := ⟨A + 1, 0, none⟩) (by simp) _)
  have HO4 := Lib.hid hO4
  have HA7 := Lib.hid hA7
  clear hO3 hB3 hO4 hA7 hA5 hA6 hA3 hA4 HO2 HP hBf
  go_wp2_with fail
  exact end25a rfl rfl HA7.out rfl ⟨b, c', rfl, by omega, HO4.out, by rw [hA]; exact HF.out⟩
end Go.Proofs.Ytldkgmodmpnclaa
/-! The reference's set; SetImage of the program and of the reference. -/
namespace Go.Proofs.Ytldkgmodmpnclaa
open Go.RowKit Go.Proofs
set_option linter.unusedVariables false
set_option linter.unusedSimpArgs false
theorem heap_setCells_other (b k : Nat) (hk : k ≠ b) : ∀ (vs : List Value) (o : Nat) (w : World), (w.setCells b o vs).heap[k]? = w.heap[k]?
  | [], _, _ => rfl
  | v :: vs, o, w => by
    show ((w.setCell ⟨b, o, none⟩ v).setCells b (o + 1) vs).heap[k]? = _
    rw [heap_setCells_other b k hk vs (o + 1) _, heap_setCell_other _ _ _ _ hk]
theorem below_setCells {B : Nat} {w0 : World} (b : Nat) (hb : B ≤ b) : ∀ (vs : List Value) (o : Nat) (w : World), Below B w0 w → Below B w0 (w.setCells b o vs)
  | [], _, _, h => h
  | v :: vs, o, w, h => below_setCells b hb vs (o + 1) _ (h.setCell (p := ⟨b, o, none⟩) hb _)
theorem RwOwn.setRow {w : World} {b n c i : Nat} {l : List Row3} {r : Row3} (h : RwOwn w b n c l) (hi : l[i]? = some r) (x : Row3) : RwOwn (w.setCells b (i * 3) x.cells) b n c (l.set i x) := by
  have s0 := h.set hi (k := 0) (by omega) x.lsn
  have s1 := s0.set (get_set hi _) (k := 1) (by omega) x.image
  rw [List.set_set] at s1
  have s2 := s1.set (get_set hi _) (k := 2) (by omega) x.ilsn
  rw [List.set_set] at s2
  exact s2
theorem RwOwn.there {w : World} {b n c i : Nat} {l : List Row3} {r : Row3} (h : RwOwn w b n c l) (hi : l[i]? = some r) : w.there b (i * 3) 3 := by
  obtain ⟨h0, h1, h2⟩ := rowsV_get l i r hi
  intro j hj
  refine ⟨?_, h.free _⟩
  rcases (show j = 0 ∨ j = 1 ∨ j = 2 by omega) with rfl | rfl | rfl
  · rw [Nat.add_zero, h.cell _ _ h0]; rfl
  · rw [h.cell _ _ h1]; rfl
  · rw [h.cell _ _ h2]; rfl
theorem wpList_store_row3 {ops : Array Oper} {rest : List Oper} {op : Oper} {a : Act} {w : World} {Q : Exit → Act → World → Prop} (x y : Operand) (ho : op.op = .store 84 x y ∧ op.guard = none)
    (b n c i : Nat) (l : List Row3) (r0 r : Row3) (h : RwOwn w b n c l) (hi : l[i]? = some r0) (hx : a.eval x = .pointer (some ⟨b, i * 3, none⟩)) (hy : a.eval y = .agg #[.int .i64 r.lsn, .int .i64 r.image, .int .i64 r.ilsn])
    (hK : wpList Try.prog ops Q rest (a.put op.dst undef) (w.setCells b (i * 3) r.cells)) : wpList Try.prog ops Q (op :: rest) a w :=
  wpList_store_mid ho.2 84 x y ho.1 b (i * 3) #[.int .i64 r.lsn, .int .i64 r.image, .int .i64 r.ilsn] hx hy (h.there hi) (by kernel_rfl) (all_oneCell_toArray (cs := r.cells) (fun v hv => rowsV_oneCell [r] v (by simpa [rowsV] using hv))) hK
set_option maxHeartbeats 1000000 in
set_option maxRecDepth 100000 in
theorem set_calls (g : Nat) (a : Option Addr) (n c id : Nat) (l : List Row3) (r0 r : Row3) (w : World) (h : RwAt w g a n c l) (hr : l[id]? = some r0) (h2 : n ≤ 1000) :
    Calls Try.prog 61 #[.agg #[.slice a n c], .int .i64 id, .agg #[.int .i64 r.lsn, .int .i64 r.image, .int .i64 r.ilsn]] w (OwnAns n (l.set id r) w) := by
  have h1 : id < n := by rw [← h.len]; exact (List.getElem?_eq_some_iff.1 hr).1
  obtain ⟨A, hA⟩ : ∃ A, w.heap.size = A := ⟨_, rfl⟩
  obtain ⟨W, hW⟩ : ∃ W, ((w.alloc (.cells #[.slice a n c] 25)).alloc (.cells #[.int .i64 r.lsn, .int .i64 r.image, .int .i64 r.ilsn] 84)).alloc (.cells #[.slice none 0 0] 25) = W := ⟨_, rfl⟩
  have hWs : W.heap.size = A + 3 := by rw [← hW, ← hA]; simp
  have hWa : W.heap[A]? = some (.cells #[.slice a n c] 25 (0, 0)) := by rw [← hW, ← hA]; exact heap_alloc_of (heap_alloc_of (heap_alloc_new _ _))
  have hs1 : (w.alloc (.cells #[.slice a n c] 25)).heap.size = A + 1 := by simp [hA]
  have hWr : W.heap[A + 1]? = some (.cells #[.int .i64 r.lsn, .int .i64 r.image, .int .i64 r.ilsn] 84 (0, 0)) := by rw [← hW, ← hs1]; exact heap_alloc_of (heap_alloc_new _ _)
  have hs2 : ((w.alloc (.cells #[.slice a n c] 25)).alloc (.cells #[.int .i64 r.lsn, .int .i64 r.image, .int .i64 r.ilsn] 84)).heap.size = A + 2 := by simp [hA]
  have hWb : W.heap[A + 2]? = some (.cells #[.slice none 0 0] 25 (0, 0)) := by rw [← hW, ← hs2]; exact heap_alloc_new _ _
  have hb : Below A w W := by rw [← hW, ← hA]; exact (((Below.refl _ _).alloc (Nat.le_refl _) _).alloc (by simp) _).alloc (by simp; omega) _
  have H1 : RwAt W g a n c l := by rw [← hW]; exact ((h.alloc _).alloc _).alloc _
  have hWac : W.cell? ⟨A, 0, none⟩ = some (.slice a n c) := by rw [heap_cell hWa]; rfl
  have i1 : (id : Int) < n := by omega
  have hdec : decide (id < n) = true := by simpa using h1
  clear h
  go_enter Try.func61, Try.ntmps61
  go_wp2_with (refine wpList_append_rows rfl (.const (.slice none 0 0)) (.tmp 8) rfl W.heap.size _ 0 [] rfl (World.ownsRow_nil _ _ _ _) g a n c l rfl H1 (by omega) (by omega) (Nat.le_refl _) ?_)
  intro v' w1 ho hgr hne
  obtain ⟨b, c', rfl, hbb, hO⟩ := RwOwn.of ho hne
  have hB : Below W.heap.size W w1 := grown_below hgr
  have hA1 := (hB.block A (by omega)).trans hWa
  have hAr := (hB.block (A + 1) (by omega)).trans hWr
  have hA2 := (hB.block (A + 2) (by omega)).trans hWb
  have hc : w1.cell? ⟨A, 0, none⟩ = some (.slice a n c) := by rw [heap_cell hA1]; rfl
  have hf : w1.frozen? ⟨A, 0, none⟩ = false := heap_free hA1 0
  have hO2 := hO.keep (w' := w1.setCell ⟨A, 0, none⟩ (.slice (some ⟨b, 0, none⟩) n c')) (heap_setCell_other _ _ _ _ (by simp; omega))
  have hA3 : (w1.setCell ⟨A, 0, none⟩ (.slice (some ⟨b, 0, none⟩) n c')).heap[A]? = some (.cells #[.slice (some ⟨b, 0, none⟩) n c'] 25 (0, 0)) := by rw [heap_setCell_same _ _ _ _ _ _ hA1]; rfl
  have hAq : (w1.setCell ⟨A, 0, none⟩ (.slice (some ⟨b, 0, none⟩) n c')).heap[A + 1]? = some (.cells #[.int .i64 r.lsn, .int .i64 r.image, .int .i64 r.ilsn] 84 (0, 0)) := by rw [heap_setCell_other _ _ _ _ (by simp)]; exact hAr
  have hA4 : (w1.setCell ⟨A, 0, none⟩ (.slice (some ⟨b, 0, none⟩) n c')).heap[A + 2]? = some (.cells #[.slice none 0 0] 25 (0, 0)) := by rw [heap_setCell_other _ _ _ _ (by simp)]; exact hA2
  have hBf : Below A w (w1.setCell ⟨A, 0, none⟩ (.slice (some ⟨b, 0, none⟩) n c')) := (hb.trans (hB.mono (by omega))).setCell (p := ⟨A, 0, none⟩) (Nat.le_refl _) _
  have hq0 : (w1.setCell ⟨A, 0, none⟩ (.slice (some ⟨b, 0, none⟩) n c')).cell? ⟨A + 1, 0, none⟩ = some (.int .i64 r.lsn) := by rw [heap_cell hAq]; rfl
  have hq1 : (w1.setCell ⟨A, 0, none⟩ (.slice (some ⟨b, 0, none⟩) n c')).cell? ⟨A + 1, 1, none⟩ = some (.int .i64 r.image) := by rw [heap_cell hAq]; rfl
  have hq2 : (w1.setCell ⟨A, 0, none⟩ (.slice (some ⟨b, 0, none⟩) n c')).cell? ⟨A + 1, 2, none⟩ = some (.int .i64 r.ilsn) := by rw [heap_cell hAq]; rfl
  obtain ⟨w2, hw2⟩ : ∃ w2, w1.setCell ⟨A, 0, none⟩ (.slice (some ⟨b, 0, none⟩) n c') = w2 := ⟨_, rfl⟩
  rw [hw2] at hO2 hA3 hA4 hBf hq0 hq1 hq2
  have hc2 : w2.cell? ⟨A, 0, none⟩ = some (.slice (some ⟨b, 0, none⟩) n c') := by rw [heap_cell hA3]; rfl
  have hO3 := hO2.setRow hr r
  have hA5 := (heap_setCells_other b A (by omega) r.cells (id * 3) w2).trans hA3
  have hA6 := (heap_setCells_other b (A + 2) (by omega) r.cells (id * 3) w2).trans hA4
  have hB3 := below_setCells b (show A ≤ b by omega) r.cells (id * 3) w2 hBf
  obtain ⟨w3, hw3⟩ : ∃ w3, w2.setCells b (id * 3) r.cells = w3 := ⟨_, rfl⟩
  rw [hw3] at hO3 hA5 hA6 hB3
  have hc5 : w3.cell? ⟨A, 0, none⟩ = some (.slice (some ⟨b, 0, none⟩) n c') := by rw [heap_cell hA5]; rfl
  have hc6 : w3.cell? ⟨A + 2, 0, none⟩ = some (.slice none 0 0) := by rw [heap_cell hA6]; rfl
  have hf6 : w3.frozen? ⟨A + 2, 0, none⟩ = false := heap_free hA6 0
  have hO4 := hO3.keep (w' := w3.setCell ⟨A + 2, 0, none⟩ (.slice (some ⟨b, 0, none⟩) n c')) (heap_setCell_other _ _ _ _ (by simp; omega))
  have hA7 : (w3.setCell ⟨A + 2, 0, none⟩ (.slice (some ⟨b, 0, none⟩) n c')).heap[A + 2]? = some (.cells #[.slice (some ⟨b, 0, none⟩) n c'] 25 (0, 0)) := by rw [heap_setCell_same _ _ _ _ _ _ hA6]; rfl
  have hBE : Below A w (w3.setCell ⟨A + 2, 0, none⟩ (.slice (some ⟨b, 0, none⟩) n c')) := hB3.setCell (p := ⟨A + 2, 0, none⟩) (by simp) _
  have HO2 := Lib.hid hO2; have HO4 := Lib.hid hO4; have HA7 := Lib.hid hA7; have HBE := Lib.hid hBE
  have hce := hO.le
  clear hO hB H1 hA1 hA2 hAr hAq hO2 hO3 hO4 hA7 hBE hB3 hBf hA3 hA4 hA5 hA6
  go_wp2_with (refine wpList_store_row3 (.tmp 15) (.tmp 14) ⟨rfl, rfl⟩ b n c' id l r0 r HO2.out hr rfl rfl ?_)
  exact end25a rfl rfl HA7.out rfl ⟨b, c', rfl, by omega, HO4.out, by rw [hA]; exact HBE.out⟩
end Go.Proofs.Ytldkgmodmpnclaa
/-! SetImage, of the program and of the reference. -/
namespace Go.Proofs.Ytldkgmodmpnclaa
open Go.RowKit Go.Proofs
set_option linter.unusedVariables false
set_option linter.unusedSimpArgs false
def imgOk (n : Nat) (id image at_ : Int) : Bool := decide (0 ≤ id) && decide (id < n) && lsnOk image && lsnOk at_ && !((image == 0) && (at_ != 0))
/-- What SetImage answers. -/
def imgI (l : List Row3) (id image at_ : Int) : List Row3 × Int :=
  if idxOk l = false then ([], 28) else if imgOk l.length id image at_ = false then ([], 1) else (l.set id.toNat ⟨(l.getD id.toNat Row3.zero).lsn, image, at_⟩, 0)
theorem imgI_bad {l : List Row3} {id image at_ : Int} (h : idxOk l = false) : imgI l id image at_ = ([], 28) := by unfold imgI; rw [if_pos h]
theorem imgI_off {l : List Row3} {id image at_ : Int} (h : idxOk l = true) (h2 : imgOk l.length id image at_ = false) : imgI l id image at_ = ([], 1) := by unfold imgI; rw [if_neg (by simp [h]), if_pos h2]
theorem imgI_ok {l : List Row3} {i : Nat} {image at_ : Int} {r : Row3} (h : idxOk l = true) (h2 : imgOk l.length i image at_ = true) (hr : l[i]? = some r) : imgI l i image at_ = (l.set i ⟨r.lsn, image, at_⟩, 0) := by
  unfold imgI
  rw [if_neg (by simp [h]), if_neg (by simp [h2]), Int.toNat_natCast, List.getD_eq_getElem?_getD, hr]
  rfl
theorem idxOk_len {l : List Row3} (h : idxOk l = true) : 1 ≤ l.length ∧ l.length ≤ 64 := by
  simp only [idxOk, Bool.and_eq_true, decide_eq_true_eq] at h
  omega
/-- The answer's block is written, and answered. -/
theorem end25s {fn : Func} {R : Ending → World → Prop} {a : Act} {w : World} {p q : Tmp} {g : Nat} {u v : Value} {n : Int} (hr : fn.results = #[.cell p 25, .tmp q])
    (hp : a.tmps.getD p undef = .pointer (some ⟨g, 0, none⟩)) (hg : w.heap[g]? = some (.cells #[u] 25 (0, 0))) (hn : a.tmps.getD q undef = .int .i64 n) (hd : a.defers = []) (hR : R (.returned (.tuple #[.agg #[v], .int .i64 n])) (w.setCell ⟨g, 0, none⟩ v)) : bodyPost Try.prog fn R .ret a (w.setCell ⟨g, 0, none⟩ v) :=
  end25 hr hp (by rw [heap_setCell_same _ _ _ _ _ _ hg]; rfl) hn hd hR
theorem RwAt.setCell {w : World} {g n c : Nat} {a : Option Addr} {l : List Row3} (h : RwAt w g a n c l) {D : Nat} (hD : ∀ b off, a = some ⟨b, off, none⟩ → n ≠ 0 → b ≠ D) (o : Nat) (v : Value) : RwAt (w.setCell ⟨D, o, none⟩ v) g a n c l := by
  refine ⟨h.len, h.le, h.top, ?_⟩
  by_cases hn : n = 0
  · exact .inl hn
  · obtain ⟨b, off, rfl, hg, hc⟩ := h.at_.resolve_left hn
    have hne := hD b off rfl hn
    refine .inr ⟨b, off, rfl, hg, fun i r hi => ?_⟩
    obtain ⟨h1, h2, h3⟩ := hc i r hi
    have hh : (w.setCell ⟨D, o, none⟩ v).heap[b]? = w.heap[b]? := heap_setCell_other _ _ _ _ hne
    exact ⟨(World.cell?_of_block (w := w) (a := ⟨b, _, none⟩) hh).trans h1, (World.cell?_of_block (w := w) (a := ⟨b, _, none⟩) hh).trans h2, (World.cell?_of_block (w := w) (a := ⟨b, _, none⟩) hh).trans h3⟩
theorem setCell_below {B D : Nat} {w0 w : World} (h : Below B w0 w) (hD : B ≤ D) (v : Value) : Below B w0 (w.setCell ⟨D, 0, none⟩ v) := h.setCell (p := ⟨D, 0, none⟩) hD v
set_option maxHeartbeats 4000000 in
set_option maxRecDepth 100000 in
theorem setImage_calls (g : Nat) (a : Option Addr) (n c : Nat) (id image at_ : Int) (l : List Row3) (w : World) (h : RwAt w g a n c l) (hg : g < w.heap.size) :
    Calls Try.prog 23 #[.agg #[.slice a n c], .int .i64 id, .int .i64 image, .int .i64 at_] w (IdxAns g (imgI l id image at_) w) := by
  obtain ⟨A, hA⟩ : ∃ A, w.heap.size = A := ⟨_, rfl⟩
  obtain ⟨W, hW⟩ : ∃ W, (((w.alloc (.cells #[.slice a n c] 25)).alloc (.cells #[.int .i64 image] 3)).alloc (.cells #[.int .i64 at_] 3)).alloc (.cells #[.slice none 0 0] 25) = W := ⟨_, rfl⟩
  have hs1 : (w.alloc (.cells #[.slice a n c] 25)).heap.size = A + 1 := by simp [hA]
  have hs2 : ((w.alloc (.cells #[.slice a n c] 25)).alloc (.cells #[.int .i64 image] 3)).heap.size = A + 2 := by simp [hA]
  have hs3 : (((w.alloc (.cells #[.slice a n c] 25)).alloc (.cells #[.int .i64 image] 3)).alloc (.cells #[.int .i64 at_] 3)).heap.size = A + 3 := by simp [hA]
  have hWs : W.heap.size = A + 4 := by rw [← hW]; simp [hA]
  have hWa : W.heap[A]? = some (.cells #[.slice a n c] 25 (0, 0)) := by rw [← hW, ← hA]; exact heap_alloc_of (heap_alloc_of (heap_alloc_of (heap_alloc_new _ _)))
  have hWp : W.heap[A + 1]? = some (.cells #[.int .i64 image] 3 (0, 0)) := by rw [← hW, ← hs1]; exact heap_alloc_of (heap_alloc_of (heap_alloc_new _ _))
  have hWq : W.heap[A + 2]? = some (.cells #[.int .i64 at_] 3 (0, 0)) := by rw [← hW, ← hs2]; exact heap_alloc_of (heap_alloc_new _ _)
  have hWb : W.heap[A + 3]? = some (.cells #[.slice none 0 0] 25 (0, 0)) := by rw [← hW, ← hs3]; exact heap_alloc_new _ _
  have hb : Below A w W := by rw [← hW, ← hA]; exact ((((Below.refl _ _).alloc (Nat.le_refl _) _).alloc (by simp) _).alloc (by simp; omega) _).alloc (by simp; omega) _
  have H1 : RwAt W g a n c l := by rw [← hW]; exact (((h.alloc _).alloc _).alloc _).alloc _
  have hWac : W.cell? ⟨A, 0, none⟩ = some (.slice a n c) := by rw [heap_cell hWa]; rfl
  have hln := h.len
  rw [hA] at hg
  have HV := Lib.hid (fun W h => validIdx_calls g a n c l W h)
  obtain ⟨b0, e0⟩ : ∃ b, idxOk l = b := ⟨_, rfl⟩
  rw [e0] at HV
  have HW := Lib.hid (show ∀ W', Below W.heap.size W W' → W'.heap[A + 3]? = some (.cells #[.slice none 0 0] 25 (0, 0)) ∧ W'.cell? ⟨A + 3, 0, none⟩ = some (.slice none 0 0) ∧ W'.frozen? ⟨A + 3, 0, none⟩ = false ∧ W'.cell? ⟨A, 0, none⟩ = some (.slice a n c) ∧ W'.cell? ⟨A + 1, 0, none⟩ = some (.int .i64 image) ∧ W'.cell? ⟨A + 2, 0, none⟩ = some (.int .i64 at_) from fun W' hB => by
    have k3 := (hB.block (A + 3) (by omega)).trans hWb
    have k0 := (hB.block A (by omega)).trans hWa
    have k1 := (hB.block (A + 1) (by omega)).trans hWp
    have k2 := (hB.block (A + 2) (by omega)).trans hWq
    exact ⟨k3, by rw [heap_cell k3]; rfl, heap_free k3 0, by rw [heap_cell k0]; rfl, by rw [heap_cell k1]; rfl, by rw [heap_cell k2]; rfl⟩)
  have H := Lib.hid H1
  have HB := Lib.hid hb
  have HLN := Lib.hid hln
  have HE0 := Lib.hid e0
  clear h H1 hWa hWp hWq hWb hb hs1 hs2 hs3 hln e0
  go_enter Try.func23, Try.ntmps23
  go_wp2_with fail
  try rw [hW]
  try rw [hA]
  refine (HV.out W H.out).mono ?_
  rintro e w1 ⟨rfl, hB1⟩
  obtain ⟨k3, k4, k5, k6, k7, k8⟩ := HW.out w1 hB1
  have K3 := Lib.hid k3
  have HB1 := Lib.hid (HB.out.trans (hB1.mono (by omega)))
  clear k3
  cases b0
  · have hI := Lib.hid (imgI_bad (id := id) (image := image) (at_ := at_) HE0.out)
    go_wp2_with fail
    rw [hI.out]
    exact end25s rfl rfl K3.out rfl rfl ⟨none, 0, 0, rfl, RwAt.nil _ _, by rw [hA]; exact setCell_below HB1.out (by omega) _⟩
  · obtain ⟨hn1, hn2⟩ := idxOk_len HE0.out
    rw [HLN.out] at hn1 hn2
    go_wp2_with fail
    refine (there_calls a n c id _).mono ?_
    rintro e w2 ⟨rfl, hB2⟩
    have hBW2 := hB1.trans (hB2.mono hB1.size)
    obtain ⟨m3, m4, m5, m6, m7, m8⟩ := HW.out w2 hBW2
    have M3 := Lib.hid m3
    have HB2 := Lib.hid (HB1.out.trans (hB2.mono (by have := hB1.size; omega)))
    have H2 := Lib.hid (H.out.below hBW2)
    have hs2 := hBW2.size
    clear k4 k5 k6 k7 k8 m3 hB1 hB2 hBW2
    by_cases h1 : 0 ≤ id ∧ id < n
    · obtain ⟨i, rfl⟩ : ∃ i : Nat, id = i := ⟨id.toNat, by omega⟩
      have d1 : decide ((0 : Int) ≤ i) = true := by simp
      have d2 : decide ((i : Int) < n) = true := by simp; omega
      have d3 : decide (i < n) = true := by simp; omega
      have hQ : imgOk l.length i image at_ = (lsnOk image && lsnOk at_ && !((image == 0) && (at_ != 0))) := by
        unfold imgOk
        rw [HLN.out, d1, d2]
        rfl
      obtain ⟨r, hr⟩ : ∃ r, l[i]? = some r := ⟨l[i]'(by rw [HLN.out]; omega), by simp⟩
      have HR := Lib.hid hr
      have HP1 := Lib.hid (fun W => position_calls image W)
      have HP2 := Lib.hid (fun W => position_calls at_ W)
      obtain ⟨c2, e2⟩ : ∃ b, lsnOk image = b := ⟨_, rfl⟩
      obtain ⟨c3, e3⟩ : ∃ b, lsnOk at_ = b := ⟨_, rfl⟩
      obtain ⟨c4, e4⟩ : ∃ b, (image == 0) = b := ⟨_, rfl⟩
      obtain ⟨c5, e5⟩ : ∃ b, (at_ != 0) = b := ⟨_, rfl⟩
      have e6 : (at_ == 0) = !c5 := by rw [← e5]; simp [bne]
      rw [e2] at HP1 hQ
      rw [e3] at HP2 hQ
      rw [e4, e5] at hQ
      have HQ := Lib.hid hQ
      clear h1 hr e2 e3 hQ
      go_wp2_with fail
      refine (HP1.out _).mono ?_
      rintro e w3 ⟨rfl, rfl⟩
      cases c2
      · have hI := Lib.hid (show imgI l i image at_ = ([], 1) from imgI_off HE0.out (by rw [HQ.out]; rfl))
        go_wp2_with fail
        rw [hI.out]
        exact end25s rfl rfl M3.out rfl rfl ⟨none, 0, 0, rfl, RwAt.nil _ _, by rw [hA]; exact setCell_below HB2.out (by omega) _⟩
      · go_wp2_with fail
        refine (HP2.out _).mono ?_
        rintro e w3 ⟨rfl, rfl⟩
        cases c3
        · have hI := Lib.hid (show imgI l i image at_ = ([], 1) from imgI_off HE0.out (by rw [HQ.out]; rfl))
          go_wp2_with fail
          rw [hI.out]
          exact end25s rfl rfl M3.out rfl rfl ⟨none, 0, 0, rfl, RwAt.nil _ _, by rw [hA]; exact setCell_below HB2.out (by omega) _⟩
        · cases c4
          · have hI := Lib.hid (show imgI l i image at_ = (l.set i ⟨r.lsn, image, at_⟩, 0) from imgI_ok HE0.out (by rw [HQ.out]; rfl) HR.out)
            go_wp2_with fail
            refine (changeImage_calls g a n c i (A + 1) (A + 2) image at_ l r _ H2.out HR.out (by omega) m7 m8).mono ?_
            rintro e w4 ⟨b, c', rfl, hbb, hO, hB4⟩
            have n3 := (hB4.block (A + 3) (by omega)).trans M3.out
            have n4 : w4.cell? ⟨A + 3, 0, none⟩ = some (.slice none 0 0) := by rw [heap_cell n3]; rfl
            have n5 : w4.frozen? ⟨A + 3, 0, none⟩ = false := heap_free n3 0
            have N3 := Lib.hid n3
            have HO := Lib.hid (hO.keep (w' := w4.setCell ⟨A + 3, 0, none⟩ (.slice (some ⟨b, 0, none⟩) n c')) (heap_setCell_other _ _ _ _ (by simp; omega)))
            have HB4 := Lib.hid (HB2.out.trans (hB4.mono (by omega)))
            clear m4 m5 m6 m7 m8 n3 hO hB4
            go_wp2_with fail
            rw [hI.out]
            exact end25s rfl rfl N3.out rfl rfl ⟨some ⟨b, 0, none⟩, n, c', rfl, HO.out.rw (by omega), by rw [hA]; exact setCell_below HB4.out (by omega) _⟩
          · cases c5
            · simp only [Bool.not_false] at e6
              have hI := Lib.hid (show imgI l i image at_ = (l.set i ⟨r.lsn, image, at_⟩, 0) from imgI_ok HE0.out (by rw [HQ.out]; rfl) HR.out)
              go_wp2_with fail
              refine (changeImage_calls g a n c i (A + 1) (A + 2) image at_ l r _ H2.out HR.out (by omega) m7 m8).mono ?_
              rintro e w4 ⟨b, c', rfl, hbb, hO, hB4⟩
              have n3 := (hB4.block (A + 3) (by omega)).trans M3.out
              have n4 : w4.cell? ⟨A + 3, 0, none⟩ = some (.slice none 0 0) := by rw [heap_cell n3]; rfl
              have n5 : w4.frozen? ⟨A + 3, 0, none⟩ = false := heap_free n3 0
              have N3 := Lib.hid n3
              have HO := Lib.hid (hO.keep (w' := w4.setCell ⟨A + 3, 0, none⟩ (.slice (some ⟨b, 0, none⟩) n c')) (heap_setCell_other _ _ _ _ (by simp; omega)))
              have HB4 := Lib.hid (HB2.out.trans (hB4.mono (by omega)))
              clear m4 m5 m6 m7 m8 n3 hO hB4
              go_wp2_with fail
              rw [hI.out]
              exact end25s rfl rfl N3.out rfl rfl ⟨some ⟨b, 0, none⟩, n, c', rfl, HO.out.rw (by omega), by rw [hA]; exact setCell_below HB4.out (by omega) _⟩
            · simp only [Bool.not_true] at e6
              have hI := Lib.hid (show imgI l i image at_ = ([], 1) from imgI_off HE0.out (by rw [HQ.out]; rfl))
              go_wp2_with fail
              rw [hI.out]
              exact end25s rfl rfl M3.out rfl rfl ⟨none, 0, 0, rfl, RwAt.nil _ _, by rw [hA]; exact setCell_below HB2.out (by omega) _⟩
    · have hQ : imgOk l.length id image at_ = false := by
        unfold imgOk
        rw [HLN.out]
        by_cases h0 : 0 ≤ id
        · have : ¬ id < n := fun h => h1 ⟨h0, h⟩
          simp [this]
        · simp [h0]
      have hI := Lib.hid (imgI_off HE0.out hQ)
      by_cases h0 : 0 ≤ id
      · have d1 : decide (0 ≤ id) = true := by simpa using h0
        have d2 : decide (id < n) = false := by simp; omega
        clear h1 hQ h0
        go_wp2_with fail
        rw [hI.out]
        exact end25s rfl rfl M3.out rfl rfl ⟨none, 0, 0, rfl, RwAt.nil _ _, by rw [hA]; exact setCell_below HB2.out (by omega) _⟩
      · have d1 : decide (0 ≤ id) = false := by simpa using h0
        clear h1 hQ h0
        go_wp2_with fail
        rw [hI.out]
        exact end25s rfl rfl M3.out rfl rfl ⟨none, 0, 0, rfl, RwAt.nil _ _, by rw [hA]; exact setCell_below HB2.out (by omega) _⟩
end Go.Proofs.Ytldkgmodmpnclaa
/-! SetImage of the reference. -/
namespace Go.Proofs.Ytldkgmodmpnclaa
open Go.RowKit Go.Proofs
set_option linter.unusedVariables false
set_option linter.unusedSimpArgs false
set_option maxHeartbeats 4000000 in
set_option maxRecDepth 100000 in
theorem setImage11_calls (g : Nat) (a : Option Addr) (n c : Nat) (id image at_ : Int) (l : List Row3) (w : World) (h : RwAt w g a n c l) (hg : g < w.heap.size) :
    Calls Try.prog 24 #[.agg #[.slice a n c], .int .i64 id, .int .i64 image, .int .i64 at_] w (IdxAns g (imgI l id image at_) w) := by
  obtain ⟨A, hA⟩ : ∃ A, w.heap.size = A := ⟨_, rfl⟩
  obtain ⟨W, hW⟩ : ∃ W, (w.alloc (.cells #[.slice a n c] 25)).alloc (.cells #[.slice none 0 0] 25) = W := ⟨_, rfl⟩
  have hs1 : (w.alloc (.cells #[.slice a n c] 25)).heap.size = A + 1 := by simp [hA]
  have hWs : W.heap.size = A + 2 := by rw [← hW]; simp [hA]
  have hWa : W.heap[A]? = some (.cells #[.slice a n c] 25 (0, 0)) := by rw [← hW, ← hA]; exact heap_alloc_of (heap_alloc_new _ _)
  have hWb : W.heap[A + 1]? = some (.cells #[.slice none 0 0] 25 (0, 0)) := by rw [← hW, ← hs1]; exact heap_alloc_new _ _
  have hb : Below A w W := by rw [← hW, ← hA]; exact ((Below.refl _ _).alloc (Nat.le_refl _) _).alloc (by simp) _
  have H1 : RwAt W g a n c l := by rw [← hW]; exact (h.alloc _).alloc _
  have hWac : W.cell? ⟨A, 0, none⟩ = some (.slice a n c) := by rw [heap_cell hWa]; rfl
  have hln := h.len
  rw [hA] at hg
  have HV := Lib.hid (fun W h => valid11_calls g a n c l W h)
  obtain ⟨b0, e0⟩ : ∃ b, idxOk l = b := ⟨_, rfl⟩
  rw [e0] at HV
  have HW := Lib.hid (show ∀ W', Below W.heap.size W W' → W'.heap[A + 1]? = some (.cells #[.slice none 0 0] 25 (0, 0)) ∧ W'.cell? ⟨A + 1, 0, none⟩ = some (.slice none 0 0) ∧ W'.frozen? ⟨A + 1, 0, none⟩ = false ∧ W'.cell? ⟨A, 0, none⟩ = some (.slice a n c) from fun W' hB => by
    have k3 := (hB.block (A + 1) (by omega)).trans hWb
    have k0 := (hB.block A (by omega)).trans hWa
    exact ⟨k3, by rw [heap_cell k3]; rfl, heap_free k3 0, by rw [heap_cell k0]; rfl⟩)
  have H := Lib.hid H1
  have HB := Lib.hid hb
  have HLN := Lib.hid hln
  have HE0 := Lib.hid e0
  clear h H1 hWa hWb hb hs1 hln e0
  go_enter Try.func24, Try.ntmps24
  go_wp2_with fail
  try rw [hW]
  try rw [hA]
  refine (HV.out W H.out).mono ?_
  rintro e w1 ⟨rfl, hB1⟩
  obtain ⟨k3, k4, k5, k6⟩ := HW.out w1 hB1
  have K3 := Lib.hid k3
  have HB1 := Lib.hid (HB.out.trans (hB1.mono (by omega)))
  have H2 := Lib.hid (H.out.below hB1)
  have hs2 := hB1.size
  clear k3 hB1
  cases b0
  · have hI := Lib.hid (imgI_bad (id := id) (image := image) (at_ := at_) HE0.out)
    go_wp2_with fail
    rw [hI.out]
    exact end25s rfl rfl K3.out rfl rfl ⟨none, 0, 0, rfl, RwAt.nil _ _, by rw [hA]; exact setCell_below HB1.out (by omega) _⟩
  · obtain ⟨hn1, hn2⟩ := idxOk_len HE0.out
    rw [HLN.out] at hn1 hn2
    by_cases h1 : 0 ≤ id ∧ id < n
    · obtain ⟨i, rfl⟩ : ∃ i : Nat, id = i := ⟨id.toNat, by omega⟩
      have d1 : decide ((i : Int) < 0) = false := by simp
      have d2 : decide ((n : Int) ≤ i) = false := by simp; omega
      have d3 : decide (n ≤ i) = false := by simp; omega
      have hQ : imgOk l.length i image at_ = (lsnOk image && lsnOk at_ && !((image == 0) && (at_ != 0))) := by
        unfold imgOk
        rw [HLN.out, show decide ((0 : Int) ≤ i) = true by simp, show decide ((i : Int) < n) = true by simp; omega]
        rfl
      obtain ⟨b, off, r, rfl, hr, hrg, hblt⟩ := H2.out.row i (by omega)
      have HR := Lib.hid hr
      have HP1 := Lib.hid (fun W => lsn11_calls image W)
      have HP2 := Lib.hid (fun W => lsn11_calls at_ W)
      obtain ⟨c2, e2⟩ : ∃ b, lsnOk image = b := ⟨_, rfl⟩
      obtain ⟨c3, e3⟩ : ∃ b, lsnOk at_ = b := ⟨_, rfl⟩
      obtain ⟨c4, e4⟩ : ∃ b, (image == 0) = b := ⟨_, rfl⟩
      obtain ⟨c5, e5⟩ : ∃ b, (at_ != 0) = b := ⟨_, rfl⟩
      have e6 : (at_ == 0) = !c5 := by rw [← e5]; simp [bne]
      rw [e2] at HP1 hQ
      rw [e3] at HP2 hQ
      rw [e4, e5] at hQ
      have HQ := Lib.hid hQ
      have j1 : (i : Int) < n := by omega
      have j2 : decide (i < n) = true := by simp; omega
      clear h1 hr e2 e3 hQ
      go_wp2_with fail
      refine (HP1.out _).mono ?_
      rintro e w3 ⟨rfl, rfl⟩
      cases c2
      · have hI := Lib.hid (show imgI l i image at_ = ([], 1) from imgI_off HE0.out (by rw [HQ.out]; rfl))
        go_wp2_with fail
        rw [hI.out]
        exact end25s rfl rfl K3.out rfl rfl ⟨none, 0, 0, rfl, RwAt.nil _ _, by rw [hA]; exact setCell_below HB1.out (by omega) _⟩
      · go_wp2_with fail
        refine (HP2.out _).mono ?_
        rintro e w3 ⟨rfl, rfl⟩
        cases c3
        · have hI := Lib.hid (show imgI l i image at_ = ([], 1) from imgI_off HE0.out (by rw [HQ.out]; rfl))
          go_wp2_with fail
          rw [hI.out]
          exact end25s rfl rfl K3.out rfl rfl ⟨none, 0, 0, rfl, RwAt.nil _ _, by rw [hA]; exact setCell_below HB1.out (by omega) _⟩
        · cases c4
          · have hI := Lib.hid (show imgI l i image at_ = (l.set i ⟨r.lsn, image, at_⟩, 0) from imgI_ok HE0.out (by rw [HQ.out]; rfl) HR.out)
            obtain ⟨X, hX⟩ : ∃ X, w1.alloc (.cells #[.int .i64 r.lsn, .int .i64 image, .int .i64 at_] 84) = X := ⟨_, rfl⟩
            have hBX : Below w1.heap.size w1 X := by rw [← hX]; exact (Below.refl _ _).alloc (Nat.le_refl _) _
            have hXr : X.heap[w1.heap.size]? = some (.cells #[.int .i64 r.lsn, .int .i64 image, .int .i64 at_] 84 (0, 0)) := by
              rw [← hX]
              exact heap_alloc_new _ _
            have hX0 : X.cell? ⟨A, 0, none⟩ = _ := (hBX.cell (p := ⟨A, 0, none⟩) (show A < w1.heap.size by omega)).trans k6
            have hX1 : X.cell? ⟨w1.heap.size, 0, none⟩ = some (.int .i64 r.lsn) := by rw [heap_cell hXr]; rfl
            have hX2 : X.cell? ⟨w1.heap.size, 1, none⟩ = some (.int .i64 image) := by rw [heap_cell hXr]; rfl
            have hX3 : X.cell? ⟨w1.heap.size, 2, none⟩ = some (.int .i64 at_) := by rw [heap_cell hXr]; rfl
            have hX4 := (hBX.block (A + 1) (by omega)).trans K3.out
            have hXB := HB1.out.trans (hBX.mono (by omega))
            have H3 := Lib.hid (H2.out.below hBX)
            have HX4 := Lib.hid hX4
            have HXB := Lib.hid hXB
            have hXs := hBX.size
            clear hBX hXr hX4 hXB
            go_wp2_with (refine wpList_load_row3 (.tmp 46) ⟨rfl, rfl⟩ b (off + i * 3) rfl r hrg ?_)
            try rw [hX]
            refine (set_calls g _ n c i l r ⟨r.lsn, image, at_⟩ X H3.out HR.out (by omega)).mono ?_
            rintro e w4 ⟨b', c', rfl, hbb, hO, hB4⟩
            have n3 := (hB4.block (A + 1) (by omega)).trans HX4.out
            have n4 : w4.cell? ⟨A + 1, 0, none⟩ = some (.slice none 0 0) := by rw [heap_cell n3]; rfl
            have n5 : w4.frozen? ⟨A + 1, 0, none⟩ = false := heap_free n3 0
            have N3 := Lib.hid n3
            have HO := Lib.hid (hO.keep (w' := w4.setCell ⟨A + 1, 0, none⟩ (.slice (some ⟨b', 0, none⟩) n c')) (heap_setCell_other _ _ _ _ (by simp; omega)))
            have HB4 := Lib.hid (HXB.out.trans (hB4.mono (by omega)))
            clear k4 k5 k6 n3 hO hB4 hX0 hX1 hX2 hX3
            go_wp2_with fail
            rw [hI.out]
            exact end25s rfl rfl N3.out rfl rfl ⟨some ⟨b', 0, none⟩, n, c', rfl, HO.out.rw (by omega), by rw [hA]; exact setCell_below HB4.out (by omega) _⟩
          · cases c5
            · simp only [Bool.not_false] at e6
              have hI := Lib.hid (show imgI l i image at_ = (l.set i ⟨r.lsn, image, at_⟩, 0) from imgI_ok HE0.out (by rw [HQ.out]; rfl) HR.out)
              obtain ⟨X, hX⟩ : ∃ X, w1.alloc (.cells #[.int .i64 r.lsn, .int .i64 image, .int .i64 at_] 84) = X := ⟨_, rfl⟩
              have hBX : Below w1.heap.size w1 X := by rw [← hX]; exact (Below.refl _ _).alloc (Nat.le_refl _) _
              have hXr : X.heap[w1.heap.size]? = some (.cells #[.int .i64 r.lsn, .int .i64 image, .int .i64 at_] 84 (0, 0)) := by
                rw [← hX]
                exact heap_alloc_new _ _
              have hX0 : X.cell? ⟨A, 0, none⟩ = _ := (hBX.cell (p := ⟨A, 0, none⟩) (show A < w1.heap.size by omega)).trans k6
              have hX1 : X.cell? ⟨w1.heap.size, 0, none⟩ = some (.int .i64 r.lsn) := by rw [heap_cell hXr]; rfl
              have hX2 : X.cell? ⟨w1.heap.size, 1, none⟩ = some (.int .i64 image) := by rw [heap_cell hXr]; rfl
              have hX3 : X.cell? ⟨w1.heap.size, 2, none⟩ = some (.int .i64 at_) := by rw [heap_cell hXr]; rfl
              have hX4 := (hBX.block (A + 1) (by omega)).trans K3.out
              have hXB := HB1.out.trans (hBX.mono (by omega))
              have H3 := Lib.hid (H2.out.below hBX)
              have HX4 := Lib.hid hX4
              have HXB := Lib.hid hXB
              have hXs := hBX.size
              clear hBX hXr hX4 hXB
              go_wp2_with (refine wpList_load_row3 (.tmp 46) ⟨rfl, rfl⟩ b (off + i * 3) rfl r hrg ?_)
              try rw [hX]
              refine (set_calls g _ n c i l r ⟨r.lsn, image, at_⟩ X H3.out HR.out (by omega)).mono ?_
              rintro e w4 ⟨b', c', rfl, hbb, hO, hB4⟩
              have n3 := (hB4.block (A + 1) (by omega)).trans HX4.out
              have n4 : w4.cell? ⟨A + 1, 0, none⟩ = some (.slice none 0 0) := by rw [heap_cell n3]; rfl
              have n5 : w4.frozen? ⟨A + 1, 0, none⟩ = false := heap_free n3 0
              have N3 := Lib.hid n3
              have HO := Lib.hid (hO.keep (w' := w4.setCell ⟨A + 1, 0, none⟩ (.slice (some ⟨b', 0, none⟩) n c')) (heap_setCell_other _ _ _ _ (by simp; omega)))
              have HB4 := Lib.hid (HXB.out.trans (hB4.mono (by omega)))
              clear k4 k5 k6 n3 hO hB4 hX0 hX1 hX2 hX3
              go_wp2_with fail
              rw [hI.out]
              exact end25s rfl rfl N3.out rfl rfl ⟨some ⟨b', 0, none⟩, n, c', rfl, HO.out.rw (by omega), by rw [hA]; exact setCell_below HB4.out (by omega) _⟩
            · simp only [Bool.not_true] at e6
              have hI := Lib.hid (show imgI l i image at_ = ([], 1) from imgI_off HE0.out (by rw [HQ.out]; rfl))
              go_wp2_with fail
              rw [hI.out]
              exact end25s rfl rfl K3.out rfl rfl ⟨none, 0, 0, rfl, RwAt.nil _ _, by rw [hA]; exact setCell_below HB1.out (by omega) _⟩
    · have hQ : imgOk l.length id image at_ = false := by
        unfold imgOk
        rw [HLN.out]
        by_cases h0 : 0 ≤ id
        · have : ¬ id < n := fun h => h1 ⟨h0, h⟩
          simp [this]
        · simp [h0]
      have hI := Lib.hid (imgI_off HE0.out hQ)
      by_cases h0 : 0 ≤ id
      · have d1 : decide (id < 0) = false := by simpa using h0
        have d2 : decide ((n : Int) ≤ id) = true := by simp; omega
        clear h1 hQ h0
        go_wp2_with fail
        rw [hI.out]
        exact end25s rfl rfl K3.out rfl rfl ⟨none, 0, 0, rfl, RwAt.nil _ _, by rw [hA]; exact setCell_below HB1.out (by omega) _⟩
      · have d1 : decide (id < 0) = true := by simp; omega
        clear h1 hQ h0
        go_wp2_with fail
        rw [hI.out]
        exact end25s rfl rfl K3.out rfl rfl ⟨none, 0, 0, rfl, RwAt.nil _ _, by rw [hA]; exact setCell_below HB1.out (by omega) _⟩
end Go.Proofs.Ytldkgmodmpnclaa
