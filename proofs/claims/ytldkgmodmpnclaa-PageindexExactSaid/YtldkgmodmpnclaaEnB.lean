/- Entries: the shapes of the reference. -/
import Derived.Test.YtldkgmodmpnclaaEnA
import Derived.Test.YtldkgmodmpnclaaIxA
/-! The reference's shape of an entry: kinds without a change. -/
namespace Go.Proofs.Ytldkgmodmpnclaa
open Go.RowKit Go.Proofs
set_option linter.unusedVariables false
set_option linter.unusedSimpArgs false
theorem heap_alloc_at {w : World} {o : Obj} {k : Nat} (h : k = w.heap.size) : (w.alloc o).heap[k]? = some o := by rw [h]; exact heap_alloc_new w o
def txOk (e : Ent) : Bool := decide (1 ≤ e.tx) && decide (e.tx ≤ 1073741824)
theorem info31 (e : Ent) : (Try.prog.info? 31).map (·.size) = some (e.cs).size := by kernel_rfl
/-- An entry and a bool are answered. -/
theorem end31 {fn : Func} {R : Ending → World → Prop} {a : Act} {w : World} {p q : Tmp} {g : Nat} {e : Ent} {b : Bool} {fr : Nat × Nat} (hr : fn.results = #[.cell p 31, .tmp q])
    (hp : a.tmps.getD p undef = .pointer (some ⟨g, 0, none⟩)) (hg : w.heap[g]? = some (.cells e.cs 31 fr)) (hn : a.tmps.getD q undef = .bool b) (hd : a.defers = []) (hR : R (.returned (.tuple #[.agg e.cs, .bool b])) w) : bodyPost Try.prog fn R .ret a w :=
  bodyPost_ret (v := .tuple #[.agg e.cs, .bool b]) (by rw [results_cell_tmp hr _ _ g _ _ _ _ hp hg Try.underlying31 rfl (info31 e), hn]) hd hR
/-- What shape answers. -/
def ShapeAns (e : Ent) (b : Bool) (w : World) (r : Ending) (w' : World) : Prop := r = .returned (.tuple #[.agg e.cs, .bool b]) ∧ Below w.heap.size w w'
theorem below3 (w : World) (a b c : Obj) : Below w.heap.size w (((w.alloc a).alloc b).alloc c) := ((((Below.refl _ _).alloc (Nat.le_refl _) _).alloc (by simp) _).alloc (by simp; omega) _)
set_option maxHeartbeats 8000000 in
set_option maxRecDepth 100000 in
theorem shape3_calls (e : Ent) (w : World) (hk : e.kind = 3) : Calls Try.prog 90 #[.agg e.cs] w (ShapeAns ⟨e.lsn, e.kind, e.tx, e.ptx, 0, 0, Chg.zero, ByteArray.empty⟩ (txOk e && decide (0 < e.ptx)) w) := by
  obtain ⟨lsn, kind, tx, ptx, ppage, ref, ⟨page, slot, ⟨bs, bd⟩, ⟨as_, ad⟩⟩, blob⟩ := e
  simp only at hk
  subst hk
  unfold txOk
  dsimp only
  cases h1 : decide (1 ≤ tx)
  · go_enter Try.func90, Try.ntmps90
    go_wp2_with fail
    go_region
    go_wp2_with fail
    go_region
    go_wp2_with fail
    exact end31 (e := ⟨lsn, 3, tx, ptx, 0, 0, Chg.zero, ByteArray.empty⟩) rfl rfl (show _ = _ from heap_alloc_of (heap_alloc_at (by simp))) rfl rfl ⟨by first | rfl | simp, Below.drew (Below.drew (below3 w _ _ _))⟩
  · cases h2 : decide (tx ≤ 1073741824)
    · go_enter Try.func90, Try.ntmps90
      go_wp2_with fail
      go_region
      go_wp2_with fail
      go_region
      go_wp2_with fail
      exact end31 (e := ⟨lsn, 3, tx, ptx, 0, 0, Chg.zero, ByteArray.empty⟩) rfl rfl (show _ = _ from heap_alloc_of (heap_alloc_at (by simp))) rfl rfl ⟨by first | rfl | simp, Below.drew (Below.drew (below3 w _ _ _))⟩
    · go_enter Try.func90, Try.ntmps90
      go_wp2_with fail
      go_region
      go_wp2_with fail
      go_region
      go_wp2_with fail
      exact end31 (e := ⟨lsn, 3, tx, ptx, 0, 0, Chg.zero, ByteArray.empty⟩) rfl rfl (show _ = _ from heap_alloc_of (heap_alloc_at (by simp))) rfl rfl ⟨by first | rfl | simp, Below.drew (Below.drew (below3 w _ _ _))⟩
set_option maxHeartbeats 8000000 in
set_option maxRecDepth 100000 in
theorem shape4_calls (e : Ent) (w : World) (hk : e.kind = 4) : Calls Try.prog 90 #[.agg e.cs] w (ShapeAns ⟨e.lsn, e.kind, e.tx, e.ptx, 0, 0, Chg.zero, ByteArray.empty⟩ (txOk e && decide (0 < e.ptx)) w) := by
  obtain ⟨lsn, kind, tx, ptx, ppage, ref, ⟨page, slot, ⟨bs, bd⟩, ⟨as_, ad⟩⟩, blob⟩ := e
  simp only at hk
  subst hk
  unfold txOk
  dsimp only
  cases h1 : decide (1 ≤ tx)
  · go_enter Try.func90, Try.ntmps90
    go_wp2_with fail
    go_region
    go_wp2_with fail
    go_region
    go_wp2_with fail
    exact end31 (e := ⟨lsn, 4, tx, ptx, 0, 0, Chg.zero, ByteArray.empty⟩) rfl rfl (show _ = _ from heap_alloc_of (heap_alloc_at (by simp))) rfl rfl ⟨by first | rfl | simp, Below.drew (Below.drew (below3 w _ _ _))⟩
  · cases h2 : decide (tx ≤ 1073741824)
    · go_enter Try.func90, Try.ntmps90
      go_wp2_with fail
      go_region
      go_wp2_with fail
      go_region
      go_wp2_with fail
      exact end31 (e := ⟨lsn, 4, tx, ptx, 0, 0, Chg.zero, ByteArray.empty⟩) rfl rfl (show _ = _ from heap_alloc_of (heap_alloc_at (by simp))) rfl rfl ⟨by first | rfl | simp, Below.drew (Below.drew (below3 w _ _ _))⟩
    · go_enter Try.func90, Try.ntmps90
      go_wp2_with fail
      go_region
      go_wp2_with fail
      go_region
      go_wp2_with fail
      exact end31 (e := ⟨lsn, 4, tx, ptx, 0, 0, Chg.zero, ByteArray.empty⟩) rfl rfl (show _ = _ from heap_alloc_of (heap_alloc_at (by simp))) rfl rfl ⟨by first | rfl | simp, Below.drew (Below.drew (below3 w _ _ _))⟩
set_option maxHeartbeats 8000000 in
set_option maxRecDepth 100000 in
theorem shape5_calls (e : Ent) (w : World) (hk : e.kind = 5) : Calls Try.prog 90 #[.agg e.cs] w (ShapeAns ⟨e.lsn, e.kind, e.tx, e.ptx, 0, 0, Chg.zero, ByteArray.empty⟩ (txOk e && decide (0 < e.ptx)) w) := by
  obtain ⟨lsn, kind, tx, ptx, ppage, ref, ⟨page, slot, ⟨bs, bd⟩, ⟨as_, ad⟩⟩, blob⟩ := e
  simp only at hk
  subst hk
  unfold txOk
  dsimp only
  cases h1 : decide (1 ≤ tx)
  · go_enter Try.func90, Try.ntmps90
    go_wp2_with fail
    go_region
    go_wp2_with fail
    go_region
    go_wp2_with fail
    exact end31 (e := ⟨lsn, 5, tx, ptx, 0, 0, Chg.zero, ByteArray.empty⟩) rfl rfl (show _ = _ from heap_alloc_of (heap_alloc_at (by simp))) rfl rfl ⟨by first | rfl | simp, Below.drew (Below.drew (below3 w _ _ _))⟩
  · cases h2 : decide (tx ≤ 1073741824)
    · go_enter Try.func90, Try.ntmps90
      go_wp2_with fail
      go_region
      go_wp2_with fail
      go_region
      go_wp2_with fail
      exact end31 (e := ⟨lsn, 5, tx, ptx, 0, 0, Chg.zero, ByteArray.empty⟩) rfl rfl (show _ = _ from heap_alloc_of (heap_alloc_at (by simp))) rfl rfl ⟨by first | rfl | simp, Below.drew (Below.drew (below3 w _ _ _))⟩
    · go_enter Try.func90, Try.ntmps90
      go_wp2_with fail
      go_region
      go_wp2_with fail
      go_region
      go_wp2_with fail
      exact end31 (e := ⟨lsn, 5, tx, ptx, 0, 0, Chg.zero, ByteArray.empty⟩) rfl rfl (show _ = _ from heap_alloc_of (heap_alloc_at (by simp))) rfl rfl ⟨by first | rfl | simp, Below.drew (Below.drew (below3 w _ _ _))⟩
set_option maxHeartbeats 8000000 in
set_option maxRecDepth 100000 in
theorem shape6_calls (e : Ent) (w : World) (hk : e.kind = 6) : Calls Try.prog 90 #[.agg e.cs] w (ShapeAns ⟨e.lsn, e.kind, 0, 0, 0, 0, Chg.zero, e.blob⟩ (decide ((e.blob.size : Int) ≤ 8192)) w) := by
  obtain ⟨lsn, kind, tx, ptx, ppage, ref, ⟨page, slot, ⟨bs, bd⟩, ⟨as_, ad⟩⟩, blob⟩ := e
  simp only at hk
  subst hk
  dsimp only
  go_enter Try.func90, Try.ntmps90
  go_wp2_with fail
  go_region
  go_wp2_with fail
  exact end31 (e := ⟨lsn, 6, 0, 0, 0, 0, Chg.zero, blob⟩) rfl rfl (show _ = _ from heap_alloc_of (heap_alloc_at (by simp))) rfl rfl ⟨by first | rfl | simp, Below.drew (below3 w _ _ _)⟩
set_option maxHeartbeats 8000000 in
set_option maxRecDepth 100000 in
theorem shape8_calls (e : Ent) (w : World) (hk : e.kind = 8) : Calls Try.prog 90 #[.agg e.cs] w (ShapeAns ⟨e.lsn, e.kind, 0, 0, 0, 0, Chg.zero, e.blob⟩ (decide ((e.blob.size : Int) ≤ 8192)) w) := by
  obtain ⟨lsn, kind, tx, ptx, ppage, ref, ⟨page, slot, ⟨bs, bd⟩, ⟨as_, ad⟩⟩, blob⟩ := e
  simp only at hk
  subst hk
  dsimp only
  go_enter Try.func90, Try.ntmps90
  go_wp2_with fail
  go_region
  go_wp2_with fail
  exact end31 (e := ⟨lsn, 8, 0, 0, 0, 0, Chg.zero, blob⟩) rfl rfl (show _ = _ from heap_alloc_of (heap_alloc_at (by simp))) rfl rfl ⟨by first | rfl | simp, Below.drew (below3 w _ _ _)⟩
set_option maxHeartbeats 8000000 in
set_option maxRecDepth 100000 in
theorem shape7_calls (e : Ent) (w : World) (hk : e.kind = 7) : Calls Try.prog 90 #[.agg e.cs] w (ShapeAns ⟨e.lsn, e.kind, 0, 0, 0, e.ref, Chg.only e.chg.page, ByteArray.empty⟩ (paged e.chg.page) w) := by
  obtain ⟨lsn, kind, tx, ptx, ppage, ref, ⟨page, slot, ⟨bs, bd⟩, ⟨as_, ad⟩⟩, blob⟩ := e
  simp only at hk
  subst hk
  unfold paged
  dsimp only
  cases h1 : decide (0 ≤ page)
  · go_enter Try.func90, Try.ntmps90
    go_wp2_with fail
    go_region
    go_wp2_with fail
    go_region
    go_wp2_with fail
    exact end31 (e := ⟨lsn, 7, 0, 0, 0, ref, Chg.only page, ByteArray.empty⟩) rfl rfl (show _ = _ from heap_alloc_of (heap_alloc_at (by simp))) rfl rfl ⟨by first | rfl | simp, Below.drew (Below.drew (below3 w _ _ _))⟩
  · go_enter Try.func90, Try.ntmps90
    go_wp2_with fail
    go_region
    go_wp2_with fail
    go_region
    go_wp2_with fail
    exact end31 (e := ⟨lsn, 7, 0, 0, 0, ref, Chg.only page, ByteArray.empty⟩) rfl rfl (show _ = _ from heap_alloc_of (heap_alloc_at (by simp))) rfl rfl ⟨by first | rfl | simp, Below.drew (Below.drew (below3 w _ _ _))⟩
set_option maxHeartbeats 8000000 in
set_option maxRecDepth 100000 in
theorem shapeX_calls (e : Ent) (w : World) (h1 : (e.kind == 1) = false) (h2 : (e.kind == 2) = false) (h3 : (e.kind == 3) = false) (h4 : (e.kind == 4) = false) (h5 : (e.kind == 5) = false) (h6 : (e.kind == 6) = false) (h7 : (e.kind == 7) = false) (h8 : (e.kind == 8) = false) : Calls Try.prog 90 #[.agg e.cs] w (ShapeAns ⟨e.lsn, e.kind, 0, 0, 0, 0, Chg.zero, ByteArray.empty⟩ (false) w) := by
  obtain ⟨lsn, kind, tx, ptx, ppage, ref, ⟨page, slot, ⟨bs, bd⟩, ⟨as_, ad⟩⟩, blob⟩ := e
  simp only at h1 h2 h3 h4 h5 h6 h7 h8
  go_enter Try.func90, Try.ntmps90
  go_wp2_with fail
  exact end31 (e := ⟨lsn, kind, 0, 0, 0, 0, Chg.zero, ByteArray.empty⟩) rfl rfl (show _ = _ from heap_alloc_of (heap_alloc_at (by simp))) rfl rfl ⟨by first | rfl | simp, (below3 w _ _ _)⟩
end Go.Proofs.Ytldkgmodmpnclaa
/-! The reference's shape of an entry: changes and undos. -/
namespace Go.Proofs.Ytldkgmodmpnclaa
open Go.RowKit Go.Proofs
set_option linter.unusedVariables false
set_option linter.unusedSimpArgs false
theorem wp_store_ent {o : Oper} {act : Act} {w : World} {K : Act → World → Prop} {Q : Exit → Act → World → Prop} (x y : Operand) (ho : o.op = .store 31 x y) (D : Nat) (e q : Ent) (hx : act.eval x = .pointer (some ⟨D, 0, none⟩)) (hy : act.eval y = .agg e.cs)
    (hq : w.heap[D]? = some (.cells q.cs 31 (0, 0))) (h : ∀ w', w'.heap[D]? = some (.cells e.cs 31 (0, 0)) → (∀ k, k ≠ D → w'.heap[k]? = w.heap[k]?) → (∀ B W, B ≤ D → Below B W w → Below B W w') → K (act.put o.dst undef) w') : Oper.wp Try.prog o act w K Q :=
  wp_store_row 31 x y ho D e.cs hx hy 31 q.cs hq (info31 e) rfl (by simp [Value.oneCell']) (h _ (heap_setRow hq) (fun k hk => setRow_other w D k e.cs hk) (fun B W hB hb => below_setRow hb hB _))
theorem yields_ent {ops : Array Oper} {S : World → Prop} {o : Oper} {a : Act} (hw : Region.wanted o (yielded ops a.tmps) = true) (x : Operand) (ho : o.op = .load 31 x) (b : Nat) (hx : a.eval x = .pointer (some ⟨b, 0, none⟩)) (e : Ent)
    (hS : ∀ w, S w → w.heap[b]? = some (.cells e.cs 31 (0, 0))) : YieldsIf Try.prog ops S o (.agg e.cs) a :=
  yieldsIf_load_mid hw 31 x ho b 0 hx e.cs.toList _ (fun w h j v hj => by rw [heap_cell (hS w h), Nat.zero_add]; simpa using hj) Try.underlying31 rfl (by rw [Array.length_toList]; exact info31 e)
/-- The first cells of an entry in a block. -/
structure EntIn (w : World) (A : Nat) (e : Ent) : Prop where
  c0 : w.cell? ⟨A, 0, none⟩ = some (.int .i64 e.lsn)
  c1 : w.cell? ⟨A, 1, none⟩ = some (.int .i64 e.kind)
  c2 : w.cell? ⟨A, 2, none⟩ = some (.int .i64 e.tx)
  c3 : w.cell? ⟨A, 3, none⟩ = some (.int .i64 e.ptx)
  c4 : w.cell? ⟨A, 4, none⟩ = some (.int .i64 e.ppage)
  c5 : w.cell? ⟨A, 5, none⟩ = some (.int .i64 e.ref)
theorem EntIn.of {w : World} {A : Nat} {e : Ent} {t : TypeId} {fr : Nat × Nat} (h : w.heap[A]? = some (.cells e.cs t fr)) : EntIn w A e := by
  constructor <;> (rw [heap_cell h]; rfl)
/-- The three blocks of shape. -/
def Sh (A : Nat) (e o : Ent) (w0 w : World) : Prop := w.heap[A]? = some (.cells e.cs 31 (0, 0)) ∧ w.heap[A + 2]? = some (.cells o.cs 31 (0, 0)) ∧ Below A w0 w
theorem below_heap {A : Nat} {w w' : World} (h : Below A w w') {x : World} (he : x = w') : Below A w x := he ▸ h
set_option maxHeartbeats 8000000 in
set_option maxRecDepth 100000 in
theorem shape1_calls (e : Ent) (w : World) (hk : e.kind = 1) : Calls Try.prog 90 #[.agg e.cs] w (ShapeAns ⟨e.lsn, e.kind, e.tx, e.ptx, e.ppage, 0, e.chg, ByteArray.empty⟩ (chgOk e.chg && txOk e) w) := by
  obtain ⟨lsn, kind, tx, ptx, ppage, ref, ⟨page, slot, ⟨bs, bd⟩, ⟨as_, ad⟩⟩, blob⟩ := e
  simp only at hk
  subst hk
  unfold txOk
  dsimp only
  have H7 := Lib.hid (fun W => chgValid03_calls ⟨page, slot, ⟨bs, bd⟩, ⟨as_, ad⟩⟩ W)
  obtain ⟨b, hb⟩ : ∃ b, chgOk ⟨page, slot, ⟨bs, bd⟩, ⟨as_, ad⟩⟩ = b := ⟨_, rfl⟩
  rw [hb] at H7 ⊢
  clear hb
  obtain ⟨A, hA⟩ : ∃ A, w.heap.size = A := ⟨_, rfl⟩
  have HA := Lib.hid hA
  cases b
  · go_enter Try.func90, Try.ntmps90
    go_wp2_with fail
    go_region
    go_wp2_with fail
    refine (H7.out _).mono ?_
    rintro r_ w2 ⟨rfl, hB2⟩
    have k0 : w2.heap[A]? = some (.cells (⟨lsn, 1, tx, ptx, ppage, ref, ⟨page, slot, ⟨bs, bd⟩, ⟨as_, ad⟩⟩, blob⟩ : Ent).cs 31 (0, 0)) := (hB2.block A (by simp [World.drew, hA]; omega)).trans (show _ = _ from heap_alloc_of (heap_alloc_of (heap_alloc_at hA.symm)))
    have k1 : w2.heap[A + 1]? = some (.cells (⟨0, 0, 0, 0, 0, 0, Chg.zero, ByteArray.empty⟩ : Ent).cs 31 (0, 0)) := (hB2.block (A + 1) (by simp [World.drew, hA])).trans (show _ = _ from heap_alloc_of (heap_alloc_at (by simp [hA])))
    have k2 : w2.heap[A + 2]? = some (.cells (⟨lsn, 1, tx, ptx, ppage, 0, ⟨page, slot, ⟨bs, bd⟩, ⟨as_, ad⟩⟩, ByteArray.empty⟩ : Ent).cs 31 (0, 0)) := (hB2.block (A + 2) (by simp [World.drew, hA])).trans (show _ = _ from heap_alloc_at (by simp [hA]))
    have kB : Below A w w2 := (show Below A w _ from by rw [← hA]; exact (below3 w _ _ _).drew).trans (hB2.mono (by simp [World.drew, hA]; omega))
    obtain ⟨c0, c1, c2, c3, c4, c5⟩ := EntIn.of k0
    have K1 := Lib.hid k1; have KS := Lib.hid (show Sh A (⟨lsn, 1, tx, ptx, ppage, ref, ⟨page, slot, ⟨bs, bd⟩, ⟨as_, ad⟩⟩, blob⟩ : Ent) (⟨lsn, 1, tx, ptx, ppage, 0, ⟨page, slot, ⟨bs, bd⟩, ⟨as_, ad⟩⟩, ByteArray.empty⟩ : Ent) w w2.drew from ⟨k0, k2, kB.drew⟩)
    clear hB2 k0 k1 k2 kB
    go_wp2_with fail
    have hZ : w2.drew.heap[A + 1]? = _ := K1.out
    refine wp_region_held_drew (S := Sh A (⟨lsn, 1, tx, ptx, ppage, ref, ⟨page, slot, ⟨bs, bd⟩, ⟨as_, ad⟩⟩, blob⟩ : Ent) (⟨lsn, 1, tx, ptx, ppage, 0, ⟨page, slot, ⟨bs, bd⟩, ⟨as_, ad⟩⟩, ByteArray.empty⟩ : Ent) w) (by kernel_rfl) KS.out (fun hHeld => ?_)
    refine Held.takeL (i := 0) (v := .agg (⟨lsn, 1, tx, ptx, ppage, 0, ⟨page, slot, ⟨bs, bd⟩, ⟨as_, ad⟩⟩, ByteArray.empty⟩ : Ent).cs) rfl (by kernel_rfl) (by kernel_rfl) (by kernel_rfl) (fun _ _ _ h => h) ?_ (by assumption) ?_
    · exact yields_ent (by kernel_rfl) (.tmp 4) (by kernel_rfl) (A + 2) (by rfl) (⟨lsn, 1, tx, ptx, ppage, 0, ⟨page, slot, ⟨bs, bd⟩, ⟨as_, ad⟩⟩, ByteArray.empty⟩ : Ent) (fun w_ h => h.2.1)
    try simp only [Act.put, List.setIfInBounds_toArray, List.set_cons_zero, List.set_cons_succ]
    refine Held.takeL (i := 1) (v := ?_) rfl (by kernel_rfl) (by kernel_rfl) (by kernel_rfl) (fun _ _ _ h => h) (.inl ⟨by kernel_rfl, ?_⟩) (by assumption) ?_
    rotate_left
    · (intro w_ hSw; go_simp; first | done | with_reducible rfl)
    try simp only [Act.put, List.setIfInBounds_toArray, List.set_cons_zero, List.set_cons_succ]
    refine Held.takeL (i := 2) (v := ?_) rfl (by kernel_rfl) (by kernel_rfl) (by kernel_rfl) (fun _ _ _ h => h) (.inl ⟨by kernel_rfl, ?_⟩) (by assumption) ?_
    rotate_left
    · (intro w_ hSw; go_simp; first | done | with_reducible rfl)
    try simp only [Act.put, List.setIfInBounds_toArray, List.set_cons_zero, List.set_cons_succ]
    refine Held.takeL (i := 3) (v := undef) rfl (by kernel_rfl) (by kernel_rfl) (by kernel_rfl) (fun _ _ _ h => h) (.inr ⟨by kernel_rfl, rfl⟩) (by assumption) ?_
    try simp only [Act.put, List.setIfInBounds_toArray, List.set_cons_zero, List.set_cons_succ]
    refine Held.takeL (i := 4) (v := undef) rfl (by kernel_rfl) (by kernel_rfl) (by kernel_rfl) (fun _ _ _ h => h) (.inr ⟨by kernel_rfl, rfl⟩) (by assumption) ?_
    try simp only [Act.put, List.setIfInBounds_toArray, List.set_cons_zero, List.set_cons_succ]
    refine Held.takeL (i := 5) (v := undef) rfl (by kernel_rfl) (by kernel_rfl) (by kernel_rfl) (fun _ _ _ h => h) (.inr ⟨by kernel_rfl, rfl⟩) (by assumption) ?_
    try simp only [Act.put, List.setIfInBounds_toArray, List.set_cons_zero, List.set_cons_succ]
    refine Held.takeL (i := 6) (v := ?_) rfl (by kernel_rfl) (by kernel_rfl) (by kernel_rfl) (fun _ _ _ h => h) (.inl ⟨by kernel_rfl, ?_⟩) (by assumption) ?_
    rotate_left
    · (intro w_ hSw; go_simp; first | done | with_reducible rfl)
    try simp only [Act.put, List.setIfInBounds_toArray, List.set_cons_zero, List.set_cons_succ]
    refine Held.takeL (i := 7) (v := ?_) rfl (by kernel_rfl) (by kernel_rfl) (by kernel_rfl) (fun _ _ _ h => h) (.inl ⟨by kernel_rfl, ?_⟩) (by assumption) ?_
    rotate_left
    · (intro w_ hSw; go_simp; first | done | with_reducible rfl)
    try simp only [Act.put, List.setIfInBounds_toArray, List.set_cons_zero, List.set_cons_succ]
    refine Held.takeL (i := 8) (v := undef) rfl (by kernel_rfl) (by kernel_rfl) (by kernel_rfl) (fun _ _ _ h => h) (.inr ⟨by kernel_rfl, rfl⟩) (by assumption) ?_
    try simp only [Act.put, List.setIfInBounds_toArray, List.set_cons_zero, List.set_cons_succ]
    refine Held.takeL (i := 9) (v := undef) rfl (by kernel_rfl) (by kernel_rfl) (by kernel_rfl) (fun _ _ _ h => h) (.inr ⟨by kernel_rfl, rfl⟩) (by assumption) ?_
    try simp only [Act.put, List.setIfInBounds_toArray, List.set_cons_zero, List.set_cons_succ]
    refine Held.takeL (i := 10) (v := undef) rfl (by kernel_rfl) (by kernel_rfl) (by kernel_rfl) (fun _ _ _ h => h) (.inr ⟨by kernel_rfl, rfl⟩) (by assumption) ?_
    try simp only [Act.put, List.setIfInBounds_toArray, List.set_cons_zero, List.set_cons_succ]
    refine Held.takeL (i := 11) (v := ?_) rfl (by kernel_rfl) (by kernel_rfl) (by kernel_rfl) (fun _ _ _ h => h) (.inl ⟨by kernel_rfl, ?_⟩) (by assumption) ?_
    rotate_left
    · (intro w_ hSw; go_simp; first | done | with_reducible rfl)
    try simp only [Act.put, List.setIfInBounds_toArray, List.set_cons_zero, List.set_cons_succ]
    refine wpAnyH_ready (rs := [12]) (by kernel_rfl) (by simp) ?_
    refine Held.consL rfl (fun K hK => ?_) AllReadyH.nil
    rw [if_pos (by kernel_rfl)]
    refine wp_store_ent (.tmp 2) (.tmp 55) (by rfl) (A + 1) (⟨lsn, 1, tx, ptx, ppage, 0, ⟨page, slot, ⟨bs, bd⟩, ⟨as_, ad⟩⟩, ByteArray.empty⟩ : Ent) _ (by rfl) (by rfl) hZ ?_
    intro w9 hZ9 ho9 hk9
    have hS9 : Sh A (⟨lsn, 1, tx, ptx, ppage, ref, ⟨page, slot, ⟨bs, bd⟩, ⟨as_, ad⟩⟩, blob⟩ : Ent) (⟨lsn, 1, tx, ptx, ppage, 0, ⟨page, slot, ⟨bs, bd⟩, ⟨as_, ad⟩⟩, ByteArray.empty⟩ : Ent) w w9 := ⟨(ho9 A (by omega)).trans hHeld.1, (ho9 (A + 2) (by omega)).trans hHeld.2.1, hk9 _ _ (by omega) hHeld.2.2⟩
    refine hK.out _ _ hS9 (fun hHeld => ?_)
    clear hK K
    try simp only [Act.put, List.setIfInBounds_toArray, List.set_cons_zero, List.set_cons_succ]
    refine Held.takeL (i := 13) (v := ?_) rfl (by kernel_rfl) (by kernel_rfl) (by kernel_rfl) (fun _ _ _ h => h) (.inl ⟨by kernel_rfl, ?_⟩) (by assumption) ?_
    rotate_left
    · (intro w_ hSw; go_simp; first | done | with_reducible rfl)
    try simp only [Act.put, List.setIfInBounds_toArray, List.set_cons_zero, List.set_cons_succ]
    refine wpAnyH_done (by kernel_rfl) ?_ _
    go_wp2_with fail
    exact end31 (e := (⟨lsn, 1, tx, ptx, ppage, 0, ⟨page, slot, ⟨bs, bd⟩, ⟨as_, ad⟩⟩, ByteArray.empty⟩ : Ent)) rfl rfl hZ9 rfl rfl ⟨by first | rfl | simp, by rw [HA.out]; exact hS9.2.2⟩
  cases h1 : decide (1 ≤ tx)
  · go_enter Try.func90, Try.ntmps90
    go_wp2_with fail
    go_region
    go_wp2_with fail
    refine (H7.out _).mono ?_
    rintro r_ w2 ⟨rfl, hB2⟩
    have k0 : w2.heap[A]? = some (.cells (⟨lsn, 1, tx, ptx, ppage, ref, ⟨page, slot, ⟨bs, bd⟩, ⟨as_, ad⟩⟩, blob⟩ : Ent).cs 31 (0, 0)) := (hB2.block A (by simp [World.drew, hA]; omega)).trans (show _ = _ from heap_alloc_of (heap_alloc_of (heap_alloc_at hA.symm)))
    have k1 : w2.heap[A + 1]? = some (.cells (⟨0, 0, 0, 0, 0, 0, Chg.zero, ByteArray.empty⟩ : Ent).cs 31 (0, 0)) := (hB2.block (A + 1) (by simp [World.drew, hA])).trans (show _ = _ from heap_alloc_of (heap_alloc_at (by simp [hA])))
    have k2 : w2.heap[A + 2]? = some (.cells (⟨lsn, 1, tx, ptx, ppage, 0, ⟨page, slot, ⟨bs, bd⟩, ⟨as_, ad⟩⟩, ByteArray.empty⟩ : Ent).cs 31 (0, 0)) := (hB2.block (A + 2) (by simp [World.drew, hA])).trans (show _ = _ from heap_alloc_at (by simp [hA]))
    have kB : Below A w w2 := (show Below A w _ from by rw [← hA]; exact (below3 w _ _ _).drew).trans (hB2.mono (by simp [World.drew, hA]; omega))
    obtain ⟨c0, c1, c2, c3, c4, c5⟩ := EntIn.of k0
    have K1 := Lib.hid k1; have KS := Lib.hid (show Sh A (⟨lsn, 1, tx, ptx, ppage, ref, ⟨page, slot, ⟨bs, bd⟩, ⟨as_, ad⟩⟩, blob⟩ : Ent) (⟨lsn, 1, tx, ptx, ppage, 0, ⟨page, slot, ⟨bs, bd⟩, ⟨as_, ad⟩⟩, ByteArray.empty⟩ : Ent) w w2.drew from ⟨k0, k2, kB.drew⟩)
    clear hB2 k0 k1 k2 kB
    go_wp2_with fail
    have hZ : w2.drew.heap[A + 1]? = _ := K1.out
    refine wp_region_held_drew (S := Sh A (⟨lsn, 1, tx, ptx, ppage, ref, ⟨page, slot, ⟨bs, bd⟩, ⟨as_, ad⟩⟩, blob⟩ : Ent) (⟨lsn, 1, tx, ptx, ppage, 0, ⟨page, slot, ⟨bs, bd⟩, ⟨as_, ad⟩⟩, ByteArray.empty⟩ : Ent) w) (by kernel_rfl) KS.out (fun hHeld => ?_)
    refine Held.takeL (i := 0) (v := .agg (⟨lsn, 1, tx, ptx, ppage, 0, ⟨page, slot, ⟨bs, bd⟩, ⟨as_, ad⟩⟩, ByteArray.empty⟩ : Ent).cs) rfl (by kernel_rfl) (by kernel_rfl) (by kernel_rfl) (fun _ _ _ h => h) ?_ (by assumption) ?_
    · exact yields_ent (by kernel_rfl) (.tmp 4) (by kernel_rfl) (A + 2) (by rfl) (⟨lsn, 1, tx, ptx, ppage, 0, ⟨page, slot, ⟨bs, bd⟩, ⟨as_, ad⟩⟩, ByteArray.empty⟩ : Ent) (fun w_ h => h.2.1)
    try simp only [Act.put, List.setIfInBounds_toArray, List.set_cons_zero, List.set_cons_succ]
    refine Held.takeL (i := 1) (v := ?_) rfl (by kernel_rfl) (by kernel_rfl) (by kernel_rfl) (fun _ _ _ h => h) (.inl ⟨by kernel_rfl, ?_⟩) (by assumption) ?_
    rotate_left
    · (intro w_ hSw; go_simp; first | done | with_reducible rfl)
    try simp only [Act.put, List.setIfInBounds_toArray, List.set_cons_zero, List.set_cons_succ]
    refine Held.takeL (i := 2) (v := ?_) rfl (by kernel_rfl) (by kernel_rfl) (by kernel_rfl) (fun _ _ _ h => h) (.inl ⟨by kernel_rfl, ?_⟩) (by assumption) ?_
    rotate_left
    · (intro w_ hSw; go_simp; first | done | with_reducible rfl)
    try simp only [Act.put, List.setIfInBounds_toArray, List.set_cons_zero, List.set_cons_succ]
    refine Held.takeL (i := 3) (v := ?_) rfl (by kernel_rfl) (by kernel_rfl) (by kernel_rfl) (fun _ _ _ h => h) (.inl ⟨by kernel_rfl, ?_⟩) (by assumption) ?_
    rotate_left
    · (intro w_ hSw; go_simp; first | done | with_reducible rfl)
    try simp only [Act.put, List.setIfInBounds_toArray, List.set_cons_zero, List.set_cons_succ]
    refine Held.takeL (i := 4) (v := ?_) rfl (by kernel_rfl) (by kernel_rfl) (by kernel_rfl) (fun _ _ _ h => h) (.inl ⟨by kernel_rfl, ?_⟩) (by assumption) ?_
    rotate_left
    · (intro w_ hSw; obtain ⟨c0, c1, c2, c3, c4, c5⟩ := EntIn.of hSw.1; go_simp; first | done | with_reducible rfl)
    try simp only [Act.put, List.setIfInBounds_toArray, List.set_cons_zero, List.set_cons_succ]
    refine Held.takeL (i := 5) (v := ?_) rfl (by kernel_rfl) (by kernel_rfl) (by kernel_rfl) (fun _ _ _ h => h) (.inl ⟨by kernel_rfl, ?_⟩) (by assumption) ?_
    rotate_left
    · (intro w_ hSw; go_simp; first | done | with_reducible rfl)
    try simp only [Act.put, List.setIfInBounds_toArray, List.set_cons_zero, List.set_cons_succ]
    refine Held.takeL (i := 6) (v := ?_) rfl (by kernel_rfl) (by kernel_rfl) (by kernel_rfl) (fun _ _ _ h => h) (.inl ⟨by kernel_rfl, ?_⟩) (by assumption) ?_
    rotate_left
    · (intro w_ hSw; go_simp; first | done | with_reducible rfl)
    try simp only [Act.put, List.setIfInBounds_toArray, List.set_cons_zero, List.set_cons_succ]
    refine Held.takeL (i := 7) (v := ?_) rfl (by kernel_rfl) (by kernel_rfl) (by kernel_rfl) (fun _ _ _ h => h) (.inl ⟨by kernel_rfl, ?_⟩) (by assumption) ?_
    rotate_left
    · (intro w_ hSw; go_simp; first | done | with_reducible rfl)
    try simp only [Act.put, List.setIfInBounds_toArray, List.set_cons_zero, List.set_cons_succ]
    refine Held.takeL (i := 8) (v := undef) rfl (by kernel_rfl) (by kernel_rfl) (by kernel_rfl) (fun _ _ _ h => h) (.inr ⟨by kernel_rfl, rfl⟩) (by assumption) ?_
    try simp only [Act.put, List.setIfInBounds_toArray, List.set_cons_zero, List.set_cons_succ]
    refine Held.takeL (i := 9) (v := undef) rfl (by kernel_rfl) (by kernel_rfl) (by kernel_rfl) (fun _ _ _ h => h) (.inr ⟨by kernel_rfl, rfl⟩) (by assumption) ?_
    try simp only [Act.put, List.setIfInBounds_toArray, List.set_cons_zero, List.set_cons_succ]
    refine Held.takeL (i := 10) (v := undef) rfl (by kernel_rfl) (by kernel_rfl) (by kernel_rfl) (fun _ _ _ h => h) (.inr ⟨by kernel_rfl, rfl⟩) (by assumption) ?_
    try simp only [Act.put, List.setIfInBounds_toArray, List.set_cons_zero, List.set_cons_succ]
    refine Held.takeL (i := 11) (v := ?_) rfl (by kernel_rfl) (by kernel_rfl) (by kernel_rfl) (fun _ _ _ h => h) (.inl ⟨by kernel_rfl, ?_⟩) (by assumption) ?_
    rotate_left
    · (intro w_ hSw; go_simp; first | done | with_reducible rfl)
    try simp only [Act.put, List.setIfInBounds_toArray, List.set_cons_zero, List.set_cons_succ]
    refine wpAnyH_ready (rs := [12]) (by kernel_rfl) (by simp) ?_
    refine Held.consL rfl (fun K hK => ?_) AllReadyH.nil
    rw [if_pos (by kernel_rfl)]
    refine wp_store_ent (.tmp 2) (.tmp 55) (by rfl) (A + 1) (⟨lsn, 1, tx, ptx, ppage, 0, ⟨page, slot, ⟨bs, bd⟩, ⟨as_, ad⟩⟩, ByteArray.empty⟩ : Ent) _ (by rfl) (by rfl) hZ ?_
    intro w9 hZ9 ho9 hk9
    have hS9 : Sh A (⟨lsn, 1, tx, ptx, ppage, ref, ⟨page, slot, ⟨bs, bd⟩, ⟨as_, ad⟩⟩, blob⟩ : Ent) (⟨lsn, 1, tx, ptx, ppage, 0, ⟨page, slot, ⟨bs, bd⟩, ⟨as_, ad⟩⟩, ByteArray.empty⟩ : Ent) w w9 := ⟨(ho9 A (by omega)).trans hHeld.1, (ho9 (A + 2) (by omega)).trans hHeld.2.1, hk9 _ _ (by omega) hHeld.2.2⟩
    refine hK.out _ _ hS9 (fun hHeld => ?_)
    clear hK K
    try simp only [Act.put, List.setIfInBounds_toArray, List.set_cons_zero, List.set_cons_succ]
    refine Held.takeL (i := 13) (v := ?_) rfl (by kernel_rfl) (by kernel_rfl) (by kernel_rfl) (fun _ _ _ h => h) (.inl ⟨by kernel_rfl, ?_⟩) (by assumption) ?_
    rotate_left
    · (intro w_ hSw; go_simp; first | done | with_reducible rfl)
    try simp only [Act.put, List.setIfInBounds_toArray, List.set_cons_zero, List.set_cons_succ]
    refine wpAnyH_done (by kernel_rfl) ?_ _
    go_wp2_with fail
    exact end31 (e := (⟨lsn, 1, tx, ptx, ppage, 0, ⟨page, slot, ⟨bs, bd⟩, ⟨as_, ad⟩⟩, ByteArray.empty⟩ : Ent)) rfl rfl hZ9 rfl rfl ⟨by first | rfl | simp, by rw [HA.out]; exact hS9.2.2⟩
  · go_enter Try.func90, Try.ntmps90
    go_wp2_with fail
    go_region
    go_wp2_with fail
    refine (H7.out _).mono ?_
    rintro r_ w2 ⟨rfl, hB2⟩
    have k0 : w2.heap[A]? = some (.cells (⟨lsn, 1, tx, ptx, ppage, ref, ⟨page, slot, ⟨bs, bd⟩, ⟨as_, ad⟩⟩, blob⟩ : Ent).cs 31 (0, 0)) := (hB2.block A (by simp [World.drew, hA]; omega)).trans (show _ = _ from heap_alloc_of (heap_alloc_of (heap_alloc_at hA.symm)))
    have k1 : w2.heap[A + 1]? = some (.cells (⟨0, 0, 0, 0, 0, 0, Chg.zero, ByteArray.empty⟩ : Ent).cs 31 (0, 0)) := (hB2.block (A + 1) (by simp [World.drew, hA])).trans (show _ = _ from heap_alloc_of (heap_alloc_at (by simp [hA])))
    have k2 : w2.heap[A + 2]? = some (.cells (⟨lsn, 1, tx, ptx, ppage, 0, ⟨page, slot, ⟨bs, bd⟩, ⟨as_, ad⟩⟩, ByteArray.empty⟩ : Ent).cs 31 (0, 0)) := (hB2.block (A + 2) (by simp [World.drew, hA])).trans (show _ = _ from heap_alloc_at (by simp [hA]))
    have kB : Below A w w2 := (show Below A w _ from by rw [← hA]; exact (below3 w _ _ _).drew).trans (hB2.mono (by simp [World.drew, hA]; omega))
    obtain ⟨c0, c1, c2, c3, c4, c5⟩ := EntIn.of k0
    have K1 := Lib.hid k1; have KS := Lib.hid (show Sh A (⟨lsn, 1, tx, ptx, ppage, ref, ⟨page, slot, ⟨bs, bd⟩, ⟨as_, ad⟩⟩, blob⟩ : Ent) (⟨lsn, 1, tx, ptx, ppage, 0, ⟨page, slot, ⟨bs, bd⟩, ⟨as_, ad⟩⟩, ByteArray.empty⟩ : Ent) w w2.drew from ⟨k0, k2, kB.drew⟩)
    clear hB2 k0 k1 k2 kB
    go_wp2_with fail
    have hZ : w2.drew.heap[A + 1]? = _ := K1.out
    refine wp_region_held_drew (S := Sh A (⟨lsn, 1, tx, ptx, ppage, ref, ⟨page, slot, ⟨bs, bd⟩, ⟨as_, ad⟩⟩, blob⟩ : Ent) (⟨lsn, 1, tx, ptx, ppage, 0, ⟨page, slot, ⟨bs, bd⟩, ⟨as_, ad⟩⟩, ByteArray.empty⟩ : Ent) w) (by kernel_rfl) KS.out (fun hHeld => ?_)
    refine Held.takeL (i := 0) (v := .agg (⟨lsn, 1, tx, ptx, ppage, 0, ⟨page, slot, ⟨bs, bd⟩, ⟨as_, ad⟩⟩, ByteArray.empty⟩ : Ent).cs) rfl (by kernel_rfl) (by kernel_rfl) (by kernel_rfl) (fun _ _ _ h => h) ?_ (by assumption) ?_
    · exact yields_ent (by kernel_rfl) (.tmp 4) (by kernel_rfl) (A + 2) (by rfl) (⟨lsn, 1, tx, ptx, ppage, 0, ⟨page, slot, ⟨bs, bd⟩, ⟨as_, ad⟩⟩, ByteArray.empty⟩ : Ent) (fun w_ h => h.2.1)
    try simp only [Act.put, List.setIfInBounds_toArray, List.set_cons_zero, List.set_cons_succ]
    refine Held.takeL (i := 1) (v := ?_) rfl (by kernel_rfl) (by kernel_rfl) (by kernel_rfl) (fun _ _ _ h => h) (.inl ⟨by kernel_rfl, ?_⟩) (by assumption) ?_
    rotate_left
    · (intro w_ hSw; go_simp; first | done | with_reducible rfl)
    try simp only [Act.put, List.setIfInBounds_toArray, List.set_cons_zero, List.set_cons_succ]
    refine Held.takeL (i := 2) (v := ?_) rfl (by kernel_rfl) (by kernel_rfl) (by kernel_rfl) (fun _ _ _ h => h) (.inl ⟨by kernel_rfl, ?_⟩) (by assumption) ?_
    rotate_left
    · (intro w_ hSw; go_simp; first | done | with_reducible rfl)
    try simp only [Act.put, List.setIfInBounds_toArray, List.set_cons_zero, List.set_cons_succ]
    refine Held.takeL (i := 3) (v := ?_) rfl (by kernel_rfl) (by kernel_rfl) (by kernel_rfl) (fun _ _ _ h => h) (.inl ⟨by kernel_rfl, ?_⟩) (by assumption) ?_
    rotate_left
    · (intro w_ hSw; go_simp; first | done | with_reducible rfl)
    try simp only [Act.put, List.setIfInBounds_toArray, List.set_cons_zero, List.set_cons_succ]
    refine Held.takeL (i := 4) (v := ?_) rfl (by kernel_rfl) (by kernel_rfl) (by kernel_rfl) (fun _ _ _ h => h) (.inl ⟨by kernel_rfl, ?_⟩) (by assumption) ?_
    rotate_left
    · (intro w_ hSw; obtain ⟨c0, c1, c2, c3, c4, c5⟩ := EntIn.of hSw.1; go_simp; first | done | with_reducible rfl)
    try simp only [Act.put, List.setIfInBounds_toArray, List.set_cons_zero, List.set_cons_succ]
    refine Held.takeL (i := 5) (v := ?_) rfl (by kernel_rfl) (by kernel_rfl) (by kernel_rfl) (fun _ _ _ h => h) (.inl ⟨by kernel_rfl, ?_⟩) (by assumption) ?_
    rotate_left
    · (intro w_ hSw; go_simp; first | done | with_reducible rfl)
    try simp only [Act.put, List.setIfInBounds_toArray, List.set_cons_zero, List.set_cons_succ]
    refine Held.takeL (i := 6) (v := ?_) rfl (by kernel_rfl) (by kernel_rfl) (by kernel_rfl) (fun _ _ _ h => h) (.inl ⟨by kernel_rfl, ?_⟩) (by assumption) ?_
    rotate_left
    · (intro w_ hSw; go_simp; first | done | with_reducible rfl)
    try simp only [Act.put, List.setIfInBounds_toArray, List.set_cons_zero, List.set_cons_succ]
    refine Held.takeL (i := 7) (v := ?_) rfl (by kernel_rfl) (by kernel_rfl) (by kernel_rfl) (fun _ _ _ h => h) (.inl ⟨by kernel_rfl, ?_⟩) (by assumption) ?_
    rotate_left
    · (intro w_ hSw; go_simp; first | done | with_reducible rfl)
    try simp only [Act.put, List.setIfInBounds_toArray, List.set_cons_zero, List.set_cons_succ]
    refine Held.takeL (i := 8) (v := ?_) rfl (by kernel_rfl) (by kernel_rfl) (by kernel_rfl) (fun _ _ _ h => h) (.inl ⟨by kernel_rfl, ?_⟩) (by assumption) ?_
    rotate_left
    · (intro w_ hSw; go_simp; first | done | with_reducible rfl)
    try simp only [Act.put, List.setIfInBounds_toArray, List.set_cons_zero, List.set_cons_succ]
    refine Held.takeL (i := 9) (v := ?_) rfl (by kernel_rfl) (by kernel_rfl) (by kernel_rfl) (fun _ _ _ h => h) (.inl ⟨by kernel_rfl, ?_⟩) (by assumption) ?_
    rotate_left
    · (intro w_ hSw; obtain ⟨c0, c1, c2, c3, c4, c5⟩ := EntIn.of hSw.1; go_simp; first | done | with_reducible rfl)
    try simp only [Act.put, List.setIfInBounds_toArray, List.set_cons_zero, List.set_cons_succ]
    refine Held.takeL (i := 10) (v := ?_) rfl (by kernel_rfl) (by kernel_rfl) (by kernel_rfl) (fun _ _ _ h => h) (.inl ⟨by kernel_rfl, ?_⟩) (by assumption) ?_
    rotate_left
    · (intro w_ hSw; go_simp; first | done | with_reducible rfl)
    try simp only [Act.put, List.setIfInBounds_toArray, List.set_cons_zero, List.set_cons_succ]
    refine Held.takeL (i := 11) (v := ?_) rfl (by kernel_rfl) (by kernel_rfl) (by kernel_rfl) (fun _ _ _ h => h) (.inl ⟨by kernel_rfl, ?_⟩) (by assumption) ?_
    rotate_left
    · (intro w_ hSw; go_simp; first | done | with_reducible rfl)
    try simp only [Act.put, List.setIfInBounds_toArray, List.set_cons_zero, List.set_cons_succ]
    refine wpAnyH_ready (rs := [12]) (by kernel_rfl) (by simp) ?_
    refine Held.consL rfl (fun K hK => ?_) AllReadyH.nil
    rw [if_pos (by kernel_rfl)]
    refine wp_store_ent (.tmp 2) (.tmp 55) (by rfl) (A + 1) (⟨lsn, 1, tx, ptx, ppage, 0, ⟨page, slot, ⟨bs, bd⟩, ⟨as_, ad⟩⟩, ByteArray.empty⟩ : Ent) _ (by rfl) (by rfl) hZ ?_
    intro w9 hZ9 ho9 hk9
    have hS9 : Sh A (⟨lsn, 1, tx, ptx, ppage, ref, ⟨page, slot, ⟨bs, bd⟩, ⟨as_, ad⟩⟩, blob⟩ : Ent) (⟨lsn, 1, tx, ptx, ppage, 0, ⟨page, slot, ⟨bs, bd⟩, ⟨as_, ad⟩⟩, ByteArray.empty⟩ : Ent) w w9 := ⟨(ho9 A (by omega)).trans hHeld.1, (ho9 (A + 2) (by omega)).trans hHeld.2.1, hk9 _ _ (by omega) hHeld.2.2⟩
    refine hK.out _ _ hS9 (fun hHeld => ?_)
    clear hK K
    try simp only [Act.put, List.setIfInBounds_toArray, List.set_cons_zero, List.set_cons_succ]
    refine Held.takeL (i := 13) (v := ?_) rfl (by kernel_rfl) (by kernel_rfl) (by kernel_rfl) (fun _ _ _ h => h) (.inl ⟨by kernel_rfl, ?_⟩) (by assumption) ?_
    rotate_left
    · (intro w_ hSw; go_simp; first | done | with_reducible rfl)
    try simp only [Act.put, List.setIfInBounds_toArray, List.set_cons_zero, List.set_cons_succ]
    refine wpAnyH_done (by kernel_rfl) ?_ _
    go_wp2_with fail
    exact end31 (e := (⟨lsn, 1, tx, ptx, ppage, 0, ⟨page, slot, ⟨bs, bd⟩, ⟨as_, ad⟩⟩, ByteArray.empty⟩ : Ent)) rfl rfl hZ9 rfl rfl ⟨by first | rfl | simp, by rw [HA.out]; exact hS9.2.2⟩
set_option maxHeartbeats 8000000 in
set_option maxRecDepth 100000 in
theorem shape2_calls (e : Ent) (w : World) (hk : e.kind = 2) : Calls Try.prog 90 #[.agg e.cs] w (ShapeAns ⟨e.lsn, e.kind, e.tx, e.ptx, e.ppage, e.ref, e.chg, ByteArray.empty⟩ ((chgOk e.chg && decide (0 < e.ptx) && decide (1 ≤ e.ref) && decide (e.ref ≤ e.ptx)) && txOk e) w) := by
  obtain ⟨lsn, kind, tx, ptx, ppage, ref, ⟨page, slot, ⟨bs, bd⟩, ⟨as_, ad⟩⟩, blob⟩ := e
  simp only at hk
  subst hk
  unfold txOk
  dsimp only
  have H7 := Lib.hid (fun W => chgValid03_calls ⟨page, slot, ⟨bs, bd⟩, ⟨as_, ad⟩⟩ W)
  obtain ⟨b, hb⟩ : ∃ b, chgOk ⟨page, slot, ⟨bs, bd⟩, ⟨as_, ad⟩⟩ = b := ⟨_, rfl⟩
  rw [hb] at H7 ⊢
  clear hb
  obtain ⟨A, hA⟩ : ∃ A, w.heap.size = A := ⟨_, rfl⟩
  have HA := Lib.hid hA
  cases b
  · go_enter Try.func90, Try.ntmps90
    go_wp2_with fail
    go_region
    go_wp2_with fail
    refine (H7.out _).mono ?_
    rintro r_ w2 ⟨rfl, hB2⟩
    have k0 : w2.heap[A]? = some (.cells (⟨lsn, 2, tx, ptx, ppage, ref, ⟨page, slot, ⟨bs, bd⟩, ⟨as_, ad⟩⟩, blob⟩ : Ent).cs 31 (0, 0)) := (hB2.block A (by simp [World.drew, hA]; omega)).trans (show _ = _ from heap_alloc_of (heap_alloc_of (heap_alloc_at hA.symm)))
    have k1 : w2.heap[A + 1]? = some (.cells (⟨0, 0, 0, 0, 0, 0, Chg.zero, ByteArray.empty⟩ : Ent).cs 31 (0, 0)) := (hB2.block (A + 1) (by simp [World.drew, hA])).trans (show _ = _ from heap_alloc_of (heap_alloc_at (by simp [hA])))
    have k2 : w2.heap[A + 2]? = some (.cells (⟨lsn, 2, tx, ptx, ppage, 0, ⟨page, slot, ⟨bs, bd⟩, ⟨as_, ad⟩⟩, ByteArray.empty⟩ : Ent).cs 31 (0, 0)) := (hB2.block (A + 2) (by simp [World.drew, hA])).trans (show _ = _ from heap_alloc_at (by simp [hA]))
    have kB : Below A w w2 := (show Below A w _ from by rw [← hA]; exact (below3 w _ _ _).drew).trans (hB2.mono (by simp [World.drew, hA]; omega))
    obtain ⟨c0, c1, c2, c3, c4, c5⟩ := EntIn.of k0
    have cT : w2.cell? ⟨A + 2, 5, none⟩ = some (.int .i64 0) := by rw [heap_cell k2]; rfl
    have fT : w2.frozen? ⟨A + 2, 5, none⟩ = false := heap_free k2 5
    have m0 : (w2.setCell ⟨A + 2, 5, none⟩ (.int .i64 ref)).heap[A]? = some (.cells (⟨lsn, 2, tx, ptx, ppage, ref, ⟨page, slot, ⟨bs, bd⟩, ⟨as_, ad⟩⟩, blob⟩ : Ent).cs 31 (0, 0)) := (heap_setCell_other _ _ _ _ (by simp)).trans k0
    have m1 : (w2.setCell ⟨A + 2, 5, none⟩ (.int .i64 ref)).heap[A + 1]? = some (.cells (⟨0, 0, 0, 0, 0, 0, Chg.zero, ByteArray.empty⟩ : Ent).cs 31 (0, 0)) := (heap_setCell_other _ _ _ _ (by simp)).trans k1
    have m2 : (w2.setCell ⟨A + 2, 5, none⟩ (.int .i64 ref)).heap[A + 2]? = some (.cells (⟨lsn, 2, tx, ptx, ppage, ref, ⟨page, slot, ⟨bs, bd⟩, ⟨as_, ad⟩⟩, ByteArray.empty⟩ : Ent).cs 31 (0, 0)) := (heap_setCell_same _ _ _ _ _ _ k2).trans rfl
    have mB : Below A w (w2.setCell ⟨A + 2, 5, none⟩ (.int .i64 ref)) := kB.setCell (p := ⟨A + 2, 5, none⟩) (by simp) _
    obtain ⟨w3, hw3⟩ : ∃ w3, w2.setCell ⟨A + 2, 5, none⟩ (.int .i64 ref) = w3 := ⟨_, rfl⟩
    rw [hw3] at m0 m1 m2 mB
    obtain ⟨d0, d1, d2, d3, d4, d5⟩ := EntIn.of m0
    have K1 := Lib.hid m1; have KS := Lib.hid (show Sh A (⟨lsn, 2, tx, ptx, ppage, ref, ⟨page, slot, ⟨bs, bd⟩, ⟨as_, ad⟩⟩, blob⟩ : Ent) (⟨lsn, 2, tx, ptx, ppage, ref, ⟨page, slot, ⟨bs, bd⟩, ⟨as_, ad⟩⟩, ByteArray.empty⟩ : Ent) w w3.drew from ⟨m0, m2, mB.drew⟩)
    clear hB2 k0 k1 k2 kB m0 m1 m2 mB
    go_wp2_with fail
    have hZ : w3.drew.heap[A + 1]? = _ := K1.out
    refine wp_region_held_drew (S := Sh A (⟨lsn, 2, tx, ptx, ppage, ref, ⟨page, slot, ⟨bs, bd⟩, ⟨as_, ad⟩⟩, blob⟩ : Ent) (⟨lsn, 2, tx, ptx, ppage, ref, ⟨page, slot, ⟨bs, bd⟩, ⟨as_, ad⟩⟩, ByteArray.empty⟩ : Ent) w) (by kernel_rfl) KS.out (fun hHeld => ?_)
    refine Held.takeL (i := 0) (v := .agg (⟨lsn, 2, tx, ptx, ppage, ref, ⟨page, slot, ⟨bs, bd⟩, ⟨as_, ad⟩⟩, ByteArray.empty⟩ : Ent).cs) rfl (by kernel_rfl) (by kernel_rfl) (by kernel_rfl) (fun _ _ _ h => h) ?_ (by assumption) ?_
    · exact yields_ent (by kernel_rfl) (.tmp 4) (by kernel_rfl) (A + 2) (by rfl) (⟨lsn, 2, tx, ptx, ppage, ref, ⟨page, slot, ⟨bs, bd⟩, ⟨as_, ad⟩⟩, ByteArray.empty⟩ : Ent) (fun w_ h => h.2.1)
    try simp only [Act.put, List.setIfInBounds_toArray, List.set_cons_zero, List.set_cons_succ]
    refine Held.takeL (i := 1) (v := ?_) rfl (by kernel_rfl) (by kernel_rfl) (by kernel_rfl) (fun _ _ _ h => h) (.inl ⟨by kernel_rfl, ?_⟩) (by assumption) ?_
    rotate_left
    · (intro w_ hSw; go_simp; first | done | with_reducible rfl)
    try simp only [Act.put, List.setIfInBounds_toArray, List.set_cons_zero, List.set_cons_succ]
    refine Held.takeL (i := 2) (v := ?_) rfl (by kernel_rfl) (by kernel_rfl) (by kernel_rfl) (fun _ _ _ h => h) (.inl ⟨by kernel_rfl, ?_⟩) (by assumption) ?_
    rotate_left
    · (intro w_ hSw; go_simp; first | done | with_reducible rfl)
    try simp only [Act.put, List.setIfInBounds_toArray, List.set_cons_zero, List.set_cons_succ]
    refine Held.takeL (i := 3) (v := undef) rfl (by kernel_rfl) (by kernel_rfl) (by kernel_rfl) (fun _ _ _ h => h) (.inr ⟨by kernel_rfl, rfl⟩) (by assumption) ?_
    try simp only [Act.put, List.setIfInBounds_toArray, List.set_cons_zero, List.set_cons_succ]
    refine Held.takeL (i := 4) (v := undef) rfl (by kernel_rfl) (by kernel_rfl) (by kernel_rfl) (fun _ _ _ h => h) (.inr ⟨by kernel_rfl, rfl⟩) (by assumption) ?_
    try simp only [Act.put, List.setIfInBounds_toArray, List.set_cons_zero, List.set_cons_succ]
    refine Held.takeL (i := 5) (v := undef) rfl (by kernel_rfl) (by kernel_rfl) (by kernel_rfl) (fun _ _ _ h => h) (.inr ⟨by kernel_rfl, rfl⟩) (by assumption) ?_
    try simp only [Act.put, List.setIfInBounds_toArray, List.set_cons_zero, List.set_cons_succ]
    refine Held.takeL (i := 6) (v := ?_) rfl (by kernel_rfl) (by kernel_rfl) (by kernel_rfl) (fun _ _ _ h => h) (.inl ⟨by kernel_rfl, ?_⟩) (by assumption) ?_
    rotate_left
    · (intro w_ hSw; go_simp; first | done | with_reducible rfl)
    try simp only [Act.put, List.setIfInBounds_toArray, List.set_cons_zero, List.set_cons_succ]
    refine Held.takeL (i := 7) (v := ?_) rfl (by kernel_rfl) (by kernel_rfl) (by kernel_rfl) (fun _ _ _ h => h) (.inl ⟨by kernel_rfl, ?_⟩) (by assumption) ?_
    rotate_left
    · (intro w_ hSw; go_simp; first | done | with_reducible rfl)
    try simp only [Act.put, List.setIfInBounds_toArray, List.set_cons_zero, List.set_cons_succ]
    refine Held.takeL (i := 8) (v := undef) rfl (by kernel_rfl) (by kernel_rfl) (by kernel_rfl) (fun _ _ _ h => h) (.inr ⟨by kernel_rfl, rfl⟩) (by assumption) ?_
    try simp only [Act.put, List.setIfInBounds_toArray, List.set_cons_zero, List.set_cons_succ]
    refine Held.takeL (i := 9) (v := undef) rfl (by kernel_rfl) (by kernel_rfl) (by kernel_rfl) (fun _ _ _ h => h) (.inr ⟨by kernel_rfl, rfl⟩) (by assumption) ?_
    try simp only [Act.put, List.setIfInBounds_toArray, List.set_cons_zero, List.set_cons_succ]
    refine Held.takeL (i := 10) (v := undef) rfl (by kernel_rfl) (by kernel_rfl) (by kernel_rfl) (fun _ _ _ h => h) (.inr ⟨by kernel_rfl, rfl⟩) (by assumption) ?_
    try simp only [Act.put, List.setIfInBounds_toArray, List.set_cons_zero, List.set_cons_succ]
    refine Held.takeL (i := 11) (v := ?_) rfl (by kernel_rfl) (by kernel_rfl) (by kernel_rfl) (fun _ _ _ h => h) (.inl ⟨by kernel_rfl, ?_⟩) (by assumption) ?_
    rotate_left
    · (intro w_ hSw; go_simp; first | done | with_reducible rfl)
    try simp only [Act.put, List.setIfInBounds_toArray, List.set_cons_zero, List.set_cons_succ]
    refine wpAnyH_ready (rs := [12]) (by kernel_rfl) (by simp) ?_
    refine Held.consL rfl (fun K hK => ?_) AllReadyH.nil
    rw [if_pos (by kernel_rfl)]
    refine wp_store_ent (.tmp 2) (.tmp 55) (by rfl) (A + 1) (⟨lsn, 2, tx, ptx, ppage, ref, ⟨page, slot, ⟨bs, bd⟩, ⟨as_, ad⟩⟩, ByteArray.empty⟩ : Ent) _ (by rfl) (by rfl) hZ ?_
    intro w9 hZ9 ho9 hk9
    have hS9 : Sh A (⟨lsn, 2, tx, ptx, ppage, ref, ⟨page, slot, ⟨bs, bd⟩, ⟨as_, ad⟩⟩, blob⟩ : Ent) (⟨lsn, 2, tx, ptx, ppage, ref, ⟨page, slot, ⟨bs, bd⟩, ⟨as_, ad⟩⟩, ByteArray.empty⟩ : Ent) w w9 := ⟨(ho9 A (by omega)).trans hHeld.1, (ho9 (A + 2) (by omega)).trans hHeld.2.1, hk9 _ _ (by omega) hHeld.2.2⟩
    refine hK.out _ _ hS9 (fun hHeld => ?_)
    clear hK K
    try simp only [Act.put, List.setIfInBounds_toArray, List.set_cons_zero, List.set_cons_succ]
    refine Held.takeL (i := 13) (v := ?_) rfl (by kernel_rfl) (by kernel_rfl) (by kernel_rfl) (fun _ _ _ h => h) (.inl ⟨by kernel_rfl, ?_⟩) (by assumption) ?_
    rotate_left
    · (intro w_ hSw; go_simp; first | done | with_reducible rfl)
    try simp only [Act.put, List.setIfInBounds_toArray, List.set_cons_zero, List.set_cons_succ]
    refine wpAnyH_done (by kernel_rfl) ?_ _
    go_wp2_with fail
    exact end31 (e := (⟨lsn, 2, tx, ptx, ppage, ref, ⟨page, slot, ⟨bs, bd⟩, ⟨as_, ad⟩⟩, ByteArray.empty⟩ : Ent)) rfl rfl hZ9 rfl rfl ⟨by first | rfl | simp, by rw [HA.out]; exact hS9.2.2⟩
  cases g1 : decide (0 < ptx)
  · go_enter Try.func90, Try.ntmps90
    go_wp2_with fail
    go_region
    go_wp2_with fail
    refine (H7.out _).mono ?_
    rintro r_ w2 ⟨rfl, hB2⟩
    have k0 : w2.heap[A]? = some (.cells (⟨lsn, 2, tx, ptx, ppage, ref, ⟨page, slot, ⟨bs, bd⟩, ⟨as_, ad⟩⟩, blob⟩ : Ent).cs 31 (0, 0)) := (hB2.block A (by simp [World.drew, hA]; omega)).trans (show _ = _ from heap_alloc_of (heap_alloc_of (heap_alloc_at hA.symm)))
    have k1 : w2.heap[A + 1]? = some (.cells (⟨0, 0, 0, 0, 0, 0, Chg.zero, ByteArray.empty⟩ : Ent).cs 31 (0, 0)) := (hB2.block (A + 1) (by simp [World.drew, hA])).trans (show _ = _ from heap_alloc_of (heap_alloc_at (by simp [hA])))
    have k2 : w2.heap[A + 2]? = some (.cells (⟨lsn, 2, tx, ptx, ppage, 0, ⟨page, slot, ⟨bs, bd⟩, ⟨as_, ad⟩⟩, ByteArray.empty⟩ : Ent).cs 31 (0, 0)) := (hB2.block (A + 2) (by simp [World.drew, hA])).trans (show _ = _ from heap_alloc_at (by simp [hA]))
    have kB : Below A w w2 := (show Below A w _ from by rw [← hA]; exact (below3 w _ _ _).drew).trans (hB2.mono (by simp [World.drew, hA]; omega))
    obtain ⟨c0, c1, c2, c3, c4, c5⟩ := EntIn.of k0
    have cT : w2.cell? ⟨A + 2, 5, none⟩ = some (.int .i64 0) := by rw [heap_cell k2]; rfl
    have fT : w2.frozen? ⟨A + 2, 5, none⟩ = false := heap_free k2 5
    have m0 : (w2.setCell ⟨A + 2, 5, none⟩ (.int .i64 ref)).heap[A]? = some (.cells (⟨lsn, 2, tx, ptx, ppage, ref, ⟨page, slot, ⟨bs, bd⟩, ⟨as_, ad⟩⟩, blob⟩ : Ent).cs 31 (0, 0)) := (heap_setCell_other _ _ _ _ (by simp)).trans k0
    have m1 : (w2.setCell ⟨A + 2, 5, none⟩ (.int .i64 ref)).heap[A + 1]? = some (.cells (⟨0, 0, 0, 0, 0, 0, Chg.zero, ByteArray.empty⟩ : Ent).cs 31 (0, 0)) := (heap_setCell_other _ _ _ _ (by simp)).trans k1
    have m2 : (w2.setCell ⟨A + 2, 5, none⟩ (.int .i64 ref)).heap[A + 2]? = some (.cells (⟨lsn, 2, tx, ptx, ppage, ref, ⟨page, slot, ⟨bs, bd⟩, ⟨as_, ad⟩⟩, ByteArray.empty⟩ : Ent).cs 31 (0, 0)) := (heap_setCell_same _ _ _ _ _ _ k2).trans rfl
    have mB : Below A w (w2.setCell ⟨A + 2, 5, none⟩ (.int .i64 ref)) := kB.setCell (p := ⟨A + 2, 5, none⟩) (by simp) _
    obtain ⟨w3, hw3⟩ : ∃ w3, w2.setCell ⟨A + 2, 5, none⟩ (.int .i64 ref) = w3 := ⟨_, rfl⟩
    rw [hw3] at m0 m1 m2 mB
    obtain ⟨d0, d1, d2, d3, d4, d5⟩ := EntIn.of m0
    have K1 := Lib.hid m1; have KS := Lib.hid (show Sh A (⟨lsn, 2, tx, ptx, ppage, ref, ⟨page, slot, ⟨bs, bd⟩, ⟨as_, ad⟩⟩, blob⟩ : Ent) (⟨lsn, 2, tx, ptx, ppage, ref, ⟨page, slot, ⟨bs, bd⟩, ⟨as_, ad⟩⟩, ByteArray.empty⟩ : Ent) w w3.drew from ⟨m0, m2, mB.drew⟩)
    clear hB2 k0 k1 k2 kB m0 m1 m2 mB
    go_wp2_with fail
    have hZ : w3.drew.heap[A + 1]? = _ := K1.out
    refine wp_region_held_drew (S := Sh A (⟨lsn, 2, tx, ptx, ppage, ref, ⟨page, slot, ⟨bs, bd⟩, ⟨as_, ad⟩⟩, blob⟩ : Ent) (⟨lsn, 2, tx, ptx, ppage, ref, ⟨page, slot, ⟨bs, bd⟩, ⟨as_, ad⟩⟩, ByteArray.empty⟩ : Ent) w) (by kernel_rfl) KS.out (fun hHeld => ?_)
    refine Held.takeL (i := 0) (v := .agg (⟨lsn, 2, tx, ptx, ppage, ref, ⟨page, slot, ⟨bs, bd⟩, ⟨as_, ad⟩⟩, ByteArray.empty⟩ : Ent).cs) rfl (by kernel_rfl) (by kernel_rfl) (by kernel_rfl) (fun _ _ _ h => h) ?_ (by assumption) ?_
    · exact yields_ent (by kernel_rfl) (.tmp 4) (by kernel_rfl) (A + 2) (by rfl) (⟨lsn, 2, tx, ptx, ppage, ref, ⟨page, slot, ⟨bs, bd⟩, ⟨as_, ad⟩⟩, ByteArray.empty⟩ : Ent) (fun w_ h => h.2.1)
    try simp only [Act.put, List.setIfInBounds_toArray, List.set_cons_zero, List.set_cons_succ]
    refine Held.takeL (i := 1) (v := ?_) rfl (by kernel_rfl) (by kernel_rfl) (by kernel_rfl) (fun _ _ _ h => h) (.inl ⟨by kernel_rfl, ?_⟩) (by assumption) ?_
    rotate_left
    · (intro w_ hSw; go_simp; first | done | with_reducible rfl)
    try simp only [Act.put, List.setIfInBounds_toArray, List.set_cons_zero, List.set_cons_succ]
    refine Held.takeL (i := 2) (v := ?_) rfl (by kernel_rfl) (by kernel_rfl) (by kernel_rfl) (fun _ _ _ h => h) (.inl ⟨by kernel_rfl, ?_⟩) (by assumption) ?_
    rotate_left
    · (intro w_ hSw; go_simp; first | done | with_reducible rfl)
    try simp only [Act.put, List.setIfInBounds_toArray, List.set_cons_zero, List.set_cons_succ]
    refine Held.takeL (i := 3) (v := undef) rfl (by kernel_rfl) (by kernel_rfl) (by kernel_rfl) (fun _ _ _ h => h) (.inr ⟨by kernel_rfl, rfl⟩) (by assumption) ?_
    try simp only [Act.put, List.setIfInBounds_toArray, List.set_cons_zero, List.set_cons_succ]
    refine Held.takeL (i := 4) (v := undef) rfl (by kernel_rfl) (by kernel_rfl) (by kernel_rfl) (fun _ _ _ h => h) (.inr ⟨by kernel_rfl, rfl⟩) (by assumption) ?_
    try simp only [Act.put, List.setIfInBounds_toArray, List.set_cons_zero, List.set_cons_succ]
    refine Held.takeL (i := 5) (v := undef) rfl (by kernel_rfl) (by kernel_rfl) (by kernel_rfl) (fun _ _ _ h => h) (.inr ⟨by kernel_rfl, rfl⟩) (by assumption) ?_
    try simp only [Act.put, List.setIfInBounds_toArray, List.set_cons_zero, List.set_cons_succ]
    refine Held.takeL (i := 6) (v := ?_) rfl (by kernel_rfl) (by kernel_rfl) (by kernel_rfl) (fun _ _ _ h => h) (.inl ⟨by kernel_rfl, ?_⟩) (by assumption) ?_
    rotate_left
    · (intro w_ hSw; go_simp; first | done | with_reducible rfl)
    try simp only [Act.put, List.setIfInBounds_toArray, List.set_cons_zero, List.set_cons_succ]
    refine Held.takeL (i := 7) (v := ?_) rfl (by kernel_rfl) (by kernel_rfl) (by kernel_rfl) (fun _ _ _ h => h) (.inl ⟨by kernel_rfl, ?_⟩) (by assumption) ?_
    rotate_left
    · (intro w_ hSw; go_simp; first | done | with_reducible rfl)
    try simp only [Act.put, List.setIfInBounds_toArray, List.set_cons_zero, List.set_cons_succ]
    refine Held.takeL (i := 8) (v := undef) rfl (by kernel_rfl) (by kernel_rfl) (by kernel_rfl) (fun _ _ _ h => h) (.inr ⟨by kernel_rfl, rfl⟩) (by assumption) ?_
    try simp only [Act.put, List.setIfInBounds_toArray, List.set_cons_zero, List.set_cons_succ]
    refine Held.takeL (i := 9) (v := undef) rfl (by kernel_rfl) (by kernel_rfl) (by kernel_rfl) (fun _ _ _ h => h) (.inr ⟨by kernel_rfl, rfl⟩) (by assumption) ?_
    try simp only [Act.put, List.setIfInBounds_toArray, List.set_cons_zero, List.set_cons_succ]
    refine Held.takeL (i := 10) (v := undef) rfl (by kernel_rfl) (by kernel_rfl) (by kernel_rfl) (fun _ _ _ h => h) (.inr ⟨by kernel_rfl, rfl⟩) (by assumption) ?_
    try simp only [Act.put, List.setIfInBounds_toArray, List.set_cons_zero, List.set_cons_succ]
    refine Held.takeL (i := 11) (v := ?_) rfl (by kernel_rfl) (by kernel_rfl) (by kernel_rfl) (fun _ _ _ h => h) (.inl ⟨by kernel_rfl, ?_⟩) (by assumption) ?_
    rotate_left
    · (intro w_ hSw; go_simp; first | done | with_reducible rfl)
    try simp only [Act.put, List.setIfInBounds_toArray, List.set_cons_zero, List.set_cons_succ]
    refine wpAnyH_ready (rs := [12]) (by kernel_rfl) (by simp) ?_
    refine Held.consL rfl (fun K hK => ?_) AllReadyH.nil
    rw [if_pos (by kernel_rfl)]
    refine wp_store_ent (.tmp 2) (.tmp 55) (by rfl) (A + 1) (⟨lsn, 2, tx, ptx, ppage, ref, ⟨page, slot, ⟨bs, bd⟩, ⟨as_, ad⟩⟩, ByteArray.empty⟩ : Ent) _ (by rfl) (by rfl) hZ ?_
    intro w9 hZ9 ho9 hk9
    have hS9 : Sh A (⟨lsn, 2, tx, ptx, ppage, ref, ⟨page, slot, ⟨bs, bd⟩, ⟨as_, ad⟩⟩, blob⟩ : Ent) (⟨lsn, 2, tx, ptx, ppage, ref, ⟨page, slot, ⟨bs, bd⟩, ⟨as_, ad⟩⟩, ByteArray.empty⟩ : Ent) w w9 := ⟨(ho9 A (by omega)).trans hHeld.1, (ho9 (A + 2) (by omega)).trans hHeld.2.1, hk9 _ _ (by omega) hHeld.2.2⟩
    refine hK.out _ _ hS9 (fun hHeld => ?_)
    clear hK K
    try simp only [Act.put, List.setIfInBounds_toArray, List.set_cons_zero, List.set_cons_succ]
    refine Held.takeL (i := 13) (v := ?_) rfl (by kernel_rfl) (by kernel_rfl) (by kernel_rfl) (fun _ _ _ h => h) (.inl ⟨by kernel_rfl, ?_⟩) (by assumption) ?_
    rotate_left
    · (intro w_ hSw; go_simp; first | done | with_reducible rfl)
    try simp only [Act.put, List.setIfInBounds_toArray, List.set_cons_zero, List.set_cons_succ]
    refine wpAnyH_done (by kernel_rfl) ?_ _
    go_wp2_with fail
    exact end31 (e := (⟨lsn, 2, tx, ptx, ppage, ref, ⟨page, slot, ⟨bs, bd⟩, ⟨as_, ad⟩⟩, ByteArray.empty⟩ : Ent)) rfl rfl hZ9 rfl rfl ⟨by first | rfl | simp, by rw [HA.out]; exact hS9.2.2⟩
  cases g2 : decide (1 ≤ ref)
  · go_enter Try.func90, Try.ntmps90
    go_wp2_with fail
    go_region
    go_wp2_with fail
    refine (H7.out _).mono ?_
    rintro r_ w2 ⟨rfl, hB2⟩
    have k0 : w2.heap[A]? = some (.cells (⟨lsn, 2, tx, ptx, ppage, ref, ⟨page, slot, ⟨bs, bd⟩, ⟨as_, ad⟩⟩, blob⟩ : Ent).cs 31 (0, 0)) := (hB2.block A (by simp [World.drew, hA]; omega)).trans (show _ = _ from heap_alloc_of (heap_alloc_of (heap_alloc_at hA.symm)))
    have k1 : w2.heap[A + 1]? = some (.cells (⟨0, 0, 0, 0, 0, 0, Chg.zero, ByteArray.empty⟩ : Ent).cs 31 (0, 0)) := (hB2.block (A + 1) (by simp [World.drew, hA])).trans (show _ = _ from heap_alloc_of (heap_alloc_at (by simp [hA])))
    have k2 : w2.heap[A + 2]? = some (.cells (⟨lsn, 2, tx, ptx, ppage, 0, ⟨page, slot, ⟨bs, bd⟩, ⟨as_, ad⟩⟩, ByteArray.empty⟩ : Ent).cs 31 (0, 0)) := (hB2.block (A + 2) (by simp [World.drew, hA])).trans (show _ = _ from heap_alloc_at (by simp [hA]))
    have kB : Below A w w2 := (show Below A w _ from by rw [← hA]; exact (below3 w _ _ _).drew).trans (hB2.mono (by simp [World.drew, hA]; omega))
    obtain ⟨c0, c1, c2, c3, c4, c5⟩ := EntIn.of k0
    have cT : w2.cell? ⟨A + 2, 5, none⟩ = some (.int .i64 0) := by rw [heap_cell k2]; rfl
    have fT : w2.frozen? ⟨A + 2, 5, none⟩ = false := heap_free k2 5
    have m0 : (w2.setCell ⟨A + 2, 5, none⟩ (.int .i64 ref)).heap[A]? = some (.cells (⟨lsn, 2, tx, ptx, ppage, ref, ⟨page, slot, ⟨bs, bd⟩, ⟨as_, ad⟩⟩, blob⟩ : Ent).cs 31 (0, 0)) := (heap_setCell_other _ _ _ _ (by simp)).trans k0
    have m1 : (w2.setCell ⟨A + 2, 5, none⟩ (.int .i64 ref)).heap[A + 1]? = some (.cells (⟨0, 0, 0, 0, 0, 0, Chg.zero, ByteArray.empty⟩ : Ent).cs 31 (0, 0)) := (heap_setCell_other _ _ _ _ (by simp)).trans k1
    have m2 : (w2.setCell ⟨A + 2, 5, none⟩ (.int .i64 ref)).heap[A + 2]? = some (.cells (⟨lsn, 2, tx, ptx, ppage, ref, ⟨page, slot, ⟨bs, bd⟩, ⟨as_, ad⟩⟩, ByteArray.empty⟩ : Ent).cs 31 (0, 0)) := (heap_setCell_same _ _ _ _ _ _ k2).trans rfl
    have mB : Below A w (w2.setCell ⟨A + 2, 5, none⟩ (.int .i64 ref)) := kB.setCell (p := ⟨A + 2, 5, none⟩) (by simp) _
    obtain ⟨w3, hw3⟩ : ∃ w3, w2.setCell ⟨A + 2, 5, none⟩ (.int .i64 ref) = w3 := ⟨_, rfl⟩
    rw [hw3] at m0 m1 m2 mB
    obtain ⟨d0, d1, d2, d3, d4, d5⟩ := EntIn.of m0
    have K1 := Lib.hid m1; have KS := Lib.hid (show Sh A (⟨lsn, 2, tx, ptx, ppage, ref, ⟨page, slot, ⟨bs, bd⟩, ⟨as_, ad⟩⟩, blob⟩ : Ent) (⟨lsn, 2, tx, ptx, ppage, ref, ⟨page, slot, ⟨bs, bd⟩, ⟨as_, ad⟩⟩, ByteArray.empty⟩ : Ent) w w3.drew from ⟨m0, m2, mB.drew⟩)
    clear hB2 k0 k1 k2 kB m0 m1 m2 mB
    go_wp2_with fail
    have hZ : w3.drew.heap[A + 1]? = _ := K1.out
    refine wp_region_held_drew (S := Sh A (⟨lsn, 2, tx, ptx, ppage, ref, ⟨page, slot, ⟨bs, bd⟩, ⟨as_, ad⟩⟩, blob⟩ : Ent) (⟨lsn, 2, tx, ptx, ppage, ref, ⟨page, slot, ⟨bs, bd⟩, ⟨as_, ad⟩⟩, ByteArray.empty⟩ : Ent) w) (by kernel_rfl) KS.out (fun hHeld => ?_)
    refine Held.takeL (i := 0) (v := .agg (⟨lsn, 2, tx, ptx, ppage, ref, ⟨page, slot, ⟨bs, bd⟩, ⟨as_, ad⟩⟩, ByteArray.empty⟩ : Ent).cs) rfl (by kernel_rfl) (by kernel_rfl) (by kernel_rfl) (fun _ _ _ h => h) ?_ (by assumption) ?_
    · exact yields_ent (by kernel_rfl) (.tmp 4) (by kernel_rfl) (A + 2) (by rfl) (⟨lsn, 2, tx, ptx, ppage, ref, ⟨page, slot, ⟨bs, bd⟩, ⟨as_, ad⟩⟩, ByteArray.empty⟩ : Ent) (fun w_ h => h.2.1)
    try simp only [Act.put, List.setIfInBounds_toArray, List.set_cons_zero, List.set_cons_succ]
    refine Held.takeL (i := 1) (v := ?_) rfl (by kernel_rfl) (by kernel_rfl) (by kernel_rfl) (fun _ _ _ h => h) (.inl ⟨by kernel_rfl, ?_⟩) (by assumption) ?_
    rotate_left
    · (intro w_ hSw; go_simp; first | done | with_reducible rfl)
    try simp only [Act.put, List.setIfInBounds_toArray, List.set_cons_zero, List.set_cons_succ]
    refine Held.takeL (i := 2) (v := ?_) rfl (by kernel_rfl) (by kernel_rfl) (by kernel_rfl) (fun _ _ _ h => h) (.inl ⟨by kernel_rfl, ?_⟩) (by assumption) ?_
    rotate_left
    · (intro w_ hSw; go_simp; first | done | with_reducible rfl)
    try simp only [Act.put, List.setIfInBounds_toArray, List.set_cons_zero, List.set_cons_succ]
    refine Held.takeL (i := 3) (v := undef) rfl (by kernel_rfl) (by kernel_rfl) (by kernel_rfl) (fun _ _ _ h => h) (.inr ⟨by kernel_rfl, rfl⟩) (by assumption) ?_
    try simp only [Act.put, List.setIfInBounds_toArray, List.set_cons_zero, List.set_cons_succ]
    refine Held.takeL (i := 4) (v := undef) rfl (by kernel_rfl) (by kernel_rfl) (by kernel_rfl) (fun _ _ _ h => h) (.inr ⟨by kernel_rfl, rfl⟩) (by assumption) ?_
    try simp only [Act.put, List.setIfInBounds_toArray, List.set_cons_zero, List.set_cons_succ]
    refine Held.takeL (i := 5) (v := undef) rfl (by kernel_rfl) (by kernel_rfl) (by kernel_rfl) (fun _ _ _ h => h) (.inr ⟨by kernel_rfl, rfl⟩) (by assumption) ?_
    try simp only [Act.put, List.setIfInBounds_toArray, List.set_cons_zero, List.set_cons_succ]
    refine Held.takeL (i := 6) (v := ?_) rfl (by kernel_rfl) (by kernel_rfl) (by kernel_rfl) (fun _ _ _ h => h) (.inl ⟨by kernel_rfl, ?_⟩) (by assumption) ?_
    rotate_left
    · (intro w_ hSw; go_simp; first | done | with_reducible rfl)
    try simp only [Act.put, List.setIfInBounds_toArray, List.set_cons_zero, List.set_cons_succ]
    refine Held.takeL (i := 7) (v := ?_) rfl (by kernel_rfl) (by kernel_rfl) (by kernel_rfl) (fun _ _ _ h => h) (.inl ⟨by kernel_rfl, ?_⟩) (by assumption) ?_
    rotate_left
    · (intro w_ hSw; go_simp; first | done | with_reducible rfl)
    try simp only [Act.put, List.setIfInBounds_toArray, List.set_cons_zero, List.set_cons_succ]
    refine Held.takeL (i := 8) (v := undef) rfl (by kernel_rfl) (by kernel_rfl) (by kernel_rfl) (fun _ _ _ h => h) (.inr ⟨by kernel_rfl, rfl⟩) (by assumption) ?_
    try simp only [Act.put, List.setIfInBounds_toArray, List.set_cons_zero, List.set_cons_succ]
    refine Held.takeL (i := 9) (v := undef) rfl (by kernel_rfl) (by kernel_rfl) (by kernel_rfl) (fun _ _ _ h => h) (.inr ⟨by kernel_rfl, rfl⟩) (by assumption) ?_
    try simp only [Act.put, List.setIfInBounds_toArray, List.set_cons_zero, List.set_cons_succ]
    refine Held.takeL (i := 10) (v := undef) rfl (by kernel_rfl) (by kernel_rfl) (by kernel_rfl) (fun _ _ _ h => h) (.inr ⟨by kernel_rfl, rfl⟩) (by assumption) ?_
    try simp only [Act.put, List.setIfInBounds_toArray, List.set_cons_zero, List.set_cons_succ]
    refine Held.takeL (i := 11) (v := ?_) rfl (by kernel_rfl) (by kernel_rfl) (by kernel_rfl) (fun _ _ _ h => h) (.inl ⟨by kernel_rfl, ?_⟩) (by assumption) ?_
    rotate_left
    · (intro w_ hSw; go_simp; first | done | with_reducible rfl)
    try simp only [Act.put, List.setIfInBounds_toArray, List.set_cons_zero, List.set_cons_succ]
    refine wpAnyH_ready (rs := [12]) (by kernel_rfl) (by simp) ?_
    refine Held.consL rfl (fun K hK => ?_) AllReadyH.nil
    rw [if_pos (by kernel_rfl)]
    refine wp_store_ent (.tmp 2) (.tmp 55) (by rfl) (A + 1) (⟨lsn, 2, tx, ptx, ppage, ref, ⟨page, slot, ⟨bs, bd⟩, ⟨as_, ad⟩⟩, ByteArray.empty⟩ : Ent) _ (by rfl) (by rfl) hZ ?_
    intro w9 hZ9 ho9 hk9
    have hS9 : Sh A (⟨lsn, 2, tx, ptx, ppage, ref, ⟨page, slot, ⟨bs, bd⟩, ⟨as_, ad⟩⟩, blob⟩ : Ent) (⟨lsn, 2, tx, ptx, ppage, ref, ⟨page, slot, ⟨bs, bd⟩, ⟨as_, ad⟩⟩, ByteArray.empty⟩ : Ent) w w9 := ⟨(ho9 A (by omega)).trans hHeld.1, (ho9 (A + 2) (by omega)).trans hHeld.2.1, hk9 _ _ (by omega) hHeld.2.2⟩
    refine hK.out _ _ hS9 (fun hHeld => ?_)
    clear hK K
    try simp only [Act.put, List.setIfInBounds_toArray, List.set_cons_zero, List.set_cons_succ]
    refine Held.takeL (i := 13) (v := ?_) rfl (by kernel_rfl) (by kernel_rfl) (by kernel_rfl) (fun _ _ _ h => h) (.inl ⟨by kernel_rfl, ?_⟩) (by assumption) ?_
    rotate_left
    · (intro w_ hSw; go_simp; first | done | with_reducible rfl)
    try simp only [Act.put, List.setIfInBounds_toArray, List.set_cons_zero, List.set_cons_succ]
    refine wpAnyH_done (by kernel_rfl) ?_ _
    go_wp2_with fail
    exact end31 (e := (⟨lsn, 2, tx, ptx, ppage, ref, ⟨page, slot, ⟨bs, bd⟩, ⟨as_, ad⟩⟩, ByteArray.empty⟩ : Ent)) rfl rfl hZ9 rfl rfl ⟨by first | rfl | simp, by rw [HA.out]; exact hS9.2.2⟩
  cases g3 : decide (ref ≤ ptx)
  · go_enter Try.func90, Try.ntmps90
    go_wp2_with fail
    go_region
    go_wp2_with fail
    refine (H7.out _).mono ?_
    rintro r_ w2 ⟨rfl, hB2⟩
    have k0 : w2.heap[A]? = some (.cells (⟨lsn, 2, tx, ptx, ppage, ref, ⟨page, slot, ⟨bs, bd⟩, ⟨as_, ad⟩⟩, blob⟩ : Ent).cs 31 (0, 0)) := (hB2.block A (by simp [World.drew, hA]; omega)).trans (show _ = _ from heap_alloc_of (heap_alloc_of (heap_alloc_at hA.symm)))
    have k1 : w2.heap[A + 1]? = some (.cells (⟨0, 0, 0, 0, 0, 0, Chg.zero, ByteArray.empty⟩ : Ent).cs 31 (0, 0)) := (hB2.block (A + 1) (by simp [World.drew, hA])).trans (show _ = _ from heap_alloc_of (heap_alloc_at (by simp [hA])))
    have k2 : w2.heap[A + 2]? = some (.cells (⟨lsn, 2, tx, ptx, ppage, 0, ⟨page, slot, ⟨bs, bd⟩, ⟨as_, ad⟩⟩, ByteArray.empty⟩ : Ent).cs 31 (0, 0)) := (hB2.block (A + 2) (by simp [World.drew, hA])).trans (show _ = _ from heap_alloc_at (by simp [hA]))
    have kB : Below A w w2 := (show Below A w _ from by rw [← hA]; exact (below3 w _ _ _).drew).trans (hB2.mono (by simp [World.drew, hA]; omega))
    obtain ⟨c0, c1, c2, c3, c4, c5⟩ := EntIn.of k0
    have cT : w2.cell? ⟨A + 2, 5, none⟩ = some (.int .i64 0) := by rw [heap_cell k2]; rfl
    have fT : w2.frozen? ⟨A + 2, 5, none⟩ = false := heap_free k2 5
    have m0 : (w2.setCell ⟨A + 2, 5, none⟩ (.int .i64 ref)).heap[A]? = some (.cells (⟨lsn, 2, tx, ptx, ppage, ref, ⟨page, slot, ⟨bs, bd⟩, ⟨as_, ad⟩⟩, blob⟩ : Ent).cs 31 (0, 0)) := (heap_setCell_other _ _ _ _ (by simp)).trans k0
    have m1 : (w2.setCell ⟨A + 2, 5, none⟩ (.int .i64 ref)).heap[A + 1]? = some (.cells (⟨0, 0, 0, 0, 0, 0, Chg.zero, ByteArray.empty⟩ : Ent).cs 31 (0, 0)) := (heap_setCell_other _ _ _ _ (by simp)).trans k1
    have m2 : (w2.setCell ⟨A + 2, 5, none⟩ (.int .i64 ref)).heap[A + 2]? = some (.cells (⟨lsn, 2, tx, ptx, ppage, ref, ⟨page, slot, ⟨bs, bd⟩, ⟨as_, ad⟩⟩, ByteArray.empty⟩ : Ent).cs 31 (0, 0)) := (heap_setCell_same _ _ _ _ _ _ k2).trans rfl
    have mB : Below A w (w2.setCell ⟨A + 2, 5, none⟩ (.int .i64 ref)) := kB.setCell (p := ⟨A + 2, 5, none⟩) (by simp) _
    obtain ⟨w3, hw3⟩ : ∃ w3, w2.setCell ⟨A + 2, 5, none⟩ (.int .i64 ref) = w3 := ⟨_, rfl⟩
    rw [hw3] at m0 m1 m2 mB
    obtain ⟨d0, d1, d2, d3, d4, d5⟩ := EntIn.of m0
    have K1 := Lib.hid m1; have KS := Lib.hid (show Sh A (⟨lsn, 2, tx, ptx, ppage, ref, ⟨page, slot, ⟨bs, bd⟩, ⟨as_, ad⟩⟩, blob⟩ : Ent) (⟨lsn, 2, tx, ptx, ppage, ref, ⟨page, slot, ⟨bs, bd⟩, ⟨as_, ad⟩⟩, ByteArray.empty⟩ : Ent) w w3.drew from ⟨m0, m2, mB.drew⟩)
    clear hB2 k0 k1 k2 kB m0 m1 m2 mB
    go_wp2_with fail
    have hZ : w3.drew.heap[A + 1]? = _ := K1.out
    refine wp_region_held_drew (S := Sh A (⟨lsn, 2, tx, ptx, ppage, ref, ⟨page, slot, ⟨bs, bd⟩, ⟨as_, ad⟩⟩, blob⟩ : Ent) (⟨lsn, 2, tx, ptx, ppage, ref, ⟨page, slot, ⟨bs, bd⟩, ⟨as_, ad⟩⟩, ByteArray.empty⟩ : Ent) w) (by kernel_rfl) KS.out (fun hHeld => ?_)
    refine Held.takeL (i := 0) (v := .agg (⟨lsn, 2, tx, ptx, ppage, ref, ⟨page, slot, ⟨bs, bd⟩, ⟨as_, ad⟩⟩, ByteArray.empty⟩ : Ent).cs) rfl (by kernel_rfl) (by kernel_rfl) (by kernel_rfl) (fun _ _ _ h => h) ?_ (by assumption) ?_
    · exact yields_ent (by kernel_rfl) (.tmp 4) (by kernel_rfl) (A + 2) (by rfl) (⟨lsn, 2, tx, ptx, ppage, ref, ⟨page, slot, ⟨bs, bd⟩, ⟨as_, ad⟩⟩, ByteArray.empty⟩ : Ent) (fun w_ h => h.2.1)
    try simp only [Act.put, List.setIfInBounds_toArray, List.set_cons_zero, List.set_cons_succ]
    refine Held.takeL (i := 1) (v := ?_) rfl (by kernel_rfl) (by kernel_rfl) (by kernel_rfl) (fun _ _ _ h => h) (.inl ⟨by kernel_rfl, ?_⟩) (by assumption) ?_
    rotate_left
    · (intro w_ hSw; go_simp; first | done | with_reducible rfl)
    try simp only [Act.put, List.setIfInBounds_toArray, List.set_cons_zero, List.set_cons_succ]
    refine Held.takeL (i := 2) (v := ?_) rfl (by kernel_rfl) (by kernel_rfl) (by kernel_rfl) (fun _ _ _ h => h) (.inl ⟨by kernel_rfl, ?_⟩) (by assumption) ?_
    rotate_left
    · (intro w_ hSw; go_simp; first | done | with_reducible rfl)
    try simp only [Act.put, List.setIfInBounds_toArray, List.set_cons_zero, List.set_cons_succ]
    refine Held.takeL (i := 3) (v := undef) rfl (by kernel_rfl) (by kernel_rfl) (by kernel_rfl) (fun _ _ _ h => h) (.inr ⟨by kernel_rfl, rfl⟩) (by assumption) ?_
    try simp only [Act.put, List.setIfInBounds_toArray, List.set_cons_zero, List.set_cons_succ]
    refine Held.takeL (i := 4) (v := undef) rfl (by kernel_rfl) (by kernel_rfl) (by kernel_rfl) (fun _ _ _ h => h) (.inr ⟨by kernel_rfl, rfl⟩) (by assumption) ?_
    try simp only [Act.put, List.setIfInBounds_toArray, List.set_cons_zero, List.set_cons_succ]
    refine Held.takeL (i := 5) (v := undef) rfl (by kernel_rfl) (by kernel_rfl) (by kernel_rfl) (fun _ _ _ h => h) (.inr ⟨by kernel_rfl, rfl⟩) (by assumption) ?_
    try simp only [Act.put, List.setIfInBounds_toArray, List.set_cons_zero, List.set_cons_succ]
    refine Held.takeL (i := 6) (v := ?_) rfl (by kernel_rfl) (by kernel_rfl) (by kernel_rfl) (fun _ _ _ h => h) (.inl ⟨by kernel_rfl, ?_⟩) (by assumption) ?_
    rotate_left
    · (intro w_ hSw; go_simp; first | done | with_reducible rfl)
    try simp only [Act.put, List.setIfInBounds_toArray, List.set_cons_zero, List.set_cons_succ]
    refine Held.takeL (i := 7) (v := ?_) rfl (by kernel_rfl) (by kernel_rfl) (by kernel_rfl) (fun _ _ _ h => h) (.inl ⟨by kernel_rfl, ?_⟩) (by assumption) ?_
    rotate_left
    · (intro w_ hSw; go_simp; first | done | with_reducible rfl)
    try simp only [Act.put, List.setIfInBounds_toArray, List.set_cons_zero, List.set_cons_succ]
    refine Held.takeL (i := 8) (v := undef) rfl (by kernel_rfl) (by kernel_rfl) (by kernel_rfl) (fun _ _ _ h => h) (.inr ⟨by kernel_rfl, rfl⟩) (by assumption) ?_
    try simp only [Act.put, List.setIfInBounds_toArray, List.set_cons_zero, List.set_cons_succ]
    refine Held.takeL (i := 9) (v := undef) rfl (by kernel_rfl) (by kernel_rfl) (by kernel_rfl) (fun _ _ _ h => h) (.inr ⟨by kernel_rfl, rfl⟩) (by assumption) ?_
    try simp only [Act.put, List.setIfInBounds_toArray, List.set_cons_zero, List.set_cons_succ]
    refine Held.takeL (i := 10) (v := undef) rfl (by kernel_rfl) (by kernel_rfl) (by kernel_rfl) (fun _ _ _ h => h) (.inr ⟨by kernel_rfl, rfl⟩) (by assumption) ?_
    try simp only [Act.put, List.setIfInBounds_toArray, List.set_cons_zero, List.set_cons_succ]
    refine Held.takeL (i := 11) (v := ?_) rfl (by kernel_rfl) (by kernel_rfl) (by kernel_rfl) (fun _ _ _ h => h) (.inl ⟨by kernel_rfl, ?_⟩) (by assumption) ?_
    rotate_left
    · (intro w_ hSw; go_simp; first | done | with_reducible rfl)
    try simp only [Act.put, List.setIfInBounds_toArray, List.set_cons_zero, List.set_cons_succ]
    refine wpAnyH_ready (rs := [12]) (by kernel_rfl) (by simp) ?_
    refine Held.consL rfl (fun K hK => ?_) AllReadyH.nil
    rw [if_pos (by kernel_rfl)]
    refine wp_store_ent (.tmp 2) (.tmp 55) (by rfl) (A + 1) (⟨lsn, 2, tx, ptx, ppage, ref, ⟨page, slot, ⟨bs, bd⟩, ⟨as_, ad⟩⟩, ByteArray.empty⟩ : Ent) _ (by rfl) (by rfl) hZ ?_
    intro w9 hZ9 ho9 hk9
    have hS9 : Sh A (⟨lsn, 2, tx, ptx, ppage, ref, ⟨page, slot, ⟨bs, bd⟩, ⟨as_, ad⟩⟩, blob⟩ : Ent) (⟨lsn, 2, tx, ptx, ppage, ref, ⟨page, slot, ⟨bs, bd⟩, ⟨as_, ad⟩⟩, ByteArray.empty⟩ : Ent) w w9 := ⟨(ho9 A (by omega)).trans hHeld.1, (ho9 (A + 2) (by omega)).trans hHeld.2.1, hk9 _ _ (by omega) hHeld.2.2⟩
    refine hK.out _ _ hS9 (fun hHeld => ?_)
    clear hK K
    try simp only [Act.put, List.setIfInBounds_toArray, List.set_cons_zero, List.set_cons_succ]
    refine Held.takeL (i := 13) (v := ?_) rfl (by kernel_rfl) (by kernel_rfl) (by kernel_rfl) (fun _ _ _ h => h) (.inl ⟨by kernel_rfl, ?_⟩) (by assumption) ?_
    rotate_left
    · (intro w_ hSw; go_simp; first | done | with_reducible rfl)
    try simp only [Act.put, List.setIfInBounds_toArray, List.set_cons_zero, List.set_cons_succ]
    refine wpAnyH_done (by kernel_rfl) ?_ _
    go_wp2_with fail
    exact end31 (e := (⟨lsn, 2, tx, ptx, ppage, ref, ⟨page, slot, ⟨bs, bd⟩, ⟨as_, ad⟩⟩, ByteArray.empty⟩ : Ent)) rfl rfl hZ9 rfl rfl ⟨by first | rfl | simp, by rw [HA.out]; exact hS9.2.2⟩
  cases h1 : decide (1 ≤ tx)
  · go_enter Try.func90, Try.ntmps90
    go_wp2_with fail
    go_region
    go_wp2_with fail
    refine (H7.out _).mono ?_
    rintro r_ w2 ⟨rfl, hB2⟩
    have k0 : w2.heap[A]? = some (.cells (⟨lsn, 2, tx, ptx, ppage, ref, ⟨page, slot, ⟨bs, bd⟩, ⟨as_, ad⟩⟩, blob⟩ : Ent).cs 31 (0, 0)) := (hB2.block A (by simp [World.drew, hA]; omega)).trans (show _ = _ from heap_alloc_of (heap_alloc_of (heap_alloc_at hA.symm)))
    have k1 : w2.heap[A + 1]? = some (.cells (⟨0, 0, 0, 0, 0, 0, Chg.zero, ByteArray.empty⟩ : Ent).cs 31 (0, 0)) := (hB2.block (A + 1) (by simp [World.drew, hA])).trans (show _ = _ from heap_alloc_of (heap_alloc_at (by simp [hA])))
    have k2 : w2.heap[A + 2]? = some (.cells (⟨lsn, 2, tx, ptx, ppage, 0, ⟨page, slot, ⟨bs, bd⟩, ⟨as_, ad⟩⟩, ByteArray.empty⟩ : Ent).cs 31 (0, 0)) := (hB2.block (A + 2) (by simp [World.drew, hA])).trans (show _ = _ from heap_alloc_at (by simp [hA]))
    have kB : Below A w w2 := (show Below A w _ from by rw [← hA]; exact (below3 w _ _ _).drew).trans (hB2.mono (by simp [World.drew, hA]; omega))
    obtain ⟨c0, c1, c2, c3, c4, c5⟩ := EntIn.of k0
    have cT : w2.cell? ⟨A + 2, 5, none⟩ = some (.int .i64 0) := by rw [heap_cell k2]; rfl
    have fT : w2.frozen? ⟨A + 2, 5, none⟩ = false := heap_free k2 5
    have m0 : (w2.setCell ⟨A + 2, 5, none⟩ (.int .i64 ref)).heap[A]? = some (.cells (⟨lsn, 2, tx, ptx, ppage, ref, ⟨page, slot, ⟨bs, bd⟩, ⟨as_, ad⟩⟩, blob⟩ : Ent).cs 31 (0, 0)) := (heap_setCell_other _ _ _ _ (by simp)).trans k0
    have m1 : (w2.setCell ⟨A + 2, 5, none⟩ (.int .i64 ref)).heap[A + 1]? = some (.cells (⟨0, 0, 0, 0, 0, 0, Chg.zero, ByteArray.empty⟩ : Ent).cs 31 (0, 0)) := (heap_setCell_other _ _ _ _ (by simp)).trans k1
    have m2 : (w2.setCell ⟨A + 2, 5, none⟩ (.int .i64 ref)).heap[A + 2]? = some (.cells (⟨lsn, 2, tx, ptx, ppage, ref, ⟨page, slot, ⟨bs, bd⟩, ⟨as_, ad⟩⟩, ByteArray.empty⟩ : Ent).cs 31 (0, 0)) := (heap_setCell_same _ _ _ _ _ _ k2).trans rfl
    have mB : Below A w (w2.setCell ⟨A + 2, 5, none⟩ (.int .i64 ref)) := kB.setCell (p := ⟨A + 2, 5, none⟩) (by simp) _
    obtain ⟨w3, hw3⟩ : ∃ w3, w2.setCell ⟨A + 2, 5, none⟩ (.int .i64 ref) = w3 := ⟨_, rfl⟩
    rw [hw3] at m0 m1 m2 mB
    obtain ⟨d0, d1, d2, d3, d4, d5⟩ := EntIn.of m0
    have K1 := Lib.hid m1; have KS := Lib.hid (show Sh A (⟨lsn, 2, tx, ptx, ppage, ref, ⟨page, slot, ⟨bs, bd⟩, ⟨as_, ad⟩⟩, blob⟩ : Ent) (⟨lsn, 2, tx, ptx, ppage, ref, ⟨page, slot, ⟨bs, bd⟩, ⟨as_, ad⟩⟩, ByteArray.empty⟩ : Ent) w w3.drew from ⟨m0, m2, mB.drew⟩)
    clear hB2 k0 k1 k2 kB m0 m1 m2 mB
    go_wp2_with fail
    have hZ : w3.drew.heap[A + 1]? = _ := K1.out
    refine wp_region_held_drew (S := Sh A (⟨lsn, 2, tx, ptx, ppage, ref, ⟨page, slot, ⟨bs, bd⟩, ⟨as_, ad⟩⟩, blob⟩ : Ent) (⟨lsn, 2, tx, ptx, ppage, ref, ⟨page, slot, ⟨bs, bd⟩, ⟨as_, ad⟩⟩, ByteArray.empty⟩ : Ent) w) (by kernel_rfl) KS.out (fun hHeld => ?_)
    refine Held.takeL (i := 0) (v := .agg (⟨lsn, 2, tx, ptx, ppage, ref, ⟨page, slot, ⟨bs, bd⟩, ⟨as_, ad⟩⟩, ByteArray.empty⟩ : Ent).cs) rfl (by kernel_rfl) (by kernel_rfl) (by kernel_rfl) (fun _ _ _ h => h) ?_ (by assumption) ?_
    · exact yields_ent (by kernel_rfl) (.tmp 4) (by kernel_rfl) (A + 2) (by rfl) (⟨lsn, 2, tx, ptx, ppage, ref, ⟨page, slot, ⟨bs, bd⟩, ⟨as_, ad⟩⟩, ByteArray.empty⟩ : Ent) (fun w_ h => h.2.1)
    try simp only [Act.put, List.setIfInBounds_toArray, List.set_cons_zero, List.set_cons_succ]
    refine Held.takeL (i := 1) (v := ?_) rfl (by kernel_rfl) (by kernel_rfl) (by kernel_rfl) (fun _ _ _ h => h) (.inl ⟨by kernel_rfl, ?_⟩) (by assumption) ?_
    rotate_left
    · (intro w_ hSw; go_simp; first | done | with_reducible rfl)
    try simp only [Act.put, List.setIfInBounds_toArray, List.set_cons_zero, List.set_cons_succ]
    refine Held.takeL (i := 2) (v := ?_) rfl (by kernel_rfl) (by kernel_rfl) (by kernel_rfl) (fun _ _ _ h => h) (.inl ⟨by kernel_rfl, ?_⟩) (by assumption) ?_
    rotate_left
    · (intro w_ hSw; go_simp; first | done | with_reducible rfl)
    try simp only [Act.put, List.setIfInBounds_toArray, List.set_cons_zero, List.set_cons_succ]
    refine Held.takeL (i := 3) (v := ?_) rfl (by kernel_rfl) (by kernel_rfl) (by kernel_rfl) (fun _ _ _ h => h) (.inl ⟨by kernel_rfl, ?_⟩) (by assumption) ?_
    rotate_left
    · (intro w_ hSw; go_simp; first | done | with_reducible rfl)
    try simp only [Act.put, List.setIfInBounds_toArray, List.set_cons_zero, List.set_cons_succ]
    refine Held.takeL (i := 4) (v := ?_) rfl (by kernel_rfl) (by kernel_rfl) (by kernel_rfl) (fun _ _ _ h => h) (.inl ⟨by kernel_rfl, ?_⟩) (by assumption) ?_
    rotate_left
    · (intro w_ hSw; obtain ⟨c0, c1, c2, c3, c4, c5⟩ := EntIn.of hSw.1; go_simp; first | done | with_reducible rfl)
    try simp only [Act.put, List.setIfInBounds_toArray, List.set_cons_zero, List.set_cons_succ]
    refine Held.takeL (i := 5) (v := ?_) rfl (by kernel_rfl) (by kernel_rfl) (by kernel_rfl) (fun _ _ _ h => h) (.inl ⟨by kernel_rfl, ?_⟩) (by assumption) ?_
    rotate_left
    · (intro w_ hSw; go_simp; first | done | with_reducible rfl)
    try simp only [Act.put, List.setIfInBounds_toArray, List.set_cons_zero, List.set_cons_succ]
    refine Held.takeL (i := 6) (v := ?_) rfl (by kernel_rfl) (by kernel_rfl) (by kernel_rfl) (fun _ _ _ h => h) (.inl ⟨by kernel_rfl, ?_⟩) (by assumption) ?_
    rotate_left
    · (intro w_ hSw; go_simp; first | done | with_reducible rfl)
    try simp only [Act.put, List.setIfInBounds_toArray, List.set_cons_zero, List.set_cons_succ]
    refine Held.takeL (i := 7) (v := ?_) rfl (by kernel_rfl) (by kernel_rfl) (by kernel_rfl) (fun _ _ _ h => h) (.inl ⟨by kernel_rfl, ?_⟩) (by assumption) ?_
    rotate_left
    · (intro w_ hSw; go_simp; first | done | with_reducible rfl)
    try simp only [Act.put, List.setIfInBounds_toArray, List.set_cons_zero, List.set_cons_succ]
    refine Held.takeL (i := 8) (v := undef) rfl (by kernel_rfl) (by kernel_rfl) (by kernel_rfl) (fun _ _ _ h => h) (.inr ⟨by kernel_rfl, rfl⟩) (by assumption) ?_
    try simp only [Act.put, List.setIfInBounds_toArray, List.set_cons_zero, List.set_cons_succ]
    refine Held.takeL (i := 9) (v := undef) rfl (by kernel_rfl) (by kernel_rfl) (by kernel_rfl) (fun _ _ _ h => h) (.inr ⟨by kernel_rfl, rfl⟩) (by assumption) ?_
    try simp only [Act.put, List.setIfInBounds_toArray, List.set_cons_zero, List.set_cons_succ]
    refine Held.takeL (i := 10) (v := undef) rfl (by kernel_rfl) (by kernel_rfl) (by kernel_rfl) (fun _ _ _ h => h) (.inr ⟨by kernel_rfl, rfl⟩) (by assumption) ?_
    try simp only [Act.put, List.setIfInBounds_toArray, List.set_cons_zero, List.set_cons_succ]
    refine Held.takeL (i := 11) (v := ?_) rfl (by kernel_rfl) (by kernel_rfl) (by kernel_rfl) (fun _ _ _ h => h) (.inl ⟨by kernel_rfl, ?_⟩) (by assumption) ?_
    rotate_left
    · (intro w_ hSw; go_simp; first | done | with_reducible rfl)
    try simp only [Act.put, List.setIfInBounds_toArray, List.set_cons_zero, List.set_cons_succ]
    refine wpAnyH_ready (rs := [12]) (by kernel_rfl) (by simp) ?_
    refine Held.consL rfl (fun K hK => ?_) AllReadyH.nil
    rw [if_pos (by kernel_rfl)]
    refine wp_store_ent (.tmp 2) (.tmp 55) (by rfl) (A + 1) (⟨lsn, 2, tx, ptx, ppage, ref, ⟨page, slot, ⟨bs, bd⟩, ⟨as_, ad⟩⟩, ByteArray.empty⟩ : Ent) _ (by rfl) (by rfl) hZ ?_
    intro w9 hZ9 ho9 hk9
    have hS9 : Sh A (⟨lsn, 2, tx, ptx, ppage, ref, ⟨page, slot, ⟨bs, bd⟩, ⟨as_, ad⟩⟩, blob⟩ : Ent) (⟨lsn, 2, tx, ptx, ppage, ref, ⟨page, slot, ⟨bs, bd⟩, ⟨as_, ad⟩⟩, ByteArray.empty⟩ : Ent) w w9 := ⟨(ho9 A (by omega)).trans hHeld.1, (ho9 (A + 2) (by omega)).trans hHeld.2.1, hk9 _ _ (by omega) hHeld.2.2⟩
    refine hK.out _ _ hS9 (fun hHeld => ?_)
    clear hK K
    try simp only [Act.put, List.setIfInBounds_toArray, List.set_cons_zero, List.set_cons_succ]
    refine Held.takeL (i := 13) (v := ?_) rfl (by kernel_rfl) (by kernel_rfl) (by kernel_rfl) (fun _ _ _ h => h) (.inl ⟨by kernel_rfl, ?_⟩) (by assumption) ?_
    rotate_left
    · (intro w_ hSw; go_simp; first | done | with_reducible rfl)
    try simp only [Act.put, List.setIfInBounds_toArray, List.set_cons_zero, List.set_cons_succ]
    refine wpAnyH_done (by kernel_rfl) ?_ _
    go_wp2_with fail
    exact end31 (e := (⟨lsn, 2, tx, ptx, ppage, ref, ⟨page, slot, ⟨bs, bd⟩, ⟨as_, ad⟩⟩, ByteArray.empty⟩ : Ent)) rfl rfl hZ9 rfl rfl ⟨by first | rfl | simp, by rw [HA.out]; exact hS9.2.2⟩
  · go_enter Try.func90, Try.ntmps90
    go_wp2_with fail
    go_region
    go_wp2_with fail
    refine (H7.out _).mono ?_
    rintro r_ w2 ⟨rfl, hB2⟩
    have k0 : w2.heap[A]? = some (.cells (⟨lsn, 2, tx, ptx, ppage, ref, ⟨page, slot, ⟨bs, bd⟩, ⟨as_, ad⟩⟩, blob⟩ : Ent).cs 31 (0, 0)) := (hB2.block A (by simp [World.drew, hA]; omega)).trans (show _ = _ from heap_alloc_of (heap_alloc_of (heap_alloc_at hA.symm)))
    have k1 : w2.heap[A + 1]? = some (.cells (⟨0, 0, 0, 0, 0, 0, Chg.zero, ByteArray.empty⟩ : Ent).cs 31 (0, 0)) := (hB2.block (A + 1) (by simp [World.drew, hA])).trans (show _ = _ from heap_alloc_of (heap_alloc_at (by simp [hA])))
    have k2 : w2.heap[A + 2]? = some (.cells (⟨lsn, 2, tx, ptx, ppage, 0, ⟨page, slot, ⟨bs, bd⟩, ⟨as_, ad⟩⟩, ByteArray.empty⟩ : Ent).cs 31 (0, 0)) := (hB2.block (A + 2) (by simp [World.drew, hA])).trans (show _ = _ from heap_alloc_at (by simp [hA]))
    have kB : Below A w w2 := (show Below A w _ from by rw [← hA]; exact (below3 w _ _ _).drew).trans (hB2.mono (by simp [World.drew, hA]; omega))
    obtain ⟨c0, c1, c2, c3, c4, c5⟩ := EntIn.of k0
    have cT : w2.cell? ⟨A + 2, 5, none⟩ = some (.int .i64 0) := by rw [heap_cell k2]; rfl
    have fT : w2.frozen? ⟨A + 2, 5, none⟩ = false := heap_free k2 5
    have m0 : (w2.setCell ⟨A + 2, 5, none⟩ (.int .i64 ref)).heap[A]? = some (.cells (⟨lsn, 2, tx, ptx, ppage, ref, ⟨page, slot, ⟨bs, bd⟩, ⟨as_, ad⟩⟩, blob⟩ : Ent).cs 31 (0, 0)) := (heap_setCell_other _ _ _ _ (by simp)).trans k0
    have m1 : (w2.setCell ⟨A + 2, 5, none⟩ (.int .i64 ref)).heap[A + 1]? = some (.cells (⟨0, 0, 0, 0, 0, 0, Chg.zero, ByteArray.empty⟩ : Ent).cs 31 (0, 0)) := (heap_setCell_other _ _ _ _ (by simp)).trans k1
    have m2 : (w2.setCell ⟨A + 2, 5, none⟩ (.int .i64 ref)).heap[A + 2]? = some (.cells (⟨lsn, 2, tx, ptx, ppage, ref, ⟨page, slot, ⟨bs, bd⟩, ⟨as_, ad⟩⟩, ByteArray.empty⟩ : Ent).cs 31 (0, 0)) := (heap_setCell_same _ _ _ _ _ _ k2).trans rfl
    have mB : Below A w (w2.setCell ⟨A + 2, 5, none⟩ (.int .i64 ref)) := kB.setCell (p := ⟨A + 2, 5, none⟩) (by simp) _
    obtain ⟨w3, hw3⟩ : ∃ w3, w2.setCell ⟨A + 2, 5, none⟩ (.int .i64 ref) = w3 := ⟨_, rfl⟩
    rw [hw3] at m0 m1 m2 mB
    obtain ⟨d0, d1, d2, d3, d4, d5⟩ := EntIn.of m0
    have K1 := Lib.hid m1; have KS := Lib.hid (show Sh A (⟨lsn, 2, tx, ptx, ppage, ref, ⟨page, slot, ⟨bs, bd⟩, ⟨as_, ad⟩⟩, blob⟩ : Ent) (⟨lsn, 2, tx, ptx, ppage, ref, ⟨page, slot, ⟨bs, bd⟩, ⟨as_, ad⟩⟩, ByteArray.empty⟩ : Ent) w w3.drew from ⟨m0, m2, mB.drew⟩)
    clear hB2 k0 k1 k2 kB m0 m1 m2 mB
    go_wp2_with fail
    have hZ : w3.drew.heap[A + 1]? = _ := K1.out
    refine wp_region_held_drew (S := Sh A (⟨lsn, 2, tx, ptx, ppage, ref, ⟨page, slot, ⟨bs, bd⟩, ⟨as_, ad⟩⟩, blob⟩ : Ent) (⟨lsn, 2, tx, ptx, ppage, ref, ⟨page, slot, ⟨bs, bd⟩, ⟨as_, ad⟩⟩, ByteArray.empty⟩ : Ent) w) (by kernel_rfl) KS.out (fun hHeld => ?_)
    refine Held.takeL (i := 0) (v := .agg (⟨lsn, 2, tx, ptx, ppage, ref, ⟨page, slot, ⟨bs, bd⟩, ⟨as_, ad⟩⟩, ByteArray.empty⟩ : Ent).cs) rfl (by kernel_rfl) (by kernel_rfl) (by kernel_rfl) (fun _ _ _ h => h) ?_ (by assumption) ?_
    · exact yields_ent (by kernel_rfl) (.tmp 4) (by kernel_rfl) (A + 2) (by rfl) (⟨lsn, 2, tx, ptx, ppage, ref, ⟨page, slot, ⟨bs, bd⟩, ⟨as_, ad⟩⟩, ByteArray.empty⟩ : Ent) (fun w_ h => h.2.1)
    try simp only [Act.put, List.setIfInBounds_toArray, List.set_cons_zero, List.set_cons_succ]
    refine Held.takeL (i := 1) (v := ?_) rfl (by kernel_rfl) (by kernel_rfl) (by kernel_rfl) (fun _ _ _ h => h) (.inl ⟨by kernel_rfl, ?_⟩) (by assumption) ?_
    rotate_left
    · (intro w_ hSw; go_simp; first | done | with_reducible rfl)
    try simp only [Act.put, List.setIfInBounds_toArray, List.set_cons_zero, List.set_cons_succ]
    refine Held.takeL (i := 2) (v := ?_) rfl (by kernel_rfl) (by kernel_rfl) (by kernel_rfl) (fun _ _ _ h => h) (.inl ⟨by kernel_rfl, ?_⟩) (by assumption) ?_
    rotate_left
    · (intro w_ hSw; go_simp; first | done | with_reducible rfl)
    try simp only [Act.put, List.setIfInBounds_toArray, List.set_cons_zero, List.set_cons_succ]
    refine Held.takeL (i := 3) (v := ?_) rfl (by kernel_rfl) (by kernel_rfl) (by kernel_rfl) (fun _ _ _ h => h) (.inl ⟨by kernel_rfl, ?_⟩) (by assumption) ?_
    rotate_left
    · (intro w_ hSw; go_simp; first | done | with_reducible rfl)
    try simp only [Act.put, List.setIfInBounds_toArray, List.set_cons_zero, List.set_cons_succ]
    refine Held.takeL (i := 4) (v := ?_) rfl (by kernel_rfl) (by kernel_rfl) (by kernel_rfl) (fun _ _ _ h => h) (.inl ⟨by kernel_rfl, ?_⟩) (by assumption) ?_
    rotate_left
    · (intro w_ hSw; obtain ⟨c0, c1, c2, c3, c4, c5⟩ := EntIn.of hSw.1; go_simp; first | done | with_reducible rfl)
    try simp only [Act.put, List.setIfInBounds_toArray, List.set_cons_zero, List.set_cons_succ]
    refine Held.takeL (i := 5) (v := ?_) rfl (by kernel_rfl) (by kernel_rfl) (by kernel_rfl) (fun _ _ _ h => h) (.inl ⟨by kernel_rfl, ?_⟩) (by assumption) ?_
    rotate_left
    · (intro w_ hSw; go_simp; first | done | with_reducible rfl)
    try simp only [Act.put, List.setIfInBounds_toArray, List.set_cons_zero, List.set_cons_succ]
    refine Held.takeL (i := 6) (v := ?_) rfl (by kernel_rfl) (by kernel_rfl) (by kernel_rfl) (fun _ _ _ h => h) (.inl ⟨by kernel_rfl, ?_⟩) (by assumption) ?_
    rotate_left
    · (intro w_ hSw; go_simp; first | done | with_reducible rfl)
    try simp only [Act.put, List.setIfInBounds_toArray, List.set_cons_zero, List.set_cons_succ]
    refine Held.takeL (i := 7) (v := ?_) rfl (by kernel_rfl) (by kernel_rfl) (by kernel_rfl) (fun _ _ _ h => h) (.inl ⟨by kernel_rfl, ?_⟩) (by assumption) ?_
    rotate_left
    · (intro w_ hSw; go_simp; first | done | with_reducible rfl)
    try simp only [Act.put, List.setIfInBounds_toArray, List.set_cons_zero, List.set_cons_succ]
    refine Held.takeL (i := 8) (v := ?_) rfl (by kernel_rfl) (by kernel_rfl) (by kernel_rfl) (fun _ _ _ h => h) (.inl ⟨by kernel_rfl, ?_⟩) (by assumption) ?_
    rotate_left
    · (intro w_ hSw; go_simp; first | done | with_reducible rfl)
    try simp only [Act.put, List.setIfInBounds_toArray, List.set_cons_zero, List.set_cons_succ]
    refine Held.takeL (i := 9) (v := ?_) rfl (by kernel_rfl) (by kernel_rfl) (by kernel_rfl) (fun _ _ _ h => h) (.inl ⟨by kernel_rfl, ?_⟩) (by assumption) ?_
    rotate_left
    · (intro w_ hSw; obtain ⟨c0, c1, c2, c3, c4, c5⟩ := EntIn.of hSw.1; go_simp; first | done | with_reducible rfl)
    try simp only [Act.put, List.setIfInBounds_toArray, List.set_cons_zero, List.set_cons_succ]
    refine Held.takeL (i := 10) (v := ?_) rfl (by kernel_rfl) (by kernel_rfl) (by kernel_rfl) (fun _ _ _ h => h) (.inl ⟨by kernel_rfl, ?_⟩) (by assumption) ?_
    rotate_left
    · (intro w_ hSw; go_simp; first | done | with_reducible rfl)
    try simp only [Act.put, List.setIfInBounds_toArray, List.set_cons_zero, List.set_cons_succ]
    refine Held.takeL (i := 11) (v := ?_) rfl (by kernel_rfl) (by kernel_rfl) (by kernel_rfl) (fun _ _ _ h => h) (.inl ⟨by kernel_rfl, ?_⟩) (by assumption) ?_
    rotate_left
    · (intro w_ hSw; go_simp; first | done | with_reducible rfl)
    try simp only [Act.put, List.setIfInBounds_toArray, List.set_cons_zero, List.set_cons_succ]
    refine wpAnyH_ready (rs := [12]) (by kernel_rfl) (by simp) ?_
    refine Held.consL rfl (fun K hK => ?_) AllReadyH.nil
    rw [if_pos (by kernel_rfl)]
    refine wp_store_ent (.tmp 2) (.tmp 55) (by rfl) (A + 1) (⟨lsn, 2, tx, ptx, ppage, ref, ⟨page, slot, ⟨bs, bd⟩, ⟨as_, ad⟩⟩, ByteArray.empty⟩ : Ent) _ (by rfl) (by rfl) hZ ?_
    intro w9 hZ9 ho9 hk9
    have hS9 : Sh A (⟨lsn, 2, tx, ptx, ppage, ref, ⟨page, slot, ⟨bs, bd⟩, ⟨as_, ad⟩⟩, blob⟩ : Ent) (⟨lsn, 2, tx, ptx, ppage, ref, ⟨page, slot, ⟨bs, bd⟩, ⟨as_, ad⟩⟩, ByteArray.empty⟩ : Ent) w w9 := ⟨(ho9 A (by omega)).trans hHeld.1, (ho9 (A + 2) (by omega)).trans hHeld.2.1, hk9 _ _ (by omega) hHeld.2.2⟩
    refine hK.out _ _ hS9 (fun hHeld => ?_)
    clear hK K
    try simp only [Act.put, List.setIfInBounds_toArray, List.set_cons_zero, List.set_cons_succ]
    refine Held.takeL (i := 13) (v := ?_) rfl (by kernel_rfl) (by kernel_rfl) (by kernel_rfl) (fun _ _ _ h => h) (.inl ⟨by kernel_rfl, ?_⟩) (by assumption) ?_
    rotate_left
    · (intro w_ hSw; go_simp; first | done | with_reducible rfl)
    try simp only [Act.put, List.setIfInBounds_toArray, List.set_cons_zero, List.set_cons_succ]
    refine wpAnyH_done (by kernel_rfl) ?_ _
    go_wp2_with fail
    exact end31 (e := (⟨lsn, 2, tx, ptx, ppage, ref, ⟨page, slot, ⟨bs, bd⟩, ⟨as_, ad⟩⟩, ByteArray.empty⟩ : Ent)) rfl rfl hZ9 rfl rfl ⟨by first | rfl | simp, by rw [HA.out]; exact hS9.2.2⟩
end Go.Proofs.Ytldkgmodmpnclaa
