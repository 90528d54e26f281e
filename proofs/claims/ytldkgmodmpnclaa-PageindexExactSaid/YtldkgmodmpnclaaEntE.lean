/- Which entries are valid, as plain data; and the program's walk. -/
import Derived.Test.YtldkgmodmpnclaaEnA
namespace Go.Proofs.Ytldkgmodmpnclaa
open Go.RowKit Go.Proofs
set_option linter.unusedVariables false
set_option linter.unusedSimpArgs false
/-- What all entries have to be. -/
def headOk (e : Ent) : Bool := decide (1 ≤ e.lsn) && decide (e.lsn ≤ 1099511627776) && decide (1 ≤ e.kind) && decide (e.kind ≤ 8) && before e.ptx e.lsn && before e.ppage e.lsn && before e.ref e.lsn
/-- What a rule says of an entry; x and y are what its functions say. -/
def ruleRes (a b c d f x y : Bool) (e : Ent) : Bool :=
  !(a && (decide (e.tx < 1) || decide (1073741824 < e.tx))) && !(b && (e.ptx == 0)) && !(!a && ((e.tx != 0) || (e.ptx != 0))) && !(!c && (e.ppage != 0)) && !(!d && (e.ref != 0)) && !(!f && (!e.blob.toList.isEmpty)) && decide (e.blob.size ≤ 8192) && x && y
def kindRes (e : Ent) : Bool := match e.kind.toNat with
  | 1 => ruleRes true false true false false true (chgOk e.chg) e
  | 2 => ruleRes true true true true false (decide (1 ≤ e.ref) && decide (e.ref ≤ e.ptx)) (chgOk e.chg) e
  | 3 => ruleRes true true false false false true (decide (e.chg = Chg.zero)) e
  | 4 => ruleRes true true false false false true (decide (e.chg = Chg.zero)) e
  | 5 => ruleRes true true false false false true (decide (e.chg = Chg.zero)) e
  | 6 => ruleRes false false false false true true (decide (e.chg = Chg.zero)) e
  | 7 => ruleRes false false false true false true (decide (e.chg = Chg.only e.chg.page) && paged e.chg.page) e
  | 8 => ruleRes false false false false true true (decide (e.chg = Chg.zero)) e
  | _ => false
/-- A valid entry. -/
def entOk (e : Ent) : Bool := headOk e && kindRes e
theorem ruleOf_extract : ∀ k, k < 9 → rulesC.extract (k * 7) (k * 7 + 7) = ruleOf k := by
  intro k hk
  rcases (show k = 0 ∨ k = 1 ∨ k = 2 ∨ k = 3 ∨ k = 4 ∨ k = 5 ∨ k = 6 ∨ k = 7 ∨ k = 8 by omega) with rfl | rfl | rfl | rfl | rfl | rfl | rfl | rfl | rfl <;> rfl
theorem run_index_rule (w : World) (k : Nat) (h : k < 9) :
    (Instr.index 119 (.agg rulesC) (.int .i64 (k : Int))).run Try.prog w = .ok (.agg (ruleOf k)) w := by
  have hx := ruleOf_extract k h
  have hj : (0 : Int) ≤ (k : Int) ∧ (k : Int) < ((9 : Nat) : Int) := ⟨by omega, by omega⟩
  have hu := Try.underlying119
  have ha := Try.isAgg118
  have hs := Try.sizeOf118
  simp only [Instr.index, asIntOf, Sem.run_bind, Sem.run_pure, Result.andThen_ok, run_underlying hu, part]
  rw [if_pos hj]
  simp only [Sem.run_bind, hs, ha, Result.andThen_ok, if_true, Sem.run_pure, Int.toNat_natCast, hx]
/-- A rule's two functions, and what they say of an entry. -/
structure RuleAt (k : Nat) (e : Ent) (a b c d f : Bool) (F G : Nat) (x y : Bool) : Prop where
  rule : ruleOf k = rule a b c d f F G
  res : kindRes e = ruleRes a b c d f x y e
  ref : ∀ W : World, Calls Try.prog F #[.agg e.cs] W fun r w' => r = .returned (.bool x) ∧ Below W.heap.size W w'
  chg : ∀ W : World, Calls Try.prog G #[.agg e.chg.cs] W fun r w' => r = .returned (.bool y) ∧ Below W.heap.size W w'
  flags : (a = true ∧ b = false ∧ c = true ∧ d = false ∧ f = false ∧ F = 102 ∧ G = 104) ∨ (a = true ∧ b = true ∧ c = true ∧ d = true ∧ f = false ∧ F = 105 ∧ G = 104) ∨ (a = true ∧ b = true ∧ c = false ∧ d = false ∧ f = false ∧ F = 102 ∧ G = 103) ∨ (a = false ∧ b = false ∧ c = false ∧ d = false ∧ f = true ∧ F = 102 ∧ G = 103) ∨ (a = false ∧ b = false ∧ c = false ∧ d = true ∧ f = false ∧ F = 102 ∧ G = 106)
theorem ruleAt (e : Ent) (he : EntWf e) (k : Nat) (hk : e.kind = k) (h1 : 1 ≤ k) (h8 : k ≤ 8) : ∃ a b c d f F G x y, RuleAt k e a b c d f F G x y := by
  have hn : e.kind.toNat = k := by rw [hk]; rfl
  rcases (show k = 1 ∨ k = 2 ∨ k = 3 ∨ k = 4 ∨ k = 5 ∨ k = 6 ∨ k = 7 ∨ k = 8 by omega) with rfl | rfl | rfl | rfl | rfl | rfl | rfl | rfl
  · exact ⟨_, _, _, _, _, _, _, _, _, rfl, by unfold kindRes; rw [hn]; rfl, any_calls e, chgValid_calls e.chg, by simp⟩
  · exact ⟨_, _, _, _, _, _, _, _, _, rfl, by unfold kindRes; rw [hn]; rfl, undoRef_calls e, chgValid_calls e.chg, by simp⟩
  · exact ⟨_, _, _, _, _, _, _, _, _, rfl, by unfold kindRes; rw [hn]; rfl, any_calls e, none_calls e.chg he.chg, by simp⟩
  · exact ⟨_, _, _, _, _, _, _, _, _, rfl, by unfold kindRes; rw [hn]; rfl, any_calls e, none_calls e.chg he.chg, by simp⟩
  · exact ⟨_, _, _, _, _, _, _, _, _, rfl, by unfold kindRes; rw [hn]; rfl, any_calls e, none_calls e.chg he.chg, by simp⟩
  · exact ⟨_, _, _, _, _, _, _, _, _, rfl, by unfold kindRes; rw [hn]; rfl, any_calls e, none_calls e.chg he.chg, by simp⟩
  · exact ⟨_, _, _, _, _, _, _, _, _, rfl, by unfold kindRes; rw [hn]; rfl, any_calls e, onlyPage_calls e.chg he.chg, by simp⟩
  · exact ⟨_, _, _, _, _, _, _, _, _, rfl, by unfold kindRes; rw [hn]; rfl, any_calls e, none_calls e.chg he.chg, by simp⟩
/-- The cells of an entry in a block. -/
structure EntAt (w : World) (A : Nat) (e : Ent) : Prop where
  c0 : w.cell? ⟨A, 0, none⟩ = some (.int .i64 e.lsn)
  c1 : w.cell? ⟨A, 1, none⟩ = some (.int .i64 e.kind)
  c2 : w.cell? ⟨A, 2, none⟩ = some (.int .i64 e.tx)
  c3 : w.cell? ⟨A, 3, none⟩ = some (.int .i64 e.ptx)
  c4 : w.cell? ⟨A, 4, none⟩ = some (.int .i64 e.ppage)
  c5 : w.cell? ⟨A, 5, none⟩ = some (.int .i64 e.ref)
  c6 : w.cell? ⟨A, 6, none⟩ = some (.int .i64 e.chg.page)
  c7 : w.cell? ⟨A, 7, none⟩ = some (.int .i64 e.chg.slot)
  c8 : w.cell? ⟨A, 8, none⟩ = some (.bool e.chg.bef.set)
  c9 : w.cell? ⟨A, 9, none⟩ = some (.string e.chg.bef.data)
  c10 : w.cell? ⟨A, 10, none⟩ = some (.bool e.chg.aft.set)
  c11 : w.cell? ⟨A, 11, none⟩ = some (.string e.chg.aft.data)
  c12 : w.cell? ⟨A, 12, none⟩ = some (.string e.blob)
theorem EntAt.of {w : World} {A : Nat} {e : Ent} {t : TypeId} {fr : Nat × Nat} (h : w.heap[A]? = some (.cells e.cs t fr)) : EntAt w A e := by
  constructor <;> (rw [heap_cell h]; rfl)
/-- The rule in a block. -/
theorem rule_cells {w : World} {D : Nat} {a b c d f : Bool} {F G : Nat} {t : TypeId} {fr : Nat × Nat} (h : w.heap[D]? = some (.cells (rule a b c d f F G) t fr)) :
    w.cell? ⟨D, 0, none⟩ = some (.bool a) ∧ w.cell? ⟨D, 1, none⟩ = some (.bool b) ∧ w.cell? ⟨D, 2, none⟩ = some (.bool c) ∧ w.cell? ⟨D, 3, none⟩ = some (.bool d) ∧ w.cell? ⟨D, 4, none⟩ = some (.bool f) ∧ w.cell? ⟨D, 5, none⟩ = some (.func (Fn.func F) #[] #[]) ∧ w.cell? ⟨D, 6, none⟩ = some (.func (Fn.func G) #[] #[]) := by
  refine ⟨?_, ?_, ?_, ?_, ?_, ?_, ?_⟩ <;> (rw [heap_cell h]; rfl)
theorem wp_store_rule {o : Oper} {act : Act} {w : World} {K : Act → World → Prop} {Q : Exit → Act → World → Prop} (x y : Operand) (ho : o.op = .store 118 x y) (D : Nat) (a b c d f : Bool) (F G : Nat) (hx : act.eval x = .pointer (some ⟨D, 0, none⟩)) (hy : act.eval y = .agg (rule a b c d f F G))
    (hq : w.heap[D]? = some (.cells ruleZ 118 (0, 0))) (h : ∀ w', w'.heap[D]? = some (.cells (rule a b c d f F G) 118 (0, 0)) → (∀ B W, B ≤ D → Below B W w → Below B W w') → K (act.put o.dst undef) w') : Oper.wp Try.prog o act w K Q :=
  wp_store_row 118 x y ho D (rule a b c d f F G) hx hy 118 ruleZ hq (size118 _ _ _ _ _ _ _) rfl (rule_oneCell _ _ _ _ _ _ _) (h _ (heap_setRow hq) (fun B W hB hb => below_setRow hb hB _))
theorem entOk_head {e : Ent} (h : headOk e = false) : entOk e = false := by unfold entOk; rw [h]; rfl
set_option maxHeartbeats 8000000 in
set_option maxRecDepth 100000 in
theorem entValid_calls (e : Ent) (he : EntWf e) (w : World) : Calls Try.prog 56 #[.agg e.cs] w fun r w' => r = .returned (.bool (entOk e)) ∧ Below w.heap.size w w' := by
  obtain ⟨A, hA⟩ : ∃ A, w.heap.size = A := ⟨_, rfl⟩
  have hb := (Below.refl w.heap.size w).alloc (Nat.le_refl _) (.cells e.cs 31)
  have hn := heap_alloc_new w (.cells e.cs 31)
  obtain ⟨W, hW⟩ : ∃ W, w.alloc (.cells e.cs 31) = W := ⟨_, rfl⟩
  rw [hW, hA] at hb hn
  have hWs : W.heap.size = A + 1 := by rw [← hW]; simp [hA]
  have HC := Lib.hid (show ∀ W', Below W.heap.size W W' → W'.heap[A]? = some (.cells e.cs 31 (0, 0)) from fun W' h => (h.block A (by omega)).trans hn)
  have HBl := Lib.hid hb
  have HW := Lib.hid hW
  have H1 := Lib.hid (fun W => beforeE_calls e.ptx e W)
  have H2 := Lib.hid (fun W => beforeE_calls e.ppage e W)
  have H3 := Lib.hid (fun W => beforeE_calls e.ref e W)
  have hh : headOk e = (decide (1 ≤ e.lsn) && decide (e.lsn ≤ 1099511627776) && decide (1 ≤ e.kind) && decide (e.kind ≤ 8) && before e.ptx e.lsn && before e.ppage e.lsn && before e.ref e.lsn) := rfl
  obtain ⟨b1, e1⟩ : ∃ b, before e.ptx e.lsn = b := ⟨_, rfl⟩
  obtain ⟨b2, e2⟩ : ∃ b, before e.ppage e.lsn = b := ⟨_, rfl⟩
  obtain ⟨b3, e3⟩ : ∃ b, before e.ref e.lsn = b := ⟨_, rfl⟩
  rw [e1] at H1 hh
  rw [e2] at H2 hh
  rw [e3] at H3 hh
  have HH := Lib.hid hh
  clear hb hn hW e1 e2 e3 hh
  rw [hA]
  by_cases t0 : e.lsn < 1
  · have d0 : decide (e.lsn < 1) = true := by simpa using t0
    have HO := Lib.hid (entOk_head (HH.out.trans (by rw [show decide (1 ≤ e.lsn) = false by simp; omega]; simp)))
    clear t0
    go_enter Try.func56, Try.ntmps56
    go_wp2_with fail
    go_ret
    exact ⟨ret_bool HO.out.symm, by rw [HW.out]; exact HBl.out⟩
  have d0 : decide (e.lsn < 1) = false := by simpa using t0
  by_cases t1 : 1099511627776 < e.lsn
  · have d1 : decide (1099511627776 < e.lsn) = true := by simpa using t1
    have HO := Lib.hid (entOk_head (HH.out.trans (by rw [show decide (e.lsn ≤ 1099511627776) = false by simp; omega]; simp)))
    clear t1
    go_enter Try.func56, Try.ntmps56
    go_wp2_with fail
    go_ret
    exact ⟨ret_bool HO.out.symm, by rw [HW.out]; exact HBl.out⟩
  have d1 : decide (1099511627776 < e.lsn) = false := by simpa using t1
  by_cases t2 : e.kind < 1
  · have d2 : decide (e.kind < 1) = true := by simpa using t2
    have HO := Lib.hid (entOk_head (HH.out.trans (by rw [show decide (1 ≤ e.kind) = false by simp; omega]; simp)))
    clear t2
    go_enter Try.func56, Try.ntmps56
    go_wp2_with fail
    go_ret
    exact ⟨ret_bool HO.out.symm, by rw [HW.out]; exact HBl.out⟩
  have d2 : decide (e.kind < 1) = false := by simpa using t2
  by_cases t3 : 8 < e.kind
  · have d3 : decide (8 < e.kind) = true := by simpa using t3
    have HO := Lib.hid (entOk_head (HH.out.trans (by rw [show decide (e.kind ≤ 8) = false by simp; omega]; simp)))
    clear t3
    go_enter Try.func56, Try.ntmps56
    go_wp2_with fail
    go_ret
    exact ⟨ret_bool HO.out.symm, by rw [HW.out]; exact HBl.out⟩
  have d3 : decide (8 < e.kind) = false := by simpa using t3
  obtain ⟨k, hk⟩ : ∃ k : Nat, e.kind = k := ⟨e.kind.toNat, by omega⟩
  have hk1 : 1 ≤ k := by omega
  have hk8 : k ≤ 8 := by omega
  have hh2 : headOk e = (b1 && b2 && b3) := HH.out.trans (by rw [show decide (1 ≤ e.lsn) = true by simp; omega, show decide (e.lsn ≤ 1099511627776) = true by simp; omega, show decide (1 ≤ e.kind) = true by simp; omega, show decide (e.kind ≤ 8) = true by simp; omega]; simp)
  have HH2 := Lib.hid hh2
  obtain ⟨ra, rb, rc, rd, rf, F, G, x, y, hR⟩ := ruleAt e he k hk hk1 hk8
  have HR := Lib.hid hR
  have HK := Lib.hid hk
  have hix := fun W => (run_index_rule W k (by omega)).trans (by rw [hR.rule])
  rw [← hk] at hix
  have HIX := Lib.hid hix
  clear t0 t1 t2 t3 hh2 hR hk hix
  go_enter Try.func56, Try.ntmps56
  go_wp2_with fail
  rw [HW.out]
  try rw [hA]
  refine (H1.out _).mono ?_
  rintro r_ w1 ⟨rfl, hB1⟩
  have hq1 := EntAt.of (HC.out _ hB1)
  obtain ⟨q0, q1, q2, q3, q4, q5, q6, q7, q8, q9, q10, q11, q12⟩ := hq1
  cases b1
  · have HO := Lib.hid (entOk_head (HH2.out.trans rfl))
    have HF := Lib.hid (HBl.out.trans (hB1.mono (by omega)))
    clear hB1
    go_wp2_with fail
    go_ret
    exact ⟨ret_bool HO.out.symm, HF.out⟩
  have HB1 := Lib.hid hB1
  clear hB1
  go_wp2_with fail
  refine (H2.out _).mono ?_
  rintro r_ w2 ⟨rfl, hB2⟩
  have hB2 := HB1.out.trans (hB2.mono HB1.out.size)
  clear q0 q1 q2 q3 q4 q5 q6 q7 q8 q9 q10 q11 q12
  obtain ⟨q0, q1, q2, q3, q4, q5, q6, q7, q8, q9, q10, q11, q12⟩ := EntAt.of (HC.out _ hB2)
  cases b2
  · have HO := Lib.hid (entOk_head (HH2.out.trans rfl))
    have HF := Lib.hid (HBl.out.trans (hB2.mono (by omega)))
    clear hB2
    go_wp2_with fail
    go_ret
    exact ⟨ret_bool HO.out.symm, HF.out⟩
  have HB2 := Lib.hid hB2
  clear hB2
  go_wp2_with fail
  refine (H3.out _).mono ?_
  rintro r_ w3 ⟨rfl, hB3⟩
  have hB3 := HB2.out.trans (hB3.mono HB2.out.size)
  clear q0 q1 q2 q3 q4 q5 q6 q7 q8 q9 q10 q11 q12
  obtain ⟨q0, q1, q2, q3, q4, q5, q6, q7, q8, q9, q10, q11, q12⟩ := EntAt.of (HC.out _ hB3)
  cases b3
  · have HO := Lib.hid (entOk_head (HH2.out.trans rfl))
    have HF := Lib.hid (HBl.out.trans (hB3.mono (by omega)))
    clear hB3
    go_wp2_with fail
    go_ret
    exact ⟨ret_bool HO.out.symm, HF.out⟩
  have HB3 := Lib.hid hB3
  have HE : entOk e = ruleRes ra rb rc rd rf x y e := by unfold entOk; rw [HH2.out, HR.out.res]; rfl
  have HE2 := Lib.hid HE
  have hKe : ∀ W', Kp w3.heap.size w3 W' → EntAt W' A e := fun W' h => EntAt.of (HC.out _ (HB3.out.trans (h.below.mono HB3.out.size)))
  have HKe := Lib.hid hKe
  clear q0 q1 q2 q3 q4 q5 q6 q7 q8 q9 q10 q11 q12 hB3 HE hKe
  go_wp2_with fail
  refine wp_region_held_drew (S := Kp w3.heap.size w3) (by kernel_rfl) (Kp.start w3 _ (Nat.le_refl _)) (fun hHeld => ?_)
  refine Held.takeL (i := 1) (v := ?_) rfl (by kernel_rfl) (by kernel_rfl) (by kernel_rfl) (fun _ _ _ h => h) (.inl ⟨by kernel_rfl, ?_⟩) (by assumption) ?_
  rotate_left
  · (intro w_ hSw; go_simp; first | done | with_reducible rfl)
  try simp only [Act.put, List.setIfInBounds_toArray, List.set_cons_zero, List.set_cons_succ]
  refine Held.takeL (i := 2) (v := ?_) rfl (by kernel_rfl) (by kernel_rfl) (by kernel_rfl) (fun _ _ _ h => h) (.inl ⟨by kernel_rfl, ?_⟩) (by assumption) ?_
  rotate_left
  · (intro w_ hSw; obtain ⟨q0, q1, q2, q3, q4, q5, q6, q7, q8, q9, q10, q11, q12⟩ := HKe.out _ hSw; go_simp; first | done | with_reducible rfl)
  try simp only [Act.put, List.setIfInBounds_toArray, List.set_cons_zero, List.set_cons_succ]
  refine wpAnyH_ready (rs := [0, 4]) (by kernel_rfl) (by simp) ?_
  refine Held.consL rfl (fun K hK => ?_) (Held.consL rfl (fun K hK => ?_) AllReadyH.nil)
  · go_simp
    refine (rules_calls _).mono ?_
    rintro e_ w5 ⟨rfl, hb0⟩
    refine hK.out _ _ (hHeld.step hb0) (fun hHeld => ?_)
    clear hK K
    try simp only [Act.put, List.setIfInBounds_toArray, List.set_cons_zero, List.set_cons_succ]
    refine Held.takeL (i := 3) (v := .agg (rule ra rb rc rd rf F G)) rfl (by kernel_rfl) (by kernel_rfl) (by kernel_rfl) (fun _ _ _ h => h) (.inl ⟨by kernel_rfl, ?_⟩) (by assumption) ?_
    · (intro w_ hSw; have hix := HIX.out; go_simp; first | done | rfl)
    try simp only [Act.put, List.setIfInBounds_toArray, List.set_cons_zero, List.set_cons_succ]
    refine wpAnyH_ready (rs := [4]) (by kernel_rfl) (by simp) ?_
    refine Held.consL rfl (fun K hK => ?_) AllReadyH.nil
    rw [if_pos (by kernel_rfl)]
    refine wp_alloc_new 118 rfl ruleZ zero118 ?_
    intro D w6 hDl hD hb4
    have hDB : w3.heap.size ≤ D := Nat.le_trans hHeld.size hDl
    refine hK.out _ _ (hHeld.step hb4) (fun hHeld => ?_)
    clear hK K
    try simp only [Act.put, List.setIfInBounds_toArray, List.set_cons_zero, List.set_cons_succ]
    refine wpAnyH_ready (rs := [5]) (by kernel_rfl) (by simp) ?_
    refine Held.consL rfl (fun K hK => ?_) AllReadyH.nil
    rw [if_pos (by kernel_rfl)]
    refine wp_store_rule (.tmp 3) (.tmp 46) (by rfl) D ra rb rc rd rf F G (by rfl) (by rfl) hD ?_
    intro w7 hD7 hk7
    have hK7 : Kp w3.heap.size w3 w7 := Kp.put hHeld hDB hk7
    refine hK.out _ _ hK7 (fun hHeld => ?_)
    clear hK K
    try simp only [Act.put, List.setIfInBounds_toArray, List.set_cons_zero, List.set_cons_succ]
    refine wpAnyH_done (by kernel_rfl) ?_ _
    have HF := Lib.hid (show Below A w w7 from HBl.out.trans ((HB3.out.trans (hK7.below.mono HB3.out.size)).mono (by omega)))
    have HK7 := Lib.hid hK7
    obtain ⟨q0, q1, q2, q3, q4, q5, q6, q7, q8, q9, q10, q11, q12⟩ := HKe.out _ hK7
    obtain ⟨r0, r1, r2, r3, r4, r5, r6⟩ := rule_cells hD7
    have HD7 := Lib.hid hD7
    clear hD7 hk7 hK7 hDl
    rcases HR.out.flags with ⟨rfl, rfl, rfl, rfl, rfl, rfl, rfl⟩ | ⟨rfl, rfl, rfl, rfl, rfl, rfl, rfl⟩ | ⟨rfl, rfl, rfl, rfl, rfl, rfl, rfl⟩ | ⟨rfl, rfl, rfl, rfl, rfl, rfl, rfl⟩ | ⟨rfl, rfl, rfl, rfl, rfl, rfl, rfl⟩
    · by_cases u0 : e.tx < 1
      · have G := Lib.hid u0
        have v1 : decide (e.tx < 1) = true := by simpa using u0
        clear u0
        go_wp2_with fail
        go_ret
        exact ⟨ret_bool (HE2.out.trans (by unfold ruleRes; simp [G.out])).symm, HF.out⟩
      have G0 := Lib.hid u0
      have v1 : decide (e.tx < 1) = false := by simpa using u0
      clear u0
      by_cases u1 : 1073741824 < e.tx
      · have G := Lib.hid u1
        have v2 : decide (1073741824 < e.tx) = true := by simpa using u1
        clear u1
        go_wp2_with fail
        go_ret
        exact ⟨ret_bool (HE2.out.trans (by unfold ruleRes; simp [G.out])).symm, HF.out⟩
      have G1 := Lib.hid u1
      have v2 : decide (1073741824 < e.tx) = false := by simpa using u1
      clear u1
      by_cases u2 : ¬ e.ref = 0
      · have G := Lib.hid u2
        have v7 : (e.ref != 0) = true := by simpa using u2
        have v7b : (e.ref == 0) = false := by simpa using u2
        clear u2
        go_wp2_with fail
        go_ret
        exact ⟨ret_bool (HE2.out.trans (by unfold ruleRes; simp [G.out])).symm, HF.out⟩
      have G2 := Lib.hid (Decidable.not_not.1 u2)
      have v7 : (e.ref != 0) = false := by simpa using u2
      have v7b : (e.ref == 0) = true := by simpa using u2
      clear u2
      by_cases u3 : e.blob.toList.isEmpty = false
      · have G := Lib.hid u3
        have v8 : e.blob.toList.isEmpty = false := u3
        clear u3
        go_wp2_with fail
        go_ret
        exact ⟨ret_bool (HE2.out.trans (by unfold ruleRes; simp [G.out])).symm, HF.out⟩
      have G3 := Lib.hid u3
      have v8 : e.blob.toList.isEmpty = true := by simpa using u3
      clear u3
      by_cases u4 : ¬ e.blob.size ≤ 8192
      · have G := Lib.hid u4
        have v9 : decide ((e.blob.size : Int) ≤ 8192) = false := by simp; omega
        have v9b : decide (e.blob.size ≤ 8192) = false := by simp; omega
        clear u4
        go_wp2_with fail
        go_ret
        exact ⟨ret_bool (HE2.out.trans (by unfold ruleRes; simp [G.out])).symm, HF.out⟩
      have G4 := Lib.hid (Decidable.not_not.1 u4)
      have v9 : decide ((e.blob.size : Int) ≤ 8192) = true := by simp; omega
      have v9b : decide (e.blob.size ≤ 8192) = true := by simp; omega
      clear u4
      go_wp2_with fail
      refine (HR.out.ref _).mono ?_
      rintro r_ w8 ⟨rfl, hB8⟩
      have hK8 := HK7.out.step hB8
      clear q0 q1 q2 q3 q4 q5 q6 q7 q8 q9 q10 q11 q12 r0 r1 r2 r3 r4 r5 r6
      obtain ⟨q0, q1, q2, q3, q4, q5, q6, q7, q8, q9, q10, q11, q12⟩ := HKe.out _ hK8
      obtain ⟨r0, r1, r2, r3, r4, r5, r6⟩ := rule_cells ((hB8.block _ (heap_lt HD7.out)).trans HD7.out)
      have HF8 := Lib.hid (HF.out.trans (hB8.mono (by have := HK7.out.size; have := HB3.out.size; omega)))
      clear hK8 hB8
      cases x
      · go_wp2_with fail
        go_ret
        exact ⟨ret_bool (HE2.out.trans (by unfold ruleRes; simp)).symm, HF8.out⟩
      go_wp2_with fail
      refine (HR.out.chg _).mono ?_
      rintro r_ w9 ⟨rfl, hB9⟩
      have HF9 := Lib.hid (HF8.out.trans (hB9.mono (by have := HF8.out.size; omega)))
      go_wp2_with fail
      go_ret
      exact ⟨ret_bool (HE2.out.trans (by unfold ruleRes; simp [G0.out, G1.out, G2.out, G3.out, G4.out])).symm, HF9.out⟩
    · by_cases u0 : e.tx < 1
      · have G := Lib.hid u0
        have v1 : decide (e.tx < 1) = true := by simpa using u0
        clear u0
        go_wp2_with fail
        go_ret
        exact ⟨ret_bool (HE2.out.trans (by unfold ruleRes; simp [G.out])).symm, HF.out⟩
      have G0 := Lib.hid u0
      have v1 : decide (e.tx < 1) = false := by simpa using u0
      clear u0
      by_cases u1 : 1073741824 < e.tx
      · have G := Lib.hid u1
        have v2 : decide (1073741824 < e.tx) = true := by simpa using u1
        clear u1
        go_wp2_with fail
        go_ret
        exact ⟨ret_bool (HE2.out.trans (by unfold ruleRes; simp [G.out])).symm, HF.out⟩
      have G1 := Lib.hid u1
      have v2 : decide (1073741824 < e.tx) = false := by simpa using u1
      clear u1
      by_cases u2 : e.ptx = 0
      · have G := Lib.hid u2
        have v3 : (e.ptx == 0) = true := by simpa using u2
        clear u2
        go_wp2_with fail
        go_ret
        exact ⟨ret_bool (HE2.out.trans (by unfold ruleRes; simp [G.out])).symm, HF.out⟩
      have G2 := Lib.hid u2
      have v3 : (e.ptx == 0) = false := by simpa using u2
      clear u2
      by_cases u3 : e.blob.toList.isEmpty = false
      · have G := Lib.hid u3
        have v8 : e.blob.toList.isEmpty = false := u3
        clear u3
        go_wp2_with fail
        go_ret
        exact ⟨ret_bool (HE2.out.trans (by unfold ruleRes; simp [G.out])).symm, HF.out⟩
      have G3 := Lib.hid u3
      have v8 : e.blob.toList.isEmpty = true := by simpa using u3
      clear u3
      by_cases u4 : ¬ e.blob.size ≤ 8192
      · have G := Lib.hid u4
        have v9 : decide ((e.blob.size : Int) ≤ 8192) = false := by simp; omega
        have v9b : decide (e.blob.size ≤ 8192) = false := by simp; omega
        clear u4
        go_wp2_with fail
        go_ret
        exact ⟨ret_bool (HE2.out.trans (by unfold ruleRes; simp [G.out])).symm, HF.out⟩
      have G4 := Lib.hid (Decidable.not_not.1 u4)
      have v9 : decide ((e.blob.size : Int) ≤ 8192) = true := by simp; omega
      have v9b : decide (e.blob.size ≤ 8192) = true := by simp; omega
      clear u4
      go_wp2_with fail
      refine (HR.out.ref _).mono ?_
      rintro r_ w8 ⟨rfl, hB8⟩
      have hK8 := HK7.out.step hB8
      clear q0 q1 q2 q3 q4 q5 q6 q7 q8 q9 q10 q11 q12 r0 r1 r2 r3 r4 r5 r6
      obtain ⟨q0, q1, q2, q3, q4, q5, q6, q7, q8, q9, q10, q11, q12⟩ := HKe.out _ hK8
      obtain ⟨r0, r1, r2, r3, r4, r5, r6⟩ := rule_cells ((hB8.block _ (heap_lt HD7.out)).trans HD7.out)
      have HF8 := Lib.hid (HF.out.trans (hB8.mono (by have := HK7.out.size; have := HB3.out.size; omega)))
      clear hK8 hB8
      cases x
      · go_wp2_with fail
        go_ret
        exact ⟨ret_bool (HE2.out.trans (by unfold ruleRes; simp)).symm, HF8.out⟩
      go_wp2_with fail
      refine (HR.out.chg _).mono ?_
      rintro r_ w9 ⟨rfl, hB9⟩
      have HF9 := Lib.hid (HF8.out.trans (hB9.mono (by have := HF8.out.size; omega)))
      go_wp2_with fail
      go_ret
      exact ⟨ret_bool (HE2.out.trans (by unfold ruleRes; simp [G0.out, G1.out, G2.out, G3.out, G4.out])).symm, HF9.out⟩
    · by_cases u0 : e.tx < 1
      · have G := Lib.hid u0
        have v1 : decide (e.tx < 1) = true := by simpa using u0
        clear u0
        go_wp2_with fail
        go_ret
        exact ⟨ret_bool (HE2.out.trans (by unfold ruleRes; simp [G.out])).symm, HF.out⟩
      have G0 := Lib.hid u0
      have v1 : decide (e.tx < 1) = false := by simpa using u0
      clear u0
      by_cases u1 : 1073741824 < e.tx
      · have G := Lib.hid u1
        have v2 : decide (1073741824 < e.tx) = true := by simpa using u1
        clear u1
        go_wp2_with fail
        go_ret
        exact ⟨ret_bool (HE2.out.trans (by unfold ruleRes; simp [G.out])).symm, HF.out⟩
      have G1 := Lib.hid u1
      have v2 : decide (1073741824 < e.tx) = false := by simpa using u1
      clear u1
      by_cases u2 : e.ptx = 0
      · have G := Lib.hid u2
        have v3 : (e.ptx == 0) = true := by simpa using u2
        clear u2
        go_wp2_with fail
        go_ret
        exact ⟨ret_bool (HE2.out.trans (by unfold ruleRes; simp [G.out])).symm, HF.out⟩
      have G2 := Lib.hid u2
      have v3 : (e.ptx == 0) = false := by simpa using u2
      clear u2
      by_cases u3 : ¬ e.ppage = 0
      · have G := Lib.hid u3
        have v6 : (e.ppage != 0) = true := by simpa using u3
        have v6b : (e.ppage == 0) = false := by simpa using u3
        clear u3
        go_wp2_with fail
        go_ret
        exact ⟨ret_bool (HE2.out.trans (by unfold ruleRes; simp [G.out])).symm, HF.out⟩
      have G3 := Lib.hid (Decidable.not_not.1 u3)
      have v6 : (e.ppage != 0) = false := by simpa using u3
      have v6b : (e.ppage == 0) = true := by simpa using u3
      clear u3
      by_cases u4 : ¬ e.ref = 0
      · have G := Lib.hid u4
        have v7 : (e.ref != 0) = true := by simpa using u4
        have v7b : (e.ref == 0) = false := by simpa using u4
        clear u4
        go_wp2_with fail
        go_ret
        exact ⟨ret_bool (HE2.out.trans (by unfold ruleRes; simp [G.out])).symm, HF.out⟩
      have G4 := Lib.hid (Decidable.not_not.1 u4)
      have v7 : (e.ref != 0) = false := by simpa using u4
      have v7b : (e.ref == 0) = true := by simpa using u4
      clear u4
      by_cases u5 : e.blob.toList.isEmpty = false
      · have G := Lib.hid u5
        have v8 : e.blob.toList.isEmpty = false := u5
        clear u5
        go_wp2_with fail
        go_ret
        exact ⟨ret_bool (HE2.out.trans (by unfold ruleRes; simp [G.out])).symm, HF.out⟩
      have G5 := Lib.hid u5
      have v8 : e.blob.toList.isEmpty = true := by simpa using u5
      clear u5
      by_cases u6 : ¬ e.blob.size ≤ 8192
      · have G := Lib.hid u6
        have v9 : decide ((e.blob.size : Int) ≤ 8192) = false := by simp; omega
        have v9b : decide (e.blob.size ≤ 8192) = false := by simp; omega
        clear u6
        go_wp2_with fail
        go_ret
        exact ⟨ret_bool (HE2.out.trans (by unfold ruleRes; simp [G.out])).symm, HF.out⟩
      have G6 := Lib.hid (Decidable.not_not.1 u6)
      have v9 : decide ((e.blob.size : Int) ≤ 8192) = true := by simp; omega
      have v9b : decide (e.blob.size ≤ 8192) = true := by simp; omega
      clear u6
      go_wp2_with fail
      refine (HR.out.ref _).mono ?_
      rintro r_ w8 ⟨rfl, hB8⟩
      have hK8 := HK7.out.step hB8
      clear q0 q1 q2 q3 q4 q5 q6 q7 q8 q9 q10 q11 q12 r0 r1 r2 r3 r4 r5 r6
      obtain ⟨q0, q1, q2, q3, q4, q5, q6, q7, q8, q9, q10, q11, q12⟩ := HKe.out _ hK8
      obtain ⟨r0, r1, r2, r3, r4, r5, r6⟩ := rule_cells ((hB8.block _ (heap_lt HD7.out)).trans HD7.out)
      have HF8 := Lib.hid (HF.out.trans (hB8.mono (by have := HK7.out.size; have := HB3.out.size; omega)))
      clear hK8 hB8
      cases x
      · go_wp2_with fail
        go_ret
        exact ⟨ret_bool (HE2.out.trans (by unfold ruleRes; simp)).symm, HF8.out⟩
      go_wp2_with fail
      refine (HR.out.chg _).mono ?_
      rintro r_ w9 ⟨rfl, hB9⟩
      have HF9 := Lib.hid (HF8.out.trans (hB9.mono (by have := HF8.out.size; omega)))
      go_wp2_with fail
      go_ret
      exact ⟨ret_bool (HE2.out.trans (by unfold ruleRes; simp [G0.out, G1.out, G2.out, G3.out, G4.out, G5.out, G6.out])).symm, HF9.out⟩
    · by_cases u0 : ¬ e.tx = 0
      · have G := Lib.hid u0
        have v4 : (e.tx != 0) = true := by simpa using u0
        have v4b : (e.tx == 0) = false := by simpa using u0
        clear u0
        go_wp2_with fail
        go_ret
        exact ⟨ret_bool (HE2.out.trans (by unfold ruleRes; simp [G.out])).symm, HF.out⟩
      have G0 := Lib.hid (Decidable.not_not.1 u0)
      have v4 : (e.tx != 0) = false := by simpa using u0
      have v4b : (e.tx == 0) = true := by simpa using u0
      clear u0
      by_cases u1 : ¬ e.ptx = 0
      · have G := Lib.hid u1
        have v5 : (e.ptx != 0) = true := by simpa using u1
        have v5b : (e.ptx == 0) = false := by simpa using u1
        clear u1
        go_wp2_with fail
        go_ret
        exact ⟨ret_bool (HE2.out.trans (by unfold ruleRes; simp [G.out])).symm, HF.out⟩
      have G1 := Lib.hid (Decidable.not_not.1 u1)
      have v5 : (e.ptx != 0) = false := by simpa using u1
      have v5b : (e.ptx == 0) = true := by simpa using u1
      clear u1
      by_cases u2 : ¬ e.ppage = 0
      · have G := Lib.hid u2
        have v6 : (e.ppage != 0) = true := by simpa using u2
        have v6b : (e.ppage == 0) = false := by simpa using u2
        clear u2
        go_wp2_with fail
        go_ret
        exact ⟨ret_bool (HE2.out.trans (by unfold ruleRes; simp [G.out])).symm, HF.out⟩
      have G2 := Lib.hid (Decidable.not_not.1 u2)
      have v6 : (e.ppage != 0) = false := by simpa using u2
      have v6b : (e.ppage == 0) = true := by simpa using u2
      clear u2
      by_cases u3 : ¬ e.ref = 0
      · have G := Lib.hid u3
        have v7 : (e.ref != 0) = true := by simpa using u3
        have v7b : (e.ref == 0) = false := by simpa using u3
        clear u3
        go_wp2_with fail
        go_ret
        exact ⟨ret_bool (HE2.out.trans (by unfold ruleRes; simp [G.out])).symm, HF.out⟩
      have G3 := Lib.hid (Decidable.not_not.1 u3)
      have v7 : (e.ref != 0) = false := by simpa using u3
      have v7b : (e.ref == 0) = true := by simpa using u3
      clear u3
      by_cases u4 : ¬ e.blob.size ≤ 8192
      · have G := Lib.hid u4
        have v9 : decide ((e.blob.size : Int) ≤ 8192) = false := by simp; omega
        have v9b : decide (e.blob.size ≤ 8192) = false := by simp; omega
        clear u4
        go_wp2_with fail
        go_ret
        exact ⟨ret_bool (HE2.out.trans (by unfold ruleRes; simp [G.out])).symm, HF.out⟩
      have G4 := Lib.hid (Decidable.not_not.1 u4)
      have v9 : decide ((e.blob.size : Int) ≤ 8192) = true := by simp; omega
      have v9b : decide (e.blob.size ≤ 8192) = true := by simp; omega
      clear u4
      go_wp2_with fail
      refine (HR.out.ref _).mono ?_
      rintro r_ w8 ⟨rfl, hB8⟩
      have hK8 := HK7.out.step hB8
      clear q0 q1 q2 q3 q4 q5 q6 q7 q8 q9 q10 q11 q12 r0 r1 r2 r3 r4 r5 r6
      obtain ⟨q0, q1, q2, q3, q4, q5, q6, q7, q8, q9, q10, q11, q12⟩ := HKe.out _ hK8
      obtain ⟨r0, r1, r2, r3, r4, r5, r6⟩ := rule_cells ((hB8.block _ (heap_lt HD7.out)).trans HD7.out)
      have HF8 := Lib.hid (HF.out.trans (hB8.mono (by have := HK7.out.size; have := HB3.out.size; omega)))
      clear hK8 hB8
      cases x
      · go_wp2_with fail
        go_ret
        exact ⟨ret_bool (HE2.out.trans (by unfold ruleRes; simp)).symm, HF8.out⟩
      go_wp2_with fail
      refine (HR.out.chg _).mono ?_
      rintro r_ w9 ⟨rfl, hB9⟩
      have HF9 := Lib.hid (HF8.out.trans (hB9.mono (by have := HF8.out.size; omega)))
      go_wp2_with fail
      go_ret
      exact ⟨ret_bool (HE2.out.trans (by unfold ruleRes; simp [G0.out, G1.out, G2.out, G3.out, G4.out])).symm, HF9.out⟩
    · by_cases u0 : ¬ e.tx = 0
      · have G := Lib.hid u0
        have v4 : (e.tx != 0) = true := by simpa using u0
        have v4b : (e.tx == 0) = false := by simpa using u0
        clear u0
        go_wp2_with fail
        go_ret
        exact ⟨ret_bool (HE2.out.trans (by unfold ruleRes; simp [G.out])).symm, HF.out⟩
      have G0 := Lib.hid (Decidable.not_not.1 u0)
      have v4 : (e.tx != 0) = false := by simpa using u0
      have v4b : (e.tx == 0) = true := by simpa using u0
      clear u0
      by_cases u1 : ¬ e.ptx = 0
      · have G := Lib.hid u1
        have v5 : (e.ptx != 0) = true := by simpa using u1
        have v5b : (e.ptx == 0) = false := by simpa using u1
        clear u1
        go_wp2_with fail
        go_ret
        exact ⟨ret_bool (HE2.out.trans (by unfold ruleRes; simp [G.out])).symm, HF.out⟩
      have G1 := Lib.hid (Decidable.not_not.1 u1)
      have v5 : (e.ptx != 0) = false := by simpa using u1
      have v5b : (e.ptx == 0) = true := by simpa using u1
      clear u1
      by_cases u2 : ¬ e.ppage = 0
      · have G := Lib.hid u2
        have v6 : (e.ppage != 0) = true := by simpa using u2
        have v6b : (e.ppage == 0) = false := by simpa using u2
        clear u2
        go_wp2_with fail
        go_ret
        exact ⟨ret_bool (HE2.out.trans (by unfold ruleRes; simp [G.out])).symm, HF.out⟩
      have G2 := Lib.hid (Decidable.not_not.1 u2)
      have v6 : (e.ppage != 0) = false := by simpa using u2
      have v6b : (e.ppage == 0) = true := by simpa using u2
      clear u2
      by_cases u3 : e.blob.toList.isEmpty = false
      · have G := Lib.hid u3
        have v8 : e.blob.toList.isEmpty = false := u3
        clear u3
        go_wp2_with fail
        go_ret
        exact ⟨ret_bool (HE2.out.trans (by unfold ruleRes; simp [G.out])).symm, HF.out⟩
      have G3 := Lib.hid u3
      have v8 : e.blob.toList.isEmpty = true := by simpa using u3
      clear u3
      by_cases u4 : ¬ e.blob.size ≤ 8192
      · have G := Lib.hid u4
        have v9 : decide ((e.blob.size : Int) ≤ 8192) = false := by simp; omega
        have v9b : decide (e.blob.size ≤ 8192) = false := by simp; omega
        clear u4
        go_wp2_with fail
        go_ret
        exact ⟨ret_bool (HE2.out.trans (by unfold ruleRes; simp [G.out])).symm, HF.out⟩
      have G4 := Lib.hid (Decidable.not_not.1 u4)
      have v9 : decide ((e.blob.size : Int) ≤ 8192) = true := by simp; omega
      have v9b : decide (e.blob.size ≤ 8192) = true := by simp; omega
      clear u4
      go_wp2_with fail
      refine (HR.out.ref _).mono ?_
      rintro r_ w8 ⟨rfl, hB8⟩
      have hK8 := HK7.out.step hB8
      clear q0 q1 q2 q3 q4 q5 q6 q7 q8 q9 q10 q11 q12 r0 r1 r2 r3 r4 r5 r6
      obtain ⟨q0, q1, q2, q3, q4, q5, q6, q7, q8, q9, q10, q11, q12⟩ := HKe.out _ hK8
      obtain ⟨r0, r1, r2, r3, r4, r5, r6⟩ := rule_cells ((hB8.block _ (heap_lt HD7.out)).trans HD7.out)
      have HF8 := Lib.hid (HF.out.trans (hB8.mono (by have := HK7.out.size; have := HB3.out.size; omega)))
      clear hK8 hB8
      cases x
      · go_wp2_with fail
        go_ret
        exact ⟨ret_bool (HE2.out.trans (by unfold ruleRes; simp)).symm, HF8.out⟩
      go_wp2_with fail
      refine (HR.out.chg _).mono ?_
      rintro r_ w9 ⟨rfl, hB9⟩
      have HF9 := Lib.hid (HF8.out.trans (hB9.mono (by have := HF8.out.size; omega)))
      go_wp2_with fail
      go_ret
      exact ⟨ret_bool (HE2.out.trans (by unfold ruleRes; simp [G0.out, G1.out, G2.out, G3.out, G4.out])).symm, HF9.out⟩
  · rw [if_pos (by kernel_rfl)]
    refine wp_alloc_new 118 rfl ruleZ zero118 ?_
    intro D w6 hDl hD hb4
    have hDB : w3.heap.size ≤ D := Nat.le_trans hHeld.size hDl
    refine hK.out _ _ (hHeld.step hb4) (fun hHeld => ?_)
    clear hK K
    try simp only [Act.put, List.setIfInBounds_toArray, List.set_cons_zero, List.set_cons_succ]
    refine wpAnyH_ready (rs := [0]) (by kernel_rfl) (by simp) ?_
    refine Held.consL rfl (fun K hK => ?_) AllReadyH.nil
    go_simp
    refine (rules_calls _).mono ?_
    rintro e_ w5 ⟨rfl, hb0⟩
    have hD_0 := (hb0.block _ (heap_lt hD)).trans hD
    refine hK.out _ _ (hHeld.step hb0) (fun hHeld => ?_)
    clear hK K
    try simp only [Act.put, List.setIfInBounds_toArray, List.set_cons_zero, List.set_cons_succ]
    refine Held.takeL (i := 3) (v := .agg (rule ra rb rc rd rf F G)) rfl (by kernel_rfl) (by kernel_rfl) (by kernel_rfl) (fun _ _ _ h => h) (.inl ⟨by kernel_rfl, ?_⟩) (by assumption) ?_
    · (intro w_ hSw; have hix := HIX.out; go_simp; first | done | rfl)
    try simp only [Act.put, List.setIfInBounds_toArray, List.set_cons_zero, List.set_cons_succ]
    refine wpAnyH_ready (rs := [5]) (by kernel_rfl) (by simp) ?_
    refine Held.consL rfl (fun K hK => ?_) AllReadyH.nil
    rw [if_pos (by kernel_rfl)]
    refine wp_store_rule (.tmp 3) (.tmp 46) (by rfl) D ra rb rc rd rf F G (by rfl) (by rfl) hD_0 ?_
    intro w7 hD7 hk7
    have hK7 : Kp w3.heap.size w3 w7 := Kp.put hHeld hDB hk7
    refine hK.out _ _ hK7 (fun hHeld => ?_)
    clear hK K
    try simp only [Act.put, List.setIfInBounds_toArray, List.set_cons_zero, List.set_cons_succ]
    refine wpAnyH_done (by kernel_rfl) ?_ _
    have HF := Lib.hid (show Below A w w7 from HBl.out.trans ((HB3.out.trans (hK7.below.mono HB3.out.size)).mono (by omega)))
    have HK7 := Lib.hid hK7
    obtain ⟨q0, q1, q2, q3, q4, q5, q6, q7, q8, q9, q10, q11, q12⟩ := HKe.out _ hK7
    obtain ⟨r0, r1, r2, r3, r4, r5, r6⟩ := rule_cells hD7
    have HD7 := Lib.hid hD7
    clear hD7 hk7 hK7 hDl
    rcases HR.out.flags with ⟨rfl, rfl, rfl, rfl, rfl, rfl, rfl⟩ | ⟨rfl, rfl, rfl, rfl, rfl, rfl, rfl⟩ | ⟨rfl, rfl, rfl, rfl, rfl, rfl, rfl⟩ | ⟨rfl, rfl, rfl, rfl, rfl, rfl, rfl⟩ | ⟨rfl, rfl, rfl, rfl, rfl, rfl, rfl⟩
    · by_cases u0 : e.tx < 1
      · have G := Lib.hid u0
        have v1 : decide (e.tx < 1) = true := by simpa using u0
        clear u0
        go_wp2_with fail
        go_ret
        exact ⟨ret_bool (HE2.out.trans (by unfold ruleRes; simp [G.out])).symm, HF.out⟩
      have G0 := Lib.hid u0
      have v1 : decide (e.tx < 1) = false := by simpa using u0
      clear u0
      by_cases u1 : 1073741824 < e.tx
      · have G := Lib.hid u1
        have v2 : decide (1073741824 < e.tx) = true := by simpa using u1
        clear u1
        go_wp2_with fail
        go_ret
        exact ⟨ret_bool (HE2.out.trans (by unfold ruleRes; simp [G.out])).symm, HF.out⟩
      have G1 := Lib.hid u1
      have v2 : decide (1073741824 < e.tx) = false := by simpa using u1
      clear u1
      by_cases u2 : ¬ e.ref = 0
      · have G := Lib.hid u2
        have v7 : (e.ref != 0) = true := by simpa using u2
        have v7b : (e.ref == 0) = false := by simpa using u2
        clear u2
        go_wp2_with fail
        go_ret
        exact ⟨ret_bool (HE2.out.trans (by unfold ruleRes; simp [G.out])).symm, HF.out⟩
      have G2 := Lib.hid (Decidable.not_not.1 u2)
      have v7 : (e.ref != 0) = false := by simpa using u2
      have v7b : (e.ref == 0) = true := by simpa using u2
      clear u2
      by_cases u3 : e.blob.toList.isEmpty = false
      · have G := Lib.hid u3
        have v8 : e.blob.toList.isEmpty = false := u3
        clear u3
        go_wp2_with fail
        go_ret
        exact ⟨ret_bool (HE2.out.trans (by unfold ruleRes; simp [G.out])).symm, HF.out⟩
      have G3 := Lib.hid u3
      have v8 : e.blob.toList.isEmpty = true := by simpa using u3
      clear u3
      by_cases u4 : ¬ e.blob.size ≤ 8192
      · have G := Lib.hid u4
        have v9 : decide ((e.blob.size : Int) ≤ 8192) = false := by simp; omega
        have v9b : decide (e.blob.size ≤ 8192) = false := by simp; omega
        clear u4
        go_wp2_with fail
        go_ret
        exact ⟨ret_bool (HE2.out.trans (by unfold ruleRes; simp [G.out])).symm, HF.out⟩
      have G4 := Lib.hid (Decidable.not_not.1 u4)
      have v9 : decide ((e.blob.size : Int) ≤ 8192) = true := by simp; omega
      have v9b : decide (e.blob.size ≤ 8192) = true := by simp; omega
      clear u4
      go_wp2_with fail
      refine (HR.out.ref _).mono ?_
      rintro r_ w8 ⟨rfl, hB8⟩
      have hK8 := HK7.out.step hB8
      clear q0 q1 q2 q3 q4 q5 q6 q7 q8 q9 q10 q11 q12 r0 r1 r2 r3 r4 r5 r6
      obtain ⟨q0, q1, q2, q3, q4, q5, q6, q7, q8, q9, q10, q11, q12⟩ := HKe.out _ hK8
      obtain ⟨r0, r1, r2, r3, r4, r5, r6⟩ := rule_cells ((hB8.block _ (heap_lt HD7.out)).trans HD7.out)
      have HF8 := Lib.hid (HF.out.trans (hB8.mono (by have := HK7.out.size; have := HB3.out.size; omega)))
      clear hK8 hB8
      cases x
      · go_wp2_with fail
        go_ret
        exact ⟨ret_bool (HE2.out.trans (by unfold ruleRes; simp)).symm, HF8.out⟩
      go_wp2_with fail
      refine (HR.out.chg _).mono ?_
      rintro r_ w9 ⟨rfl, hB9⟩
      have HF9 := Lib.hid (HF8.out.trans (hB9.mono (by have := HF8.out.size; omega)))
      go_wp2_with fail
      go_ret
      exact ⟨ret_bool (HE2.out.trans (by unfold ruleRes; simp [G0.out, G1.out, G2.out, G3.out, G4.out])).symm, HF9.out⟩
    · by_cases u0 : e.tx < 1
      · have G := Lib.hid u0
        have v1 : decide (e.tx < 1) = true := by simpa using u0
        clear u0
        go_wp2_with fail
        go_ret
        exact ⟨ret_bool (HE2.out.trans (by unfold ruleRes; simp [G.out])).symm, HF.out⟩
      have G0 := Lib.hid u0
      have v1 : decide (e.tx < 1) = false := by simpa using u0
      clear u0
      by_cases u1 : 1073741824 < e.tx
      · have G := Lib.hid u1
        have v2 : decide (1073741824 < e.tx) = true := by simpa using u1
        clear u1
        go_wp2_with fail
        go_ret
        exact ⟨ret_bool (HE2.out.trans (by unfold ruleRes; simp [G.out])).symm, HF.out⟩
      have G1 := Lib.hid u1
      have v2 : decide (1073741824 < e.tx) = false := by simpa using u1
      clear u1
      by_cases u2 : e.ptx = 0
      · have G := Lib.hid u2
        have v3 : (e.ptx == 0) = true := by simpa using u2
        clear u2
        go_wp2_with fail
        go_ret
        exact ⟨ret_bool (HE2.out.trans (by unfold ruleRes; simp [G.out])).symm, HF.out⟩
      have G2 := Lib.hid u2
      have v3 : (e.ptx == 0) = false := by simpa using u2
      clear u2
      by_cases u3 : e.blob.toList.isEmpty = false
      · have G := Lib.hid u3
        have v8 : e.blob.toList.isEmpty = false := u3
        clear u3
        go_wp2_with fail
        go_ret
        exact ⟨ret_bool (HE2.out.trans (by unfold ruleRes; simp [G.out])).symm, HF.out⟩
      have G3 := Lib.hid u3
      have v8 : e.blob.toList.isEmpty = true := by simpa using u3
      clear u3
      by_cases u4 : ¬ e.blob.size ≤ 8192
      · have G := Lib.hid u4
        have v9 : decide ((e.blob.size : Int) ≤ 8192) = false := by simp; omega
        have v9b : decide (e.blob.size ≤ 8192) = false := by simp; omega
        clear u4
        go_wp2_with fail
        go_ret
        exact ⟨ret_bool (HE2.out.trans (by unfold ruleRes; simp [G.out])).symm, HF.out⟩
      have G4 := Lib.hid (Decidable.not_not.1 u4)
      have v9 : decide ((e.blob.size : Int) ≤ 8192) = true := by simp; omega
      have v9b : decide (e.blob.size ≤ 8192) = true := by simp; omega
      clear u4
      go_wp2_with fail
      refine (HR.out.ref _).mono ?_
      rintro r_ w8 ⟨rfl, hB8⟩
      have hK8 := HK7.out.step hB8
      clear q0 q1 q2 q3 q4 q5 q6 q7 q8 q9 q10 q11 q12 r0 r1 r2 r3 r4 r5 r6
      obtain ⟨q0, q1, q2, q3, q4, q5, q6, q7, q8, q9, q10, q11, q12⟩ := HKe.out _ hK8
      obtain ⟨r0, r1, r2, r3, r4, r5, r6⟩ := rule_cells ((hB8.block _ (heap_lt HD7.out)).trans HD7.out)
      have HF8 := Lib.hid (HF.out.trans (hB8.mono (by have := HK7.out.size; have := HB3.out.size; omega)))
      clear hK8 hB8
      cases x
      · go_wp2_with fail
        go_ret
        exact ⟨ret_bool (HE2.out.trans (by unfold ruleRes; simp)).symm, HF8.out⟩
      go_wp2_with fail
      refine (HR.out.chg _).mono ?_
      rintro r_ w9 ⟨rfl, hB9⟩
      have HF9 := Lib.hid (HF8.out.trans (hB9.mono (by have := HF8.out.size; omega)))
      go_wp2_with fail
      go_ret
      exact ⟨ret_bool (HE2.out.trans (by unfold ruleRes; simp [G0.out, G1.out, G2.out, G3.out, G4.out])).symm, HF9.out⟩
    · by_cases u0 : e.tx < 1
      · have G := Lib.hid u0
        have v1 : decide (e.tx < 1) = true := by simpa using u0
        clear u0
        go_wp2_with fail
        go_ret
        exact ⟨ret_bool (HE2.out.trans (by unfold ruleRes; simp [G.out])).symm, HF.out⟩
      have G0 := Lib.hid u0
      have v1 : decide (e.tx < 1) = false := by simpa using u0
      clear u0
      by_cases u1 : 1073741824 < e.tx
      · have G := Lib.hid u1
        have v2 : decide (1073741824 < e.tx) = true := by simpa using u1
        clear u1
        go_wp2_with fail
        go_ret
        exact ⟨ret_bool (HE2.out.trans (by unfold ruleRes; simp [G.out])).symm, HF.out⟩
      have G1 := Lib.hid u1
      have v2 : decide (1073741824 < e.tx) = false := by simpa using u1
      clear u1
      by_cases u2 : e.ptx = 0
      · have G := Lib.hid u2
        have v3 : (e.ptx == 0) = true := by simpa using u2
        clear u2
        go_wp2_with fail
        go_ret
        exact ⟨ret_bool (HE2.out.trans (by unfold ruleRes; simp [G.out])).symm, HF.out⟩
      have G2 := Lib.hid u2
      have v3 : (e.ptx == 0) = false := by simpa using u2
      clear u2
      by_cases u3 : ¬ e.ppage = 0
      · have G := Lib.hid u3
        have v6 : (e.ppage != 0) = true := by simpa using u3
        have v6b : (e.ppage == 0) = false := by simpa using u3
        clear u3
        go_wp2_with fail
        go_ret
        exact ⟨ret_bool (HE2.out.trans (by unfold ruleRes; simp [G.out])).symm, HF.out⟩
      have G3 := Lib.hid (Decidable.not_not.1 u3)
      have v6 : (e.ppage != 0) = false := by simpa using u3
      have v6b : (e.ppage == 0) = true := by simpa using u3
      clear u3
      by_cases u4 : ¬ e.ref = 0
      · have G := Lib.hid u4
        have v7 : (e.ref != 0) = true := by simpa using u4
        have v7b : (e.ref == 0) = false := by simpa using u4
        clear u4
        go_wp2_with fail
        go_ret
        exact ⟨ret_bool (HE2.out.trans (by unfold ruleRes; simp [G.out])).symm, HF.out⟩
      have G4 := Lib.hid (Decidable.not_not.1 u4)
      have v7 : (e.ref != 0) = false := by simpa using u4
      have v7b : (e.ref == 0) = true := by simpa using u4
      clear u4
      by_cases u5 : e.blob.toList.isEmpty = false
      · have G := Lib.hid u5
        have v8 : e.blob.toList.isEmpty = false := u5
        clear u5
        go_wp2_with fail
        go_ret
        exact ⟨ret_bool (HE2.out.trans (by unfold ruleRes; simp [G.out])).symm, HF.out⟩
      have G5 := Lib.hid u5
      have v8 : e.blob.toList.isEmpty = true := by simpa using u5
      clear u5
      by_cases u6 : ¬ e.blob.size ≤ 8192
      · have G := Lib.hid u6
        have v9 : decide ((e.blob.size : Int) ≤ 8192) = false := by simp; omega
        have v9b : decide (e.blob.size ≤ 8192) = false := by simp; omega
        clear u6
        go_wp2_with fail
        go_ret
        exact ⟨ret_bool (HE2.out.trans (by unfold ruleRes; simp [G.out])).symm, HF.out⟩
      have G6 := Lib.hid (Decidable.not_not.1 u6)
      have v9 : decide ((e.blob.size : Int) ≤ 8192) = true := by simp; omega
      have v9b : decide (e.blob.size ≤ 8192) = true := by simp; omega
      clear u6
      go_wp2_with fail
      refine (HR.out.ref _).mono ?_
      rintro r_ w8 ⟨rfl, hB8⟩
      have hK8 := HK7.out.step hB8
      clear q0 q1 q2 q3 q4 q5 q6 q7 q8 q9 q10 q11 q12 r0 r1 r2 r3 r4 r5 r6
      obtain ⟨q0, q1, q2, q3, q4, q5, q6, q7, q8, q9, q10, q11, q12⟩ := HKe.out _ hK8
      obtain ⟨r0, r1, r2, r3, r4, r5, r6⟩ := rule_cells ((hB8.block _ (heap_lt HD7.out)).trans HD7.out)
      have HF8 := Lib.hid (HF.out.trans (hB8.mono (by have := HK7.out.size; have := HB3.out.size; omega)))
      clear hK8 hB8
      cases x
      · go_wp2_with fail
        go_ret
        exact ⟨ret_bool (HE2.out.trans (by unfold ruleRes; simp)).symm, HF8.out⟩
      go_wp2_with fail
      refine (HR.out.chg _).mono ?_
      rintro r_ w9 ⟨rfl, hB9⟩
      have HF9 := Lib.hid (HF8.out.trans (hB9.mono (by have := HF8.out.size; omega)))
      go_wp2_with fail
      go_ret
      exact ⟨ret_bool (HE2.out.trans (by unfold ruleRes; simp [G0.out, G1.out, G2.out, G3.out, G4.out, G5.out, G6.out])).symm, HF9.out⟩
    · by_cases u0 : ¬ e.tx = 0
      · have G := Lib.hid u0
        have v4 : (e.tx != 0) = true := by simpa using u0
        have v4b : (e.tx == 0) = false := by simpa using u0
        clear u0
        go_wp2_with fail
        go_ret
        exact ⟨ret_bool (HE2.out.trans (by unfold ruleRes; simp [G.out])).symm, HF.out⟩
      have G0 := Lib.hid (Decidable.not_not.1 u0)
      have v4 : (e.tx != 0) = false := by simpa using u0
      have v4b : (e.tx == 0) = true := by simpa using u0
      clear u0
      by_cases u1 : ¬ e.ptx = 0
      · have G := Lib.hid u1
        have v5 : (e.ptx != 0) = true := by simpa using u1
        have v5b : (e.ptx == 0) = false := by simpa using u1
        clear u1
        go_wp2_with fail
        go_ret
        exact ⟨ret_bool (HE2.out.trans (by unfold ruleRes; simp [G.out])).symm, HF.out⟩
      have G1 := Lib.hid (Decidable.not_not.1 u1)
      have v5 : (e.ptx != 0) = false := by simpa using u1
      have v5b : (e.ptx == 0) = true := by simpa using u1
      clear u1
      by_cases u2 : ¬ e.ppage = 0
      · have G := Lib.hid u2
        have v6 : (e.ppage != 0) = true := by simpa using u2
        have v6b : (e.ppage == 0) = false := by simpa using u2
        clear u2
        go_wp2_with fail
        go_ret
        exact ⟨ret_bool (HE2.out.trans (by unfold ruleRes; simp [G.out])).symm, HF.out⟩
      have G2 := Lib.hid (Decidable.not_not.1 u2)
      have v6 : (e.ppage != 0) = false := by simpa using u2
      have v6b : (e.ppage == 0) = true := by simpa using u2
      clear u2
      by_cases u3 : ¬ e.ref = 0
      · have G := Lib.hid u3
        have v7 : (e.ref != 0) = true := by simpa using u3
        have v7b : (e.ref == 0) = false := by simpa using u3
        clear u3
        go_wp2_with fail
        go_ret
        exact ⟨ret_bool (HE2.out.trans (by unfold ruleRes; simp [G.out])).symm, HF.out⟩
      have G3 := Lib.hid (Decidable.not_not.1 u3)
      have v7 : (e.ref != 0) = false := by simpa using u3
      have v7b : (e.ref == 0) = true := by simpa using u3
      clear u3
      by_cases u4 : ¬ e.blob.size ≤ 8192
      · have G := Lib.hid u4
        have v9 : decide ((e.blob.size : Int) ≤ 8192) = false := by simp; omega
        have v9b : decide (e.blob.size ≤ 8192) = false := by simp; omega
        clear u4
        go_wp2_with fail
        go_ret
        exact ⟨ret_bool (HE2.out.trans (by unfold ruleRes; simp [G.out])).symm, HF.out⟩
      have G4 := Lib.hid (Decidable.not_not.1 u4)
      have v9 : decide ((e.blob.size : Int) ≤ 8192) = true := by simp; omega
      have v9b : decide (e.blob.size ≤ 8192) = true := by simp; omega
      clear u4
      go_wp2_with fail
      refine (HR.out.ref _).mono ?_
      rintro r_ w8 ⟨rfl, hB8⟩
      have hK8 := HK7.out.step hB8
      clear q0 q1 q2 q3 q4 q5 q6 q7 q8 q9 q10 q11 q12 r0 r1 r2 r3 r4 r5 r6
      obtain ⟨q0, q1, q2, q3, q4, q5, q6, q7, q8, q9, q10, q11, q12⟩ := HKe.out _ hK8
      obtain ⟨r0, r1, r2, r3, r4, r5, r6⟩ := rule_cells ((hB8.block _ (heap_lt HD7.out)).trans HD7.out)
      have HF8 := Lib.hid (HF.out.trans (hB8.mono (by have := HK7.out.size; have := HB3.out.size; omega)))
      clear hK8 hB8
      cases x
      · go_wp2_with fail
        go_ret
        exact ⟨ret_bool (HE2.out.trans (by unfold ruleRes; simp)).symm, HF8.out⟩
      go_wp2_with fail
      refine (HR.out.chg _).mono ?_
      rintro r_ w9 ⟨rfl, hB9⟩
      have HF9 := Lib.hid (HF8.out.trans (hB9.mono (by have := HF8.out.size; omega)))
      go_wp2_with fail
      go_ret
      exact ⟨ret_bool (HE2.out.trans (by unfold ruleRes; simp [G0.out, G1.out, G2.out, G3.out, G4.out])).symm, HF9.out⟩
    · by_cases u0 : ¬ e.tx = 0
      · have G := Lib.hid u0
        have v4 : (e.tx != 0) = true := by simpa using u0
        have v4b : (e.tx == 0) = false := by simpa using u0
        clear u0
        go_wp2_with fail
        go_ret
        exact ⟨ret_bool (HE2.out.trans (by unfold ruleRes; simp [G.out])).symm, HF.out⟩
      have G0 := Lib.hid (Decidable.not_not.1 u0)
      have v4 : (e.tx != 0) = false := by simpa using u0
      have v4b : (e.tx == 0) = true := by simpa using u0
      clear u0
      by_cases u1 : ¬ e.ptx = 0
      · have G := Lib.hid u1
        have v5 : (e.ptx != 0) = true := by simpa using u1
        have v5b : (e.ptx == 0) = false := by simpa using u1
        clear u1
        go_wp2_with fail
        go_ret
        exact ⟨ret_bool (HE2.out.trans (by unfold ruleRes; simp [G.out])).symm, HF.out⟩
      have G1 := Lib.hid (Decidable.not_not.1 u1)
      have v5 : (e.ptx != 0) = false := by simpa using u1
      have v5b : (e.ptx == 0) = true := by simpa using u1
      clear u1
      by_cases u2 : ¬ e.ppage = 0
      · have G := Lib.hid u2
        have v6 : (e.ppage != 0) = true := by simpa using u2
        have v6b : (e.ppage == 0) = false := by simpa using u2
        clear u2
        go_wp2_with fail
        go_ret
        exact ⟨ret_bool (HE2.out.trans (by unfold ruleRes; simp [G.out])).symm, HF.out⟩
      have G2 := Lib.hid (Decidable.not_not.1 u2)
      have v6 : (e.ppage != 0) = false := by simpa using u2
      have v6b : (e.ppage == 0) = true := by simpa using u2
      clear u2
      by_cases u3 : e.blob.toList.isEmpty = false
      · have G := Lib.hid u3
        have v8 : e.blob.toList.isEmpty = false := u3
        clear u3
        go_wp2_with fail
        go_ret
        exact ⟨ret_bool (HE2.out.trans (by unfold ruleRes; simp [G.out])).symm, HF.out⟩
      have G3 := Lib.hid u3
      have v8 : e.blob.toList.isEmpty = true := by simpa using u3
      clear u3
      by_cases u4 : ¬ e.blob.size ≤ 8192
      · have G := Lib.hid u4
        have v9 : decide ((e.blob.size : Int) ≤ 8192) = false := by simp; omega
        have v9b : decide (e.blob.size ≤ 8192) = false := by simp; omega
        clear u4
        go_wp2_with fail
        go_ret
        exact ⟨ret_bool (HE2.out.trans (by unfold ruleRes; simp [G.out])).symm, HF.out⟩
      have G4 := Lib.hid (Decidable.not_not.1 u4)
      have v9 : decide ((e.blob.size : Int) ≤ 8192) = true := by simp; omega
      have v9b : decide (e.blob.size ≤ 8192) = true := by simp; omega
      clear u4
      go_wp2_with fail
      refine (HR.out.ref _).mono ?_
      rintro r_ w8 ⟨rfl, hB8⟩
      have hK8 := HK7.out.step hB8
      clear q0 q1 q2 q3 q4 q5 q6 q7 q8 q9 q10 q11 q12 r0 r1 r2 r3 r4 r5 r6
      obtain ⟨q0, q1, q2, q3, q4, q5, q6, q7, q8, q9, q10, q11, q12⟩ := HKe.out _ hK8
      obtain ⟨r0, r1, r2, r3, r4, r5, r6⟩ := rule_cells ((hB8.block _ (heap_lt HD7.out)).trans HD7.out)
      have HF8 := Lib.hid (HF.out.trans (hB8.mono (by have := HK7.out.size; have := HB3.out.size; omega)))
      clear hK8 hB8
      cases x
      · go_wp2_with fail
        go_ret
        exact ⟨ret_bool (HE2.out.trans (by unfold ruleRes; simp)).symm, HF8.out⟩
      go_wp2_with fail
      refine (HR.out.chg _).mono ?_
      rintro r_ w9 ⟨rfl, hB9⟩
      have HF9 := Lib.hid (HF8.out.trans (hB9.mono (by have := HF8.out.size; omega)))
      go_wp2_with fail
      go_ret
      exact ⟨ret_bool (HE2.out.trans (by unfold ruleRes; simp [G0.out, G1.out, G2.out, G3.out, G4.out])).symm, HF9.out⟩
end Go.Proofs.Ytldkgmodmpnclaa
