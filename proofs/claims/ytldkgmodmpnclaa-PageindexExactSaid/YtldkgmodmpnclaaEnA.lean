/- Entries: the rules, the plain data, small functions. -/
import Derived.Test.YtldkgmodmpnclaaFrameB
/-! Entries and their rules: the table of rules. -/
namespace Go.Proofs.Ytldkgmodmpnclaa
open Go.RowKit Go.Proofs
set_option linter.unusedVariables false
set_option linter.unusedSimpArgs false
def ruleZ : Array Value := #[.bool false, .bool false, .bool false, .bool false, .bool false, .nilFunc, .nilFunc]
/-- A rule: what it asks, and its two functions. -/
def rule (a b c d e : Bool) (f g : Nat) : Array Value := #[.bool a, .bool b, .bool c, .bool d, .bool e, .func (Fn.func f) #[] #[], .func (Fn.func g) #[] #[]]
theorem rule_oneCell (a b c d e : Bool) (f g : Nat) : (rule a b c d e f g).all (·.oneCell') = true := by simp [rule, Value.oneCell']
def rEnds : Array Value := rule true true false false false 102 103
def rNotes : Array Value := rule false false false false true 102 103
def rChange : Array Value := rule true false true false false 102 104
def rUndo : Array Value := rule true true true true false 105 104
def rIndex : Array Value := rule false false false true false 102 106
/-- The rule of a kind. -/
def ruleOf : Nat → Array Value
  | 1 => rChange
  | 2 => rUndo
  | 3 => rEnds
  | 4 => rEnds
  | 5 => rEnds
  | 6 => rNotes
  | 7 => rIndex
  | 8 => rNotes
  | _ => ruleZ
def rulesC : Array Value := ruleOf 0 ++ ruleOf 1 ++ ruleOf 2 ++ ruleOf 3 ++ ruleOf 4 ++ ruleOf 5 ++ ruleOf 6 ++ ruleOf 7 ++ ruleOf 8
def rules0 : Array Value := ruleZ ++ ruleZ ++ ruleZ ++ ruleZ ++ ruleZ ++ ruleZ ++ ruleZ ++ ruleZ ++ ruleZ
theorem zero118 (w : World) : (zeroValue 118).run Try.prog w = .ok (.agg ruleZ) w := Try.zeroValue118 w
theorem zero119 (w : World) : (zeroValue 119).run Try.prog w = .ok (.agg rules0) w := Try.zeroValue119 w
theorem size118 (a b c d e : Bool) (f g : Nat) : (Try.prog.info? 118).map (·.size) = some (rule a b c d e f g).size := by kernel_rfl
set_option maxHeartbeats 4000000 in
set_option maxRecDepth 100000 in
theorem rules_calls (w : World) : Calls Try.prog 88 #[] w fun e w' => e = .returned (.agg rulesC) ∧ Below w.heap.size w w' := by
  have b1 : Try.prog.built 118 [(0, .bool true), (1, .bool true), (5, .func (Fn.func 102) #[] #[]), (6, .func (Fn.func 103) #[] #[])] = some rEnds := by kernel_rfl
  have b2 : Try.prog.built 118 [(4, .bool true), (5, .func (Fn.func 102) #[] #[]), (6, .func (Fn.func 103) #[] #[])] = some rNotes := by kernel_rfl
  have b3 : Try.prog.built 118 [(0, .bool true), (2, .bool true), (5, .func (Fn.func 102) #[] #[]), (6, .func (Fn.func 104) #[] #[])] = some rChange := by kernel_rfl
  have b4 : Try.prog.built 118 [(0, .bool true), (1, .bool true), (2, .bool true), (3, .bool true), (5, .func (Fn.func 105) #[] #[]), (6, .func (Fn.func 104) #[] #[])] = some rUndo := by kernel_rfl
  have b5 : Try.prog.built 118 [(3, .bool true), (5, .func (Fn.func 102) #[] #[]), (6, .func (Fn.func 106) #[] #[])] = some rIndex := by kernel_rfl
  have b6 : Try.prog.built 119 [(1, .agg rChange), (2, .agg rUndo), (3, .agg rEnds), (4, .agg rEnds), (5, .agg rEnds), (6, .agg rNotes), (7, .agg rIndex), (8, .agg rNotes)] = some rulesC := by kernel_rfl
  have hs1 : (w.alloc (.cells rules0 119)).heap.size = w.heap.size + 1 := by simp
  have hs2 : ((w.alloc (.cells rules0 119)).alloc (.cells rEnds 118)).heap.size = w.heap.size + 2 := by simp
  have hA := heap_alloc_new w (.cells rules0 119)
  have hB := heap_alloc_new (w.alloc (.cells rules0 119)) (.cells rEnds 118)
  have hC := heap_alloc_new ((w.alloc (.cells rules0 119)).alloc (.cells rEnds 118)) (.cells rNotes 118)
  rw [hs1] at hB
  rw [hs2] at hC
  have hA3 := (Below.heap_alloc _ (.cells rNotes 118) _ (heap_lt ((Below.heap_alloc _ (.cells rEnds 118) _ (heap_lt hA)).trans hA))).trans ((Below.heap_alloc _ (.cells rEnds 118) _ (heap_lt hA)).trans hA)
  have hB3 := (Below.heap_alloc _ (.cells rNotes 118) _ (heap_lt hB)).trans hB
  obtain ⟨A, hAe⟩ : ∃ A, w.heap.size = A := ⟨_, rfl⟩
  rw [hAe] at hA hB hC hA3 hB3 hs1 hs2
  have HA3 := Lib.hid hA3; have HB3 := Lib.hid hB3; have HC := Lib.hid hC
  clear hA hB hC hA3 hB3
  have HBl := Lib.hid (show Below A w (((w.alloc (.cells rules0 119)).alloc (.cells rEnds 118)).alloc (.cells rNotes 118)) from (((Below.refl _ _).alloc (by omega) _).alloc (by omega) _).alloc (by omega) _)
  go_enter Try.func88, Try.ntmps88
  go_wp2_with (first
    | (refine wpList_alloc_row rfl 119 rfl rules0 zero119 ?_)
    | (refine wpList_alloc_row rfl 118 rfl ruleZ zero118 ?_)
    | (refine wpList_store_row rfl 118 (.tmp 2) (.tmp 5) rfl _ rEnds rfl rfl _ _ (heap_alloc_new _ _) (by kernel_rfl) rfl (rule_oneCell _ _ _ _ _ _ _) ?_; rw [World.setRow_alloc_new])
    | (refine wpList_store_row rfl 118 (.tmp 3) (.tmp 7) rfl _ rNotes rfl rfl _ _ (heap_alloc_new _ _) (by kernel_rfl) rfl (rule_oneCell _ _ _ _ _ _ _) ?_; rw [World.setRow_alloc_new])
    | (refine wpList_load_row rfl 118 (.tmp 2) rfl (A + 1) rfl _ rEnds _ _ HB3.out Try.underlying118 rfl (by kernel_rfl) ?_)
    | (refine wpList_load_row rfl 118 (.tmp 3) rfl (A + 2) rfl _ rNotes _ _ HC.out Try.underlying118 rfl (by kernel_rfl) ?_)
    | (refine wpList_build_row rfl 119 _ rfl rulesC (by kernel_rfl) ?_)
    | (refine wpList_store_row rfl 119 (.tmp 0) (.tmp 18) rfl A rulesC rfl rfl _ _ HA3.out (by kernel_rfl) (by kernel_rfl) (by kernel_rfl) ?_))
  exact bodyPost_ret (results_cell_row rfl _ _ A _ _ _ _ rfl (heap_setRow HA3.out) Try.underlying119 rfl (by kernel_rfl)) rfl ⟨rfl, by rw [hAe]; exact below_setRow HBl.out (Nat.le_refl _) _⟩
end Go.Proofs.Ytldkgmodmpnclaa
/-! Entries as plain data; two entries, and two changes, are equal as Go's '==' says. -/
namespace Go.Proofs.Ytldkgmodmpnclaa
open Go.RowKit Go.Proofs
set_option linter.unusedVariables false
set_option linter.unusedSimpArgs false
/-- A change: page, slot, and the cell before and after. -/
structure Chg where
  page : Int
  slot : Int
  bef : Cell
  aft : Cell
  deriving DecidableEq
abbrev Chg.cs (c : Chg) : Array Value := #[.int .i64 c.page, .int .i64 c.slot, .bool c.bef.set, .string c.bef.data, .bool c.aft.set, .string c.aft.data]
/-- An entry. -/
structure Ent where
  lsn : Int
  kind : Int
  tx : Int
  ptx : Int
  ppage : Int
  ref : Int
  chg : Chg
  blob : ByteArray
  deriving DecidableEq
abbrev Ent.cs (e : Ent) : Array Value := #[.int .i64 e.lsn, .int .i64 e.kind, .int .i64 e.tx, .int .i64 e.ptx, .int .i64 e.ppage, .int .i64 e.ref, .int .i64 e.chg.page, .int .i64 e.chg.slot, .bool e.chg.bef.set, .string e.chg.bef.data, .bool e.chg.aft.set, .string e.chg.aft.data, .string e.blob]
abbrev wf64 (n : Int) : Prop := (Lit.int .i64 n).wf = true
structure ChgWf (c : Chg) : Prop where
  page : wf64 c.page
  slot : wf64 c.slot
  bef : c.bef.data.size ≤ maxLen
  aft : c.aft.data.size ≤ maxLen
structure EntWf (e : Ent) : Prop where
  lsn : wf64 e.lsn
  kind : wf64 e.kind
  tx : wf64 e.tx
  ptx : wf64 e.ptx
  ppage : wf64 e.ppage
  ref : wf64 e.ref
  chg : ChgWf e.chg
  blob : e.blob.size ≤ maxLen
def chgL (c : Chg) : List Lit := .int .i64 c.page :: .int .i64 c.slot :: (cellL c.bef ++ cellL c.aft)
def entL (e : Ent) : List Lit := .int .i64 e.lsn :: .int .i64 e.kind :: .int .i64 e.tx :: .int .i64 e.ptx :: .int .i64 e.ppage :: .int .i64 e.ref :: (chgL e.chg ++ [.string e.blob.data.toList])
theorem keyInt (d : Nat) (n : Int) (h : wf64 n) : Try.prog.keyLits (d + 1) 3 [.int .i64 n] = some [.int .i64 n] := by
  have : Try.prog.keyLits (d + 1) 3 [.int .i64 n] = if IntKind.i64 = IntKind.i64 ∧ (Lit.int .i64 n).wf = true then some [.int .i64 n] else none := by
    unfold Program.keyLits
    rw [Try.underlying3]
  rw [this, if_pos ⟨rfl, h⟩]
theorem keyStr (d : Nat) (s : ByteArray) (h : s.size ≤ maxLen) : Try.prog.keyLits (d + 1) 9 [.string s] = some [.string s.data.toList] := by
  have : Try.prog.keyLits (d + 1) 9 [.string s] = if s.size ≤ maxLen then some [.string s.data.toList] else none := by
    unfold Program.keyLits
    rw [Try.underlying9]
  rw [this, if_pos h]
theorem cellsOf29 : Try.prog.cellsOf 29 = 6 := by kernel_rfl
theorem cellsOf31 : Try.prog.cellsOf 31 = 13 := by kernel_rfl
theorem cellsOf3 : Try.prog.cellsOf 3 = 1 := by kernel_rfl
theorem cellsOf9 : Try.prog.cellsOf 9 = 1 := by kernel_rfl
theorem keyLits29 (c : Chg) (h : ChgWf c) : Try.prog.keyLits 3 29 c.cs.toList = some (chgL c) := by
  unfold Program.keyLits
  rw [Try.underlying29]
  simp only [cellsOf29]
  rw [if_pos ⟨rfl, by kernel_rfl⟩]
  have t0 : (c.cs.toList.drop 0).take 1 = [.int .i64 c.page] := rfl
  have t1 : (c.cs.toList.drop 1).take 1 = [.int .i64 c.slot] := rfl
  have t2 : (c.cs.toList.drop 2).take 2 = [.bool c.bef.set, .string c.bef.data] := rfl
  have t3 : (c.cs.toList.drop 4).take 2 = [.bool c.aft.set, .string c.aft.data] := rfl
  simp only [List.mapM_cons, List.mapM_nil, cellsOf3, cellsOf27, t0, t1, t2, t3, keyInt 1 _ h.page, keyInt 1 _ h.slot, keyLits27 _ h.bef, keyLits27 _ h.aft]
  simp [chgL]
theorem keyLits31 (e : Ent) (h : EntWf e) : Try.prog.keyLits 4 31 e.cs.toList = some (entL e) := by
  unfold Program.keyLits
  rw [Try.underlying31]
  simp only [cellsOf31]
  rw [if_pos ⟨rfl, by kernel_rfl⟩]
  have t0 : (e.cs.toList.drop 0).take 1 = [.int .i64 e.lsn] := rfl
  have t1 : (e.cs.toList.drop 1).take 1 = [.int .i64 e.kind] := rfl
  have t2 : (e.cs.toList.drop 2).take 1 = [.int .i64 e.tx] := rfl
  have t3 : (e.cs.toList.drop 3).take 1 = [.int .i64 e.ptx] := rfl
  have t4 : (e.cs.toList.drop 4).take 1 = [.int .i64 e.ppage] := rfl
  have t5 : (e.cs.toList.drop 5).take 1 = [.int .i64 e.ref] := rfl
  have t6 : (e.cs.toList.drop 6).take 6 = e.chg.cs.toList := rfl
  have t7 : (e.cs.toList.drop 12).take 1 = [.string e.blob] := rfl
  simp only [List.mapM_cons, List.mapM_nil, cellsOf3, cellsOf9, cellsOf29, t0, t1, t2, t3, t4, t5, t6, t7, keyInt 2 _ h.lsn, keyInt 2 _ h.kind, keyInt 2 _ h.tx, keyInt 2 _ h.ptx, keyInt 2 _ h.ppage, keyInt 2 _ h.ref, keyLits29 _ h.chg, keyStr 2 _ h.blob]
  simp [entL]
theorem chgL_inj {c d : Chg} (h : chgL c = chgL d) : c = d := by
  simp only [chgL, List.cons.injEq, Lit.int.injEq, true_and] at h
  obtain ⟨h1, h2, h3⟩ := h
  have h4 := List.append_inj h3 rfl
  cases c; cases d
  simp only at h1 h2 h4
  rw [h1, h2, cellL_inj h4.1, cellL_inj h4.2]
theorem entL_inj {c d : Ent} (h : entL c = entL d) : c = d := by
  simp only [entL, List.cons.injEq, Lit.int.injEq, true_and] at h
  obtain ⟨h1, h2, h3, h4, h5, h6, h7⟩ := h
  have h8 := List.append_inj h7 rfl
  have h9 := chgL_inj h8.1
  have h10 : c.blob = d.blob := ByteArray.ext (Array.ext' (by simpa using h8.2))
  cases c; cases d
  simp only at h1 h2 h3 h4 h5 h6 h9 h10
  rw [h1, h2, h3, h4, h5, h6, h9, h10]
set_option maxRecDepth 100000 in
theorem eqAt29 : EqAt Try.prog 10000 29 := by
  obtain ⟨d, hd⟩ : ∃ d : Nat, d + 3 = 10000 := ⟨9997, by omega⟩
  exact hd ▸ run_equalIn_deep (P := Try.prog) d 3 29 (by kernel_rfl)
set_option maxRecDepth 100000 in
theorem eqAt31 : EqAt Try.prog 10000 31 := by
  obtain ⟨d, hd⟩ : ∃ d : Nat, d + 4 = 10000 := ⟨9996, by omega⟩
  exact hd ▸ run_equalIn_deep (P := Try.prog) d 4 31 (by kernel_rfl)
theorem formed29 (c : Chg) : (Value.agg c.cs).formed Try.prog 29 = true := by
  unfold Value.formed
  rw [Try.underlying29]
  simp only [cellsOf29]
  rfl
theorem formed31 (c : Ent) : (Value.agg c.cs).formed Try.prog 31 = true := by
  unfold Value.formed
  rw [Try.underlying31]
  simp only [cellsOf31]
  rfl
set_option maxRecDepth 100000 in
theorem eq29 (p q : Chg) (hp : ChgWf p) (hq : ChgWf q) (w : World) : (Op.equalIn 10000 29 (.agg p.cs) (.agg q.cs)).run Try.prog w = .ok (decide (p = q)) w := by
  obtain ⟨r, h1, h2⟩ := eqAt29 w 3 3 (.agg p.cs) (.agg q.cs) (chgL p) (chgL q) (formed29 p) (formed29 q) (keyLits29 p hp) (keyLits29 q hq)
  rw [h1]
  congr 1
  by_cases e : p = q
  · rw [h2.2 (by rw [e])]; simp [e]
  · cases r
    · simp [e]
    · exact absurd (chgL_inj (h2.1 rfl)) e
set_option maxRecDepth 100000 in
theorem eq31 (p q : Ent) (hp : EntWf p) (hq : EntWf q) (w : World) : (Op.equalIn 10000 31 (.agg p.cs) (.agg q.cs)).run Try.prog w = .ok (decide (p = q)) w := by
  obtain ⟨r, h1, h2⟩ := eqAt31 w 4 4 (.agg p.cs) (.agg q.cs) (entL p) (entL q) (formed31 p) (formed31 q) (keyLits31 p hp) (keyLits31 q hq)
  rw [h1]
  congr 1
  by_cases e : p = q
  · rw [h2.2 (by rw [e])]; simp [e]
  · cases r
    · simp [e]
    · exact absurd (entL_inj (h2.1 rfl)) e
theorem guard29 : Try.prog.eqGuardType Try.prog.depth 29 = false := by kernel_rfl
theorem guard31 : Try.prog.eqGuardType Try.prog.depth 31 = false := by kernel_rfl
theorem run_eq29 (p q : Chg) (hp : ChgWf p) (hq : ChgWf q) (w : World) : (binOp .eql 29 (.agg p.cs) (.agg q.cs)).run Try.prog w = .ok (.bool (decide (p = q))) w := by
  rw [run_eql_struct, eq29 p q hp hq]
  rfl
theorem run_eq31 (p q : Ent) (hp : EntWf p) (hq : EntWf q) (w : World) : (binOp .eql 31 (.agg p.cs) (.agg q.cs)).run Try.prog w = .ok (.bool (decide (p = q))) w := by
  rw [run_eql_struct, eq31 p q hp hq]
  rfl
theorem wpList_eq29 {ops : Array Oper} {rest : List Oper} {o : Oper} {a : Act} {w : World} {Q : Exit → Act → World → Prop} (hw : Region.wanted o (yielded ops a.tmps) = true) (x y : Operand) (ty : TypeId) (ho : o.op = .binOp .eql 29 x y ty)
    (p q : Chg) (hx : a.eval x = .agg p.cs) (hy : a.eval y = .agg q.cs) (hp : ChgWf p) (hq : ChgWf q) (b : Bool) (hb : decide (p = q) = b)
    (h : wpList Try.prog ops Q rest (a.put o.dst (.bool b)) w) : wpList Try.prog ops Q (o :: rest) a w :=
  wpList_step fun K hK => by
    rw [if_pos hw]
    unfold Oper.wp execOp
    simp only [ho, hx, hy, Sem.run_bind, run_eqGuard_agg _ _ _ _ _ _ _ guard29, Result.andThen_ok, run_eq29 p q hp hq, Sem.run_pure, hb]
    exact hK _ _ h
theorem wpList_eq31 {ops : Array Oper} {rest : List Oper} {o : Oper} {a : Act} {w : World} {Q : Exit → Act → World → Prop} (hw : Region.wanted o (yielded ops a.tmps) = true) (x y : Operand) (ty : TypeId) (ho : o.op = .binOp .eql 31 x y ty)
    (p q : Ent) (hx : a.eval x = .agg p.cs) (hy : a.eval y = .agg q.cs) (hp : EntWf p) (hq : EntWf q) (b : Bool) (hb : decide (p = q) = b)
    (h : wpList Try.prog ops Q rest (a.put o.dst (.bool b)) w) : wpList Try.prog ops Q (o :: rest) a w :=
  wpList_step fun K hK => by
    rw [if_pos hw]
    unfold Oper.wp execOp
    simp only [ho, hx, hy, Sem.run_bind, run_eqGuard_agg _ _ _ _ _ _ _ guard31, Result.andThen_ok, run_eq31 p q hp hq, Sem.run_pure, hb]
    exact hK _ _ h
end Go.Proofs.Ytldkgmodmpnclaa
/-! What a rule asks of an entry: the walks of the small functions, of the program and of the references. -/
namespace Go.Proofs.Ytldkgmodmpnclaa
open Go.RowKit Go.Proofs
set_option linter.unusedVariables false
set_option linter.unusedSimpArgs false
def paged (n : Int) : Bool := decide (0 ≤ n) && decide (n < 64)
def chgOk (c : Chg) : Bool := paged c.page && decide (0 ≤ c.slot) && decide (c.slot < 16) && cellFits c.bef && cellFits c.aft
def Chg.zero : Chg := ⟨0, 0, Cell.none, Cell.none⟩
def Chg.only (n : Int) : Chg := ⟨n, 0, Cell.none, Cell.none⟩
def before (n l : Int) : Bool := decide (0 ≤ n) && decide (n < l)
theorem wfZero : ChgWf Chg.zero := ⟨rfl, rfl, Nat.zero_le _, Nat.zero_le _⟩
theorem ChgWf.only {n : Int} (h : wf64 n) : ChgWf (Chg.only n) := ⟨h, rfl, Nat.zero_le _, Nat.zero_le _⟩
section
set_option maxRecDepth 100000
theorem any_calls (e : Ent) (w : World) : Calls Try.prog 102 #[.agg e.cs] w fun r w' => r = .returned (.bool true) ∧ Below w.heap.size w w' := by
  go_enter Try.func102, Try.ntmps102
  go_wp2_with fail
  go_ret
  exact ⟨rfl, (Below.refl _ _).alloc (Nat.le_refl _) _⟩
theorem none_calls (c : Chg) (hc : ChgWf c) (w : World) : Calls Try.prog 103 #[.agg c.cs] w fun r w' => r = .returned (.bool (decide (c = Chg.zero))) ∧ Below w.heap.size w w' := by
  go_enter Try.func103, Try.ntmps103
  go_wp2_with (refine wpList_eq29 (by rfl) (.tmp 3) (.tmp 4) 29 rfl c Chg.zero rfl rfl hc wfZero _ rfl ?_)
  go_ret
  exact ⟨rfl, (Below.refl _ _).alloc (Nat.le_refl _) _⟩
theorem paged_calls (n : Int) (w : World) : Calls Try.prog 113 #[.int .i64 n] w fun e w' => e = .returned (.bool (paged n)) ∧ w = w' := by
  unfold paged
  cases h : decide (0 ≤ n)
  all_goals
    go_enter Try.func113, Try.ntmps113
    go_wp2
    go_ret
    exact ⟨by simp, rfl⟩
theorem before_calls (n l : Int) (w : World) : Calls Try.prog 91 #[.int .i64 n, .int .i64 l] w fun e w' => e = .returned (.bool (before n l)) ∧ w = w' := by
  unfold before
  cases h : decide (0 ≤ n)
  all_goals
    go_enter Try.func91, Try.ntmps91
    go_wp2
    go_ret
    exact ⟨by simp, rfl⟩
theorem beforeE_calls (n : Int) (e : Ent) (w : World) : Calls Try.prog 87 #[.int .i64 n, .agg e.cs] w fun r w' => r = .returned (.bool (before n e.lsn)) ∧ Below w.heap.size w w' := by
  unfold before
  cases h : decide (0 ≤ n)
  all_goals
    go_enter Try.func87, Try.ntmps87
    go_wp2_with fail
    go_ret
    exact ⟨by simp, (Below.refl _ _).alloc (Nat.le_refl _) _⟩
theorem undoRef_calls (e : Ent) (w : World) : Calls Try.prog 105 #[.agg e.cs] w fun r w' => r = .returned (.bool (decide (1 ≤ e.ref) && decide (e.ref ≤ e.ptx))) ∧ Below w.heap.size w w' := by
  cases h : decide (1 ≤ e.ref)
  all_goals
    go_enter Try.func105, Try.ntmps105
    go_wp2_with fail
    go_ret
    exact ⟨by simp, (Below.refl _ _).alloc (Nat.le_refl _) _⟩
theorem validCell_calls (c : Cell) (w : World) : Calls Try.prog 114 #[.agg #[.bool c.set, .string c.data]] w fun e w' => e = .returned (.bool (cellFits c)) ∧ Below w.heap.size w w' := by
  unfold cellFits
  cases h : decide ((c.data.size : Int) ≤ 12) <;> cases h2 : c.set
  all_goals
    go_enter Try.func114, Try.ntmps114
    go_wp2_with fail
    go_ret
    exact ⟨by simp, (Below.refl _ _).alloc (Nat.le_refl _) _⟩
set_option maxHeartbeats 1000000
theorem onlyPage_calls (c : Chg) (hc : ChgWf c) (w : World) : Calls Try.prog 106 #[.agg c.cs] w fun r w' => r = .returned (.bool (decide (c = Chg.only c.page) && paged c.page)) ∧ Below w.heap.size w w' := by
  unfold paged
  obtain ⟨b, hb⟩ : ∃ b, decide (c = Chg.only c.page) = b := ⟨_, rfl⟩
  have HB := Lib.hid hb
  have ho := ChgWf.only hc.page
  rw [hb]
  clear hb
  cases b
  · go_enter Try.func106, Try.ntmps106
    go_wp2_with (refine wpList_eq29 (by rfl) (.tmp 3) (.tmp 6) 29 rfl c (Chg.only c.page) rfl rfl hc ho _ HB.out ?_)
    go_ret
    exact ⟨by simp, (Below.refl _ _).alloc (Nat.le_refl _) _⟩
  · cases h : decide (0 ≤ c.page)
    all_goals
      go_enter Try.func106, Try.ntmps106
      go_wp2_with (refine wpList_eq29 (by rfl) (.tmp 3) (.tmp 6) 29 rfl c (Chg.only c.page) rfl rfl hc ho _ HB.out ?_)
      go_ret
      exact ⟨by simp, (Below.refl _ _).alloc (Nat.le_refl _) _⟩
end
end Go.Proofs.Ytldkgmodmpnclaa
/-! Which changes are valid: the walks, of the program and of the reference. -/
namespace Go.Proofs.Ytldkgmodmpnclaa
open Go.RowKit Go.Proofs
set_option linter.unusedVariables false
set_option linter.unusedSimpArgs false
set_option maxHeartbeats 1000000 in
set_option maxRecDepth 100000 in
theorem chgValid_calls (c : Chg) (w : World) : Calls Try.prog 104 #[.agg c.cs] w fun r w' => r = .returned (.bool (chgOk c)) ∧ Below w.heap.size w w' := by
  unfold chgOk
  have H0 := Lib.hid (fun W => paged_calls c.page W)
  have H1 := Lib.hid (fun W => validCell_calls c.bef W)
  have H2 := Lib.hid (fun W => validCell_calls c.aft W)
  obtain ⟨b0, e0⟩ : ∃ b, paged c.page = b := ⟨_, rfl⟩
  obtain ⟨b1, e1⟩ : ∃ b, cellFits c.bef = b := ⟨_, rfl⟩
  obtain ⟨b2, e2⟩ : ∃ b, cellFits c.aft = b := ⟨_, rfl⟩
  rw [e0] at H0 ⊢
  rw [e1] at H1 ⊢
  rw [e2] at H2 ⊢
  clear e0 e1 e2
  have hb := (Below.refl w.heap.size w).alloc (Nat.le_refl _) (.cells c.cs 29)
  have HBl := Lib.hid hb
  have hn := heap_alloc_new w (.cells c.cs 29)
  obtain ⟨W, hW⟩ : ∃ W, w.alloc (.cells c.cs 29) = W := ⟨_, rfl⟩
  rw [hW] at HBl hn
  have hWs : W.heap.size = w.heap.size + 1 := by rw [← hW]; simp
  have HC := Lib.hid (show ∀ W', Below W.heap.size W W' → W'.cell? ⟨w.heap.size, 2, none⟩ = some (.bool c.bef.set) ∧ W'.cell? ⟨w.heap.size, 3, none⟩ = some (.string c.bef.data) ∧ W'.cell? ⟨w.heap.size, 4, none⟩ = some (.bool c.aft.set) ∧ W'.cell? ⟨w.heap.size, 5, none⟩ = some (.string c.aft.data) from fun W' h => by
    have := (h.block w.heap.size (by omega)).trans hn
    exact ⟨by rw [heap_cell this]; rfl, by rw [heap_cell this]; rfl, by rw [heap_cell this]; rfl, by rw [heap_cell this]; rfl⟩)
  have HW := Lib.hid hW
  clear hb hn hW
  go_enter Try.func104, Try.ntmps104
  go_wp2_with fail
  refine (H0.out _).mono ?_
  rintro e w' ⟨rfl, rfl⟩
  cases b0
  · go_wp2_with fail
    go_ret
    exact ⟨by first | rfl | simp_all, by rw [HW.out]; exact HBl.out⟩
  · cases h1 : decide (0 ≤ c.slot)
    · have G1 := Lib.hid h1
      go_wp2_with fail
      go_ret
      exact ⟨by show Ending.returned (.bool false) = _; rw [G1.out]; rfl, by rw [HW.out]; exact HBl.out⟩
    · have G1 := Lib.hid h1
      cases h2 : decide (c.slot < 16)
      · have G2 := Lib.hid h2
        go_wp2_with fail
        go_ret
        exact ⟨by show Ending.returned (.bool false) = _; rw [G1.out, G2.out]; rfl, by rw [HW.out]; exact HBl.out⟩
      · have G2 := Lib.hid h2
        go_wp2_with fail
        rw [HW.out]
        refine (H1.out _).mono ?_
        rintro e w2 ⟨rfl, hB2⟩
        obtain ⟨k2, k3, k4, k5⟩ := HC.out _ hB2
        have hB3 := HBl.out.trans (hB2.mono (by omega))
        cases b1
        · go_wp2_with fail
          go_ret
          exact ⟨by show Ending.returned (.bool false) = _; rw [G1.out, G2.out]; rfl, hB3⟩
        · go_wp2_with fail
          refine (H2.out _).mono ?_
          rintro e w3 ⟨rfl, hB4⟩
          have hB5 := hB3.trans (hB4.mono hB3.size)
          go_wp2_with fail
          go_ret
          exact ⟨by show Ending.returned (.bool b2) = _; rw [G1.out, G2.out]; simp, hB5⟩
set_option maxHeartbeats 1000000 in
set_option maxRecDepth 100000 in
theorem chgValid03_calls (c : Chg) (w : World) : Calls Try.prog 107 #[.agg c.cs] w fun r w' => r = .returned (.bool (chgOk c)) ∧ Below w.heap.size w w' := by
  unfold chgOk paged
  have H1 := Lib.hid (fun W => validCell02_calls c.bef W)
  have H2 := Lib.hid (fun W => validCell02_calls c.aft W)
  obtain ⟨b1, e1⟩ : ∃ b, cellFits c.bef = b := ⟨_, rfl⟩
  obtain ⟨b2, e2⟩ : ∃ b, cellFits c.aft = b := ⟨_, rfl⟩
  rw [e1] at H1 ⊢
  rw [e2] at H2 ⊢
  clear e1 e2
  have hb := (Below.refl w.heap.size w).alloc (Nat.le_refl _) (.cells c.cs 29)
  have HBl := Lib.hid hb
  have hn := heap_alloc_new w (.cells c.cs 29)
  obtain ⟨W, hW⟩ : ∃ W, w.alloc (.cells c.cs 29) = W := ⟨_, rfl⟩
  rw [hW] at HBl hn
  have hWs : W.heap.size = w.heap.size + 1 := by rw [← hW]; simp
  have HC := Lib.hid (show ∀ W', Below W.heap.size W W' → W'.cell? ⟨w.heap.size, 2, none⟩ = some (.bool c.bef.set) ∧ W'.cell? ⟨w.heap.size, 3, none⟩ = some (.string c.bef.data) ∧ W'.cell? ⟨w.heap.size, 4, none⟩ = some (.bool c.aft.set) ∧ W'.cell? ⟨w.heap.size, 5, none⟩ = some (.string c.aft.data) from fun W' h => by
    have := (h.block w.heap.size (by omega)).trans hn
    exact ⟨by rw [heap_cell this]; rfl, by rw [heap_cell this]; rfl, by rw [heap_cell this]; rfl, by rw [heap_cell this]; rfl⟩)
  have HW := Lib.hid hW
  clear hb hn hW
  cases h00 : decide (0 ≤ c.page)
  · go_enter Try.func107, Try.ntmps107
    go_wp2_with fail
    go_ret
    exact ⟨by first | rfl | simp_all, by rw [HW.out]; exact HBl.out⟩
  cases h01 : decide (c.page < 64)
  · go_enter Try.func107, Try.ntmps107
    go_wp2_with fail
    go_ret
    exact ⟨by first | rfl | simp_all, by rw [HW.out]; exact HBl.out⟩
  cases h1 : decide (0 ≤ c.slot)
  · go_enter Try.func107, Try.ntmps107
    go_wp2_with fail
    go_ret
    exact ⟨by first | rfl | simp_all, by rw [HW.out]; exact HBl.out⟩
  cases h2 : decide (c.slot < 16)
  · go_enter Try.func107, Try.ntmps107
    go_wp2_with fail
    go_ret
    exact ⟨by first | rfl | simp_all, by rw [HW.out]; exact HBl.out⟩
  go_enter Try.func107, Try.ntmps107
  go_wp2_with fail
  rw [HW.out]
  refine (H1.out _).mono ?_
  rintro e w2 ⟨rfl, hB2⟩
  obtain ⟨k2, k3, k4, k5⟩ := HC.out _ hB2
  have hB3 := HBl.out.trans (hB2.mono (by omega))
  cases b1
  · go_wp2_with fail
    go_ret
    exact ⟨by first | rfl | simp_all, hB3⟩
  · go_wp2_with fail
    refine (H2.out _).mono ?_
    rintro e w3 ⟨rfl, hB4⟩
    have hB5 := hB3.trans (hB4.mono hB3.size)
    go_wp2_with fail
    go_ret
    exact ⟨by first | (simp; done) | simp_all, hB5⟩
end Go.Proofs.Ytldkgmodmpnclaa
