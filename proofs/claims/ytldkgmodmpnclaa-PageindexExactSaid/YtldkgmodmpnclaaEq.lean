import Derived.Test.YtldkgmodmpnclaaPlainC
import Derived.DeepKeys
import Derived.OrdersHeld
import Derived.Deep.RegionHeld3
namespace Go.Proofs.Ytldkgmodmpnclaa
open Go.RowKit Go.Proofs
set_option linter.unusedVariables false
set_option linter.unusedSimpArgs false
theorem drop_take2 {l : List Value} {k : Nat} {a b : Value} (h1 : l[k]? = some a) (h2 : l[k + 1]? = some b) : (l.drop k).take 2 = [a, b] := by
  apply List.ext_getElem?
  intro i
  rw [List.getElem?_take]
  rcases i with _ | _ | i
  · simp [h1]
  · simp [h2]
  · rw [if_neg (by omega)]
    rfl
theorem mapM_some {α β : Type} (f : α → Option β) (g : α → β) : ∀ (l : List α), (∀ x ∈ l, f x = some (g x)) → l.mapM f = some (l.map g)
  | [], _ => rfl
  | x :: l, h => by
    rw [List.mapM_cons, h x (by simp), mapM_some f g l (fun y hy => h y (by simp [hy]))]
    rfl
def cellL (c : Cell) : List Lit := [.bool c.set, .string c.data.data.toList]
theorem keyLits27 (c : Cell) (h : c.data.size ≤ maxLen) : Try.prog.keyLits 2 27 [.bool c.set, .string c.data] = some (cellL c) := by
  have e1 : Try.prog.keyLits 1 4 [.bool c.set] = some [.bool c.set] := by kernel_rfl
  have e2 : Try.prog.keyLits 1 9 [.string c.data] = if c.data.size ≤ maxLen then some [.string c.data.data.toList] else none := by kernel_rfl
  rw [if_pos h] at e2
  have e3 : Try.prog.keyLits 2 27 [.bool c.set, .string c.data] = ((Try.prog.keyLits 1 4 [.bool c.set]).bind fun a => (Try.prog.keyLits 1 9 [.string c.data]).bind fun b => some [a, b]).map List.flatten := by kernel_rfl
  rw [e3, e1, e2]
  rfl
theorem cellsOf57 : Try.prog.cellsOf 57 = 32 := by kernel_rfl
theorem cellsOf27 : Try.prog.cellsOf 27 = 2 := by kernel_rfl
theorem cellsOf59 : Try.prog.cellsOf 59 = 34 := by kernel_rfl
def cellsL (l : List Cell) : List Lit := ((List.range 16).map fun i => cellL (l.getD i Cell.none)).flatten
theorem keyLits57 (l : List Cell) (hl : l.length = 16) (h : ∀ c ∈ l, c.data.size ≤ maxLen) : Try.prog.keyLits 3 57 (cellsV l) = some (cellsL l) := by
  unfold Program.keyLits
  rw [Try.underlying57]
  simp only [cellsOf57, cellsOf27]
  rw [if_pos (by rw [cellsV_length, hl])]
  rw [mapM_some _ (fun i => cellL (l.getD i Cell.none))]
  · rfl
  · intro i hi
    have hi' : i < l.length := by rw [hl]; simpa using hi
    obtain ⟨h1, h2⟩ := cellsV_set l i hi'
    rw [show i * 2 = 2 * i by omega, drop_take2 h1 h2]
    refine keyLits27 _ (h _ ?_)
    rw [List.getD_eq_getElem?_getD, List.getElem?_eq_getElem hi']
    exact List.getElem_mem hi'
/-- Numbers of their kind, strings that may be. -/
structure PgWf (p : Page) : Prop where
  id : (Lit.int .i64 p.id).wf = true
  lsn : (Lit.int .i64 p.lsn).wf = true
  data : ∀ c ∈ p.cells, c.data.size ≤ maxLen
def pageL (p : Page) : List Lit := .int .i64 p.id :: .int .i64 p.lsn :: cellsL p.cells
theorem keyLits59 (p : Page) (h : PgWf p) : Try.prog.keyLits 4 59 (pageC p).toList = some (pageL p) := by
  have e1 : Try.prog.keyLits 3 3 [.int .i64 p.id] = if IntKind.i64 = IntKind.i64 ∧ (Lit.int .i64 p.id).wf = true then some [.int .i64 p.id] else none := by kernel_rfl
  have e2 : Try.prog.keyLits 3 3 [.int .i64 p.lsn] = if IntKind.i64 = IntKind.i64 ∧ (Lit.int .i64 p.lsn).wf = true then some [.int .i64 p.lsn] else none := by kernel_rfl
  rw [if_pos ⟨rfl, h.id⟩] at e1
  rw [if_pos ⟨rfl, h.lsn⟩] at e2
  have e3 := keyLits57 p.cells p.len h.data
  unfold Program.keyLits
  rw [Try.underlying59]
  simp only [cellsOf59]
  rw [if_pos ⟨by rw [Array.length_toList, pageC_size], by kernel_rfl⟩]
  have t0 : ((pageC p).toList.drop 0).take 1 = [.int .i64 p.id] := rfl
  have t1 : ((pageC p).toList.drop 1).take 1 = [.int .i64 p.lsn] := rfl
  have t2 : ((pageC p).toList.drop 2).take 32 = cellsV p.cells := by
    show (cellsV p.cells).take 32 = _
    rw [List.take_of_length_le (by rw [cellsV_length, p.len]; omega)]
  have c3 : Try.prog.cellsOf 3 = 1 := by kernel_rfl
  simp only [List.mapM_cons, List.mapM_nil, c3, cellsOf57, t0, t1, t2, e1, e2, e3]
  simp [pageL]
theorem cellL_inj {c d : Cell} (h : cellL c = cellL d) : c = d := by
  cases c; cases d
  simp [cellL] at h
  obtain ⟨h1, h2⟩ := h
  rw [h1]
  congr 1
  exact ByteArray.ext h2
theorem cellsL_inj {l m : List Cell} (hl : l.length = 16) (hm : m.length = 16) (h : cellsL l = cellsL m) : l = m := by
  have key : ∀ (is : List Nat), (is.map fun i => cellL (l.getD i Cell.none)).flatten = (is.map fun i => cellL (m.getD i Cell.none)).flatten → ∀ i ∈ is, l.getD i Cell.none = m.getD i Cell.none := by
    intro is
    induction is with
    | nil => simp
    | cons i is ih =>
      intro h j hj
      simp only [List.map_cons, List.flatten_cons] at h
      have := List.append_inj h (by simp [cellL])
      rcases List.mem_cons.1 hj with rfl | hj
      · exact cellL_inj this.1
      · exact ih this.2 j hj
  apply List.ext_getElem (by rw [hl, hm])
  intro i h1 h2
  have := key _ h i (by simp; omega)
  simpa [List.getD_eq_getElem?_getD, h1, h2] using this
theorem pageL_inj {p q : Page} (h : pageL p = pageL q) : p = q := by
  simp only [pageL, List.cons.injEq, Lit.int.injEq, true_and] at h
  exact Page.ext' h.1 h.2.1 (cellsL_inj p.len q.len h.2.2)
theorem formed59 (p : Page) : (Value.agg (pageC p)).formed Try.prog 59 = true := by
  unfold Value.formed
  rw [Try.underlying59]
  simp only [cellsOf59, pageC_size]
  rfl
set_option maxRecDepth 100000 in
theorem eqAt59 : EqAt Try.prog 10000 59 := by
  obtain ⟨d, hd⟩ : ∃ d : Nat, d + 4 = 10000 := ⟨9996, by omega⟩
  exact hd ▸ run_equalIn_deep (P := Try.prog) d 4 59 (by kernel_rfl)
set_option maxRecDepth 100000 in
/-- Two pages are equal as Go's '==' says. -/
theorem eq59 (p q : Page) (hp : PgWf p) (hq : PgWf q) (w : World) : (Op.equalIn 10000 59 (.agg (pageC p)) (.agg (pageC q))).run Try.prog w = .ok (decide (p = q)) w := by
  obtain ⟨r, h1, h2⟩ := eqAt59 w 4 4 (.agg (pageC p)) (.agg (pageC q)) (pageL p) (pageL q) (formed59 p) (formed59 q) (keyLits59 p hp) (keyLits59 q hq)
  rw [h1]
  congr 1
  by_cases e : p = q
  · rw [h2.2 (by rw [e])]; simp [e]
  · cases r
    · simp [e]
    · exact absurd (pageL_inj (h2.1 rfl)) e
theorem stood59 : Try.prog.stoodInHeld 59 = false := by kernel_rfl
theorem guard59 : Try.prog.eqGuardType Try.prog.depth 59 = false := by kernel_rfl
theorem run_eq59 (p q : Page) (hp : PgWf p) (hq : PgWf q) (w : World) : (binOp .eql 59 (.agg (pageC p)) (.agg (pageC q))).run Try.prog w = .ok (.bool (decide (p = q))) w := by
  rw [run_eql_struct, eq59 p q hp hq]
  rfl
theorem run_ne59 (p q : Page) (hp : PgWf p) (hq : PgWf q) (w : World) : (binOp .neq 59 (.agg (pageC p)) (.agg (pageC q))).run Try.prog w = .ok (.bool (!decide (p = q))) w := by
  rw [run_neq_struct, eq59 p q hp hq]
  rfl
theorem wpList_eq59 {ops : Array Oper} {rest : List Oper} {o : Oper} {a : Act} {w : World} {Q : Exit → Act → World → Prop} (hw : Region.wanted o (yielded ops a.tmps) = true) (x y : Operand) (ty : TypeId) (ho : o.op = .binOp .eql 59 x y ty)
    (p q : Page) (hx : a.eval x = .agg (pageC p)) (hy : a.eval y = .agg (pageC q)) (hp : PgWf p) (hq : PgWf q)
    (h : wpList Try.prog ops Q rest (a.put o.dst (.bool (decide (p = q)))) w) : wpList Try.prog ops Q (o :: rest) a w :=
  wpList_step fun K hK => by
    rw [if_pos hw]
    unfold Oper.wp execOp
    simp only [ho, hx, hy, Sem.run_bind, run_eqGuard_agg _ _ _ _ _ _ _ guard59, Result.andThen_ok, run_eq59 p q hp hq, Sem.run_pure]
    exact hK _ _ h
/-! ### In a region that draws its order -/
theorem yields_page {ops : Array Oper} {S : World → Prop} {o : Oper} {a : Act} (hw : Region.wanted o (yielded ops a.tmps) = true) (x : Operand) (ho : o.op = .load 59 x) (b : Nat) (hx : a.eval x = .pointer (some ⟨b, 0, none⟩)) (p : Page)
    (hS : ∀ w, S w → PgAt w b p) : YieldsIf Try.prog ops S o (.agg (pageC p)) a :=
  .inl ⟨hw, fun w h => by
    unfold execOp
    simp only [ho, hx, Instr.loadAt, Instr.sureAddr, Sem.run_bind, Sem.run_pure, Result.andThen_ok, run_loadVar_row w b 59 59 (pageC p) (0, 0) _ (hS w h).out Try.underlying59 rfl (page_size p)]⟩
theorem yields_eq59 {ops : Array Oper} {S : World → Prop} {o : Oper} {a : Act} (hw : Region.wanted o (yielded ops a.tmps) = true) (x y : Operand) (ty : TypeId) (ho : o.op = .binOp .eql 59 x y ty)
    (p q : Page) (hx : a.eval x = .agg (pageC p)) (hy : a.eval y = .agg (pageC q)) (hp : PgWf p) (hq : PgWf q) {b : Bool} (hb : decide (p = q) = b) : YieldsIf Try.prog ops S o (.bool b) a :=
  .inl ⟨hw, fun w h => by
    subst hb
    unfold execOp
    simp only [ho, hx, hy, Sem.run_bind, run_eqGuard_agg _ _ _ _ _ _ _ guard59, Result.andThen_ok, run_eq59 p q hp hq, Sem.run_pure]⟩
theorem yields_ne59 {ops : Array Oper} {S : World → Prop} {o : Oper} {a : Act} (hw : Region.wanted o (yielded ops a.tmps) = true) (x y : Operand) (ty : TypeId) (ho : o.op = .binOp .neq 59 x y ty)
    (p q : Page) (hx : a.eval x = .agg (pageC p)) (hy : a.eval y = .agg (pageC q)) (hp : PgWf p) (hq : PgWf q) {b : Bool} (hb : (!decide (p = q)) = b) : YieldsIf Try.prog ops S o (.bool b) a :=
  .inl ⟨hw, fun w h => by
    subst hb
    unfold execOp
    simp only [ho, hx, hy, Sem.run_bind, run_eqGuard_agg _ _ _ _ _ _ _ guard59, Result.andThen_ok, run_ne59 p q hp hq, Sem.run_pure]⟩
/-- A valid page's numbers and strings are such as may be. -/
theorem PgWf.ok {p : Page} (h : pageOk p = true) : PgWf p := by
  unfold pageOk placed at h
  simp only [Bool.and_eq_true, named, lsnOk, decide_eq_true_eq] at h
  obtain ⟨⟨h1, h2⟩, hc⟩ := h
  refine ⟨WalkArith.wf_i64 (by omega), WalkArith.wf_i64 (by omega), fun c hm => ?_⟩
  have := cellsOk_data hc c hm
  simp only [maxLen]
  omega
theorem PgWf.new {n : Int} (h : (Lit.int .i64 n).wf = true) : PgWf (Page.new n) := by
  refine ⟨h, (show (Lit.int .i64 0).wf = true by decide), fun c hm => ?_⟩
  obtain rfl := (List.mem_replicate.1 hm).2
  show (0 : Nat) ≤ maxLen
  simp [maxLen]
end Go.Proofs.Ytldkgmodmpnclaa
