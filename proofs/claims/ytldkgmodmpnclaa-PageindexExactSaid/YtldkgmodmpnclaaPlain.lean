/- Pages and their bytes as plain data: what is valid, the bytes, and what bytes mean. -/
import Derived.Test.YtldkgmodmpnclaaBase
import Derived.Test.YtldkgmodmpnclaaCrc
namespace Go.Proofs.Ytldkgmodmpnclaa
open Go.RowKit

/-- A cell: whether it is set, and its data. -/
structure Cell where
  set : Bool
  data : ByteArray
  deriving DecidableEq
/-- A page: its ID, its LSN and its sixteen cells. -/
structure Page where
  id : Int
  lsn : Int
  cells : List Cell
  len : cells.length = 16
theorem Page.ext' {p q : Page} (h1 : p.id = q.id) (h2 : p.lsn = q.lsn) (h3 : p.cells = q.cells) : p = q := by
  cases p; cases q; simp_all
instance : DecidableEq Page := fun p q =>
  if h : p.id = q.id ∧ p.lsn = q.lsn ∧ p.cells = q.cells then .isTrue (Page.ext' h.1 h.2.1 h.2.2) else .isFalse (fun e => h (by subst e; exact ⟨rfl, rfl, rfl⟩))

def Cell.none : Cell := ⟨false, ByteArray.empty⟩
/-- The page that was never written. -/
def Page.new (id : Int) : Page := ⟨id, 0, List.replicate 16 Cell.none, by simp⟩
def Page.zero : Page := Page.new 0
/-- A page with another cell. -/
def Page.put (p : Page) (i : Nat) (c : Cell) : Page := ⟨p.id, p.lsn, p.cells.set i c, by simp [p.len]⟩
/-- The cell with an index. -/
def Page.at (p : Page) (i : Nat) : Cell := p.cells.getD i Cell.none

/-- The values of cells, one after the other. -/
def cellsV (l : List Cell) : List Value := l.flatMap fun c => [.bool c.set, .string c.data]
/-- The value's cells of a page. -/
def pageC (p : Page) : Array Value := (.int .i64 p.id :: .int .i64 p.lsn :: cellsV p.cells).toArray
theorem cellsV_length (l : List Cell) : (cellsV l).length = 2 * l.length := by
  induction l with
  | nil => rfl
  | cons c l ih => simp [cellsV] at ih ⊢; omega
theorem pageC_size (p : Page) : (pageC p).size = 34 := by
  simp [pageC, cellsV_length, p.len]
theorem pageC_0 (p : Page) : (pageC p)[0]? = some (.int .i64 p.id) := rfl
theorem pageC_1 (p : Page) : (pageC p)[1]? = some (.int .i64 p.lsn) := rfl
theorem cellsV_set (l : List Cell) (i : Nat) (h : i < l.length) : (cellsV l)[2 * i]? = some (.bool (l.getD i Cell.none).set) ∧ (cellsV l)[2 * i + 1]? = some (.string (l.getD i Cell.none).data) := by
  induction l generalizing i with
  | nil => simp at h
  | cons c l ih =>
    cases i with
    | zero => exact ⟨rfl, rfl⟩
    | succ i =>
      have := ih i (by simpa using h)
      rw [show 2 * (i + 1) = 2 * i + 2 by omega]
      exact this
theorem pageC_set (p : Page) (i : Nat) (h : i < 16) : (pageC p)[2 + 2 * i]? = some (.bool (p.at i).set) := by
  have := (cellsV_set p.cells i (by rw [p.len]; exact h)).1
  show ((Value.int IntKind.i64 p.id :: .int .i64 p.lsn :: cellsV p.cells).toArray)[2 + 2 * i]? = _
  rw [List.getElem?_toArray, show 2 + 2 * i = 2 * i + 1 + 1 by omega]
  exact this
theorem pageC_data (p : Page) (i : Nat) (h : i < 16) : (pageC p)[2 + 2 * i + 1]? = some (.string (p.at i).data) := by
  have := (cellsV_set p.cells i (by rw [p.len]; exact h)).2
  show ((Value.int IntKind.i64 p.id :: .int .i64 p.lsn :: cellsV p.cells).toArray)[2 + 2 * i + 1]? = _
  rw [List.getElem?_toArray, show 2 + 2 * i + 1 = 2 * i + 1 + 1 + 1 by omega]
  exact this
theorem cellsV_oneCell (l : List Cell) : ∀ v ∈ cellsV l, v.oneCell' = true := by
  intro v hv
  simp only [cellsV, List.mem_flatMap] at hv
  obtain ⟨c, _, hc⟩ := hv
  simp at hc
  rcases hc with rfl | rfl <;> rfl
theorem pageC_oneCell (p : Page) : (pageC p).all (·.oneCell') = true := by
  refine all_oneCell_toArray ?_
  intro v hv
  simp only [List.mem_cons] at hv
  rcases hv with rfl | rfl | hv
  · rfl
  · rfl
  · exact cellsV_oneCell _ v hv

/-! ### What is valid -/
def named (id : Int) : Bool := decide (0 ≤ id) && decide (id < 64)
def lsnOk (n : Int) : Bool := decide (0 ≤ n) && decide (n ≤ 1099511627776)
def placed (p : Page) : Bool := named p.id && lsnOk p.lsn
def cellFits (c : Cell) : Bool := decide ((c.data.size : Int) ≤ 12) && (c.set || c.data.toList.isEmpty)
def cellOk (lsn : Int) (c : Cell) : Bool := cellFits c && !(c.set && decide (lsn = 0))
def cellsOk (p : Page) : Bool := p.cells.all (cellOk p.lsn)
def pageOk (p : Page) : Bool := placed p && cellsOk p

/-! ### The bytes -/
def zeros (n : Nat) : ByteArray := ⟨Array.replicate n 0⟩
theorem zeros_size (n : Nat) : (zeros n).size = n := by simp [zeros, ByteArray.size]
def cellN (c : Cell) : Int := if c.set then c.data.size else 255
def encCell (c : Cell) : ByteArray := leB (cellN c) 1 ++ (c.data ++ zeros (12 - c.data.size))
def encCells (l : List Cell) : ByteArray := l.foldl (fun s c => s ++ encCell c) ByteArray.empty
theorem encCells_snoc (l : List Cell) (c : Cell) : encCells (l ++ [c]) = encCells l ++ encCell c := by simp [encCells]
theorem encCell_size (c : Cell) (h : c.data.size ≤ 12) : (encCell c).size = 13 := by
  simp [encCell, ByteArray.size_append, leB_size, zeros_size]
  omega
theorem encCells_size (l : List Cell) (h : ∀ c ∈ l, c.data.size ≤ 12) : (encCells l).size = 13 * l.length := by
  obtain ⟨r, rfl⟩ : ∃ r, l = r.reverse := ⟨l.reverse, by simp⟩
  induction r with
  | nil => rfl
  | cons c r ih =>
    rw [List.reverse_cons, encCells_snoc, ByteArray.size_append, ih (fun c hc => h c (by simp at hc ⊢; exact .inl hc)), encCell_size c (h c (by simp))]
    simp
    omega
/-- The bytes ahead of the checksum. -/
def encHead (p : Page) : ByteArray := leB p.lsn 8 ++ leB p.id 4
def encBody (p : Page) : ByteArray := encHead p ++ encCells p.cells ++ zeros 24
def encBytes (p : Page) : ByteArray := encBody p ++ leB (sumN (encBody p)) 4 ++ leB p.lsn 8
/-- The error of a page. -/
def pageErr (p : Page) : Int := if placed p then (if cellsOk p then 0 else 22) else 1
/-- What Encode answers. -/
def encP (p : Page) : ByteArray := if pageOk p then encBytes p else ByteArray.empty

theorem cellsOk_data {p : Page} (h : cellsOk p = true) : ∀ c ∈ p.cells, c.data.size ≤ 12 := by
  intro c hc
  have := List.all_eq_true.1 h c hc
  simp only [cellOk, cellFits, Bool.and_eq_true, decide_eq_true_eq] at this
  omega
theorem encHead_size (p : Page) : (encHead p).size = 12 := by simp [encHead, ByteArray.size_append, leB_size]
theorem encBody_size {p : Page} (h : cellsOk p = true) : (encBody p).size = 244 := by
  simp [encBody, ByteArray.size_append, encHead_size, encCells_size _ (cellsOk_data h), zeros_size, p.len]
theorem encBytes_size {p : Page} (h : cellsOk p = true) : (encBytes p).size = 256 := by
  simp [encBytes, ByteArray.size_append, encBody_size h, leB_size]
end Go.Proofs.Ytldkgmodmpnclaa
