/- The words that this seat's texts share: cells, pages, entries and rows as plain data, numbers of fixed length as bytes, and small laws on worlds. Nothing here speaks of the program but by its types' numbers. -/
import Derived.Test.YtldkgmodmpnclaaProg
import Derived.Laws.CopyOwn
import Derived.Deep.WholeRow
import Derived.Deep.MidRow
import Derived.WalkKit
import Derived.KernelRfl
import Derived.RowKit3
import Derived.Deep.QuietTactic
import Derived.BigQuiet
import Derived.Deep.LoopGhost
import Derived.Deep.DeepCutAuto
import Derived.Deep.CutBlock
import Derived.Lib.Hide
import Derived.WalkSpells
import Derived.WalkLawsBesides
namespace Go.Proofs.Ytldkgmodmpnclaa
open Go.RowKit

/-- The byte number j of a number of 64 bits, the least first. -/
def leByte (n : Int) (j : Nat) : UInt8 := UInt8.ofNat (IntKind.u64.wrap n / 2 ^ (8 * j) % 256).toNat
/-- The first k bytes of a number. -/
def leB (n : Int) (k : Nat) : ByteArray := ⟨((List.range k).map (leByte n)).toArray⟩
theorem leB_zero (n : Int) : leB n 0 = ByteArray.empty := rfl
theorem leB_size (n : Int) (k : Nat) : (leB n k).size = k := by simp [leB, ByteArray.size]
theorem leB_succ (n : Int) (k : Nat) : leB n (k + 1) = leB n k ++ ⟨#[leByte n k]⟩ := by
  unfold leB
  rw [List.range_succ, List.map_append]
  apply ByteArray.ext
  simp [ByteArray.data_append]
/-- What Put answers. -/
def putS (s : ByteArray) (n size : Int) : ByteArray := if 1 ≤ size ∧ size ≤ 8 then s ++ leB n size.toNat else s
theorem putS_ok (s : ByteArray) (n : Int) (k : Nat) (h1 : 1 ≤ k) (h2 : k ≤ 8) : putS s n k = s ++ leB n k := by
  unfold putS
  rw [if_pos ⟨by omega, by omega⟩]
  simp

theorem conv_byte1 (w : World) (x : Int) : (convert 22 9 (.slice (some ⟨w.heap.size, 0, none⟩) 1 1)).run Try.prog (w.alloc (.cells #[.int .u8 x] 5)) =
    .ok (.string ⟨#[UInt8.ofNat x.toNat]⟩) (w.alloc (.cells #[.int .u8 x] 5)) := by
  have h := run_convert_bytes_arg (P := Try.prog) (w.alloc (.cells #[.int .u8 x] 5)) 22 5 Try.underlying22 Try.underlying5 w.heap.size 0 1 1 [x] rfl
    (fun i hi => by
      obtain rfl : i = 0 := by omega
      simp) 9 Try.underlying9
  simpa [strOfNums] using h

/-- The byte at an index; 0 beyond. -/
def bt (s : ByteArray) (i : Nat) : UInt8 := s.data.toList.getD i 0
theorem bt_get (s : ByteArray) (i : Nat) (h : i < s.size) : s[i] = bt s i := by
  unfold bt
  simp only [List.getD_eq_getElem?_getD, Array.getElem?_toList]
  rw [Array.getElem?_eq_getElem (by simpa using h)]
  rfl
theorem take_bt (s : ByteArray) (j : Nat) (h : j < s.size) : s.data.toList.take (j + 1) = s.data.toList.take j ++ [bt s j] := by
  rw [List.take_succ_eq_append_getElem (by simpa using h)]
  simp [bt, List.getD_eq_getElem?_getD, h]
theorem heap_cell {w : World} {g : Nat} {cs : Array Value} {t : TypeId} {fr : Nat × Nat} (h : w.heap[g]? = some (.cells cs t fr)) (j : Nat) : w.cell? ⟨g, j, none⟩ = cs[j]? := by simp [World.cell?, h]
theorem heap_free {w : World} {g : Nat} {cs : Array Value} {t : TypeId} (h : w.heap[g]? = some (.cells cs t (0, 0))) (j : Nat) : w.frozen? ⟨g, j, none⟩ = false := by simp [World.frozen?, h]
theorem heap_lt {w : World} {g : Nat} {o : Obj} (h : w.heap[g]? = some o) : g < w.heap.size := by
  rcases Nat.lt_or_ge g w.heap.size with h' | h'
  · exact h'
  · simp [Array.getElem?_eq_none h'] at h

theorem ret_str {a b : ByteArray} (h : a = b) : Ending.returned (.string a) = .returned (.string b) := by rw [h]
theorem ret_int {k : IntKind} {a b : Int} (h : a = b) : Ending.returned (.int k a) = .returned (.int k b) := by rw [h]
theorem ret_bool {a b : Bool} (h : a = b) : Ending.returned (.bool a) = .returned (.bool b) := by rw [h]
end Go.Proofs.Ytldkgmodmpnclaa
