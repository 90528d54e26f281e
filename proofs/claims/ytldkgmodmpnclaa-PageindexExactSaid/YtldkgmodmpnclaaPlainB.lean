/- What bytes mean as a page, as plain data; and numbers out of bytes. -/
import Derived.Test.YtldkgmodmpnclaaPlain
import Derived.Test.YtldkgmodmpnclaaCodec
namespace Go.Proofs.Ytldkgmodmpnclaa
open Go.RowKit
set_option linter.unusedVariables false

/-- The number of k bytes from an index on, the least byte first. -/
def leN (s : ByteArray) (p : Nat) : Nat → Nat
  | 0 => 0
  | k + 1 => 2 ^ (8 * k) * (bt s (p + k)).toNat + leN s p k
theorem leN_lt (s : ByteArray) (p k : Nat) : leN s p k < 2 ^ (8 * k) := by
  induction k with
  | zero => simp [leN]
  | succ k ih =>
    have hb := byte_lt (bt s (p + k))
    have h1 : 2 ^ (8 * k) * (bt s (p + k)).toNat ≤ 2 ^ (8 * k) * 255 := Nat.mul_le_mul_left _ (by omega)
    have h2 : 2 ^ (8 * (k + 1)) = 2 ^ (8 * k) * 256 := by rw [show 8 * (k + 1) = 8 * k + 8 by omega, Nat.pow_add]
    simp only [leN]
    rw [h2]
    omega
theorem u64_wrap_nat (n : Nat) (h : n < 2 ^ 64) : IntKind.u64.wrap (n : Int) = (n : Int) := by
  have hw : IntKind.u64.wrap (n : Int) = (n : Int) % 18446744073709551616 := by simp [IntKind.wrap, IntKind.bits, IntKind.signed]
  rw [hw]
  have : (2 : Nat) ^ 64 = 18446744073709551616 := rfl
  omega
theorem bits_or64 {a b : Nat} (ha : a < 2 ^ 64) (hb : b < 2 ^ 64) : bits .or .u64 (a : Int) (b : Int) = ((a ||| b : Nat) : Int) := by
  refine (bits_nat .u64 64 (by decide) (fun n h0 h1 => ?_) a b ha hb).2
  obtain ⟨m, rfl⟩ := Int.eq_ofNat_of_zero_le h0
  exact u64_wrap_nat m (by exact_mod_cast h1)
theorem pow8_le {k : Nat} (h : k + 1 ≤ 8) : 2 ^ (8 * k) * 256 ≤ 2 ^ 64 := by
  rw [show (256 : Nat) = 2 ^ 8 from rfl, ← Nat.pow_add]
  exact Nat.pow_le_pow_right (by decide) (by omega)
theorem getU_eq (s : ByteArray) (p k : Nat) (h : k ≤ 8) : getU s p k = (leN s p k : Int) := by
  induction k with
  | zero => rfl
  | succ k ih =>
    have hb := byte_lt (bt s (p + k))
    have hp := pow8_le h
    have hlt : (bt s (p + k)).toNat * 2 ^ (8 * k) < 2 ^ 64 := by
      have : (bt s (p + k)).toNat * 2 ^ (8 * k) < 256 * 2 ^ (8 * k) := Nat.mul_lt_mul_of_pos_right hb (Nat.two_pow_pos _)
      rw [Nat.mul_comm 256] at this
      omega
    have hl := leN_lt s p k
    simp only [getU, ih (by omega)]
    rw [u64_wrap_nat _ (by have : (256 : Nat) ≤ 2 ^ 64 := by decide
                           omega)]
    have hc : ((bt s (p + k)).toNat : Int) * 2 ^ (8 * k) = (((bt s (p + k)).toNat * 2 ^ (8 * k) : Nat) : Int) := by
      rw [Int.natCast_mul, Int.natCast_pow]
      rfl
    rw [hc, u64_wrap_nat _ hlt, bits_or64 (Nat.lt_of_lt_of_le hl (by omega)) hlt]
    congr 1
    simp only [leN]
    rw [Nat.two_pow_add_eq_or_of_lt hl, Nat.or_comm, Nat.mul_comm]
theorem wrap64_small (n : Nat) (h : n < 2 ^ 63) : wrap64 (n : Int) = (n : Int) := by
  have : (2 : Nat) ^ 63 = 9223372036854775808 := rfl
  unfold wrap64
  omega
theorem getV_small (s : ByteArray) (p k : Nat) (h : k ≤ 7) : getV s p k = (leN s p k : Int) := by
  unfold getV
  rw [getU_eq s p k (by omega)]
  refine wrap64_small _ (Nat.lt_of_lt_of_le (leN_lt s p k) ?_)
  exact Nat.pow_le_pow_right (by decide) (by omega)
theorem getV_one (s : ByteArray) (p : Nat) : getV s p 1 = ((bt s p).toNat : Int) := by
  rw [getV_small s p 1 (by omega)]
  simp [leN]

/-! ### What bytes mean -/
def cellLen (s : ByteArray) (i : Nat) : Nat := (bt s (12 + 13 * i)).toNat
def rdCell (s : ByteArray) (i : Nat) : Cell := if cellLen s i = 255 then Cell.none else ⟨true, s.extract (12 + 13 * i + 1) (12 + 13 * i + 1 + cellLen s i)⟩
def rdOk (s : ByteArray) (i : Nat) : Bool := decide (cellLen s i = 255) || decide (cellLen s i ≤ 12)
/-- The page of which the first j cells are read. -/
def rdPage (s : ByteArray) (j : Nat) : Page := ⟨getV s 8 4, getV s 0 8, (List.range 16).map fun i => if i < j then rdCell s i else Cell.none, by simp⟩
theorem rdPage_put (s : ByteArray) (j : Nat) (h : j < 16) : (rdPage s j).put j (rdCell s j) = rdPage s (j + 1) := by
  refine Page.ext' rfl rfl ?_
  simp only [rdPage, Page.put]
  apply List.ext_getElem
  · simp
  · intro i h1 h2
    rw [List.getElem_set]
    simp only [List.getElem_map, List.getElem_range]
    by_cases hij : j = i
    · subst hij
      simp
    · rw [if_neg hij]
      by_cases hlt : i < j
      · rw [if_pos hlt, if_pos (by omega)]
      · rw [if_neg hlt, if_neg (by omega)]
theorem rdPage_skip (s : ByteArray) (j : Nat) (h : cellLen s j = 255) : rdPage s (j + 1) = rdPage s j := by
  refine Page.ext' rfl rfl ?_
  simp only [rdPage]
  apply List.map_congr_left
  intro i _
  by_cases hlt : i < j
  · rw [if_pos hlt, if_pos (by omega)]
  · rw [if_neg hlt]
    by_cases hij : i = j
    · subst hij
      rw [if_pos (by omega)]
      unfold rdCell
      rw [if_pos h]
    · rw [if_neg (by omega)]
/-- All cells have a length that may be. -/
def rdAll (s : ByteArray) : Bool := (List.range 16).all (rdOk s)
theorem rdAll_not {s : ByteArray} {j : Nat} (h : j < 16) (hk : rdOk s j = false) : rdAll s = false := by
  unfold rdAll
  rw [List.all_eq_false]
  exact ⟨j, by simpa using h, by simp [hk]⟩
theorem rdAll_yes {s : ByteArray} (h : ∀ i, i < 16 → rdOk s i = true) : rdAll s = true := by
  unfold rdAll
  rw [List.all_eq_true]
  intro i hi
  exact h i (by simpa using hi)
/-- What bytes mean as a page: the page, and the error. -/
def decP (s : ByteArray) : Page × Int :=
  if s.size ≠ 256 then (Page.zero, 2)
  else if s = zeros 256 then (Page.zero, 7)
  else if s.extract 0 8 ≠ s.extract 248 256 then (Page.zero, 27)
  else if leN s 244 4 ≠ sumN (s.extract 0 244) then (Page.zero, 3)
  else if rdAll s = true ∧ pageOk (rdPage s 16) = true ∧ encBytes (rdPage s 16) = s then (rdPage s 16, 0)
  else (Page.zero, 4)
/-- What is read where a page has to be. -/
def idP (s : ByteArray) (id : Int) : Page × Int :=
  if named id = false then (Page.zero, 1)
  else if (decP s).2 = 7 then (Page.new id, 0)
  else if (decP s).2 ≠ 0 then (Page.zero, (decP s).2)
  else if (decP s).1.id ≠ id then (Page.zero, 6)
  else ((decP s).1, 0)
end Go.Proofs.Ytldkgmodmpnclaa
