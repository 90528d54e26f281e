/- Plain law of PageDamage: bytes in which one byte was changed are refused, also blank ones. -/
import Derived.Test.YtldkgmodmpnclaaPlainT
namespace Go.Proofs.Ytldkgmodmpnclaa
open Go.RowKit Go.Proofs
set_option linter.unusedVariables false
set_option linter.unusedSimpArgs false
/-- One bit back. -/
def bback (c : Nat) : Nat := if 2147483648 ≤ c then ((c ^^^ poly) * 2) + 1 else c * 2
def bbacks : Nat → Nat → Nat
  | 0, c => c
  | k + 1, c => bbacks k (bback c)
theorem bback_step (c : Nat) (h : c < 4294967296) : bback (bstep c) = c := by
  unfold bstep bback
  have h2 : c / 2 < 2147483648 := by omega
  split
  · rename_i h1
    have hx : 2147483648 ≤ c / 2 ^^^ poly := by
      have hb : (c / 2 ^^^ poly).testBit 31 = true := by
        rw [Nat.testBit_xor, Nat.testBit_lt_two_pow (by simpa using h2)]
        decide
      have := Nat.ge_two_pow_of_testBit hb
      simpa using this
    rw [if_pos hx, Nat.xor_assoc, Nat.xor_self, Nat.xor_zero]
    omega
  · rw [if_neg (by omega)]
    omega
theorem bback_steps (k c : Nat) (h : c < 4294967296) : bbacks k (bsteps k c) = c := by
  induction k with
  | zero => rfl
  | succ k ih =>
    show bbacks k (bback (bstep (bsteps k c))) = c
    rw [bback_step _ (bsteps_lt k h), ih]
theorem bsteps_inj {k a b : Nat} (ha : a < 4294967296) (hb : b < 4294967296) (h : bsteps k a = bsteps k b) : a = b := by
  rw [← bback_steps k a ha, h, bback_steps k b hb]
theorem xor_left_inj {a b c : Nat} (h : a ^^^ b = a ^^^ c) : b = c := by
  have : a ^^^ (a ^^^ b) = a ^^^ (a ^^^ c) := by rw [h]
  rwa [← Nat.xor_assoc, ← Nat.xor_assoc, Nat.xor_self, Nat.zero_xor, Nat.zero_xor] at this
theorem crcN_inj (l : List UInt8) {a b : Nat} (ha : a < 4294967296) (hb : b < 4294967296) (h : crcN l a = crcN l b) : a = b := by
  induction l generalizing a b with
  | nil => exact h
  | cons x l ih =>
    have hx := byte_lt x
    have h1 := xor_lt32 ha (show x.toNat < 4294967296 by omega)
    have h2 := xor_lt32 hb (show x.toNat < 4294967296 by omega)
    have h3 := bsteps_inj h1 h2 (ih (bsteps_lt 8 h1) (bsteps_lt 8 h2) h)
    rw [Nat.xor_comm a, Nat.xor_comm b] at h3
    exact xor_left_inj h3
/-- One byte alone makes another checksum. -/
theorem crcN_mid (l r : List UInt8) (x y : UInt8) {c : Nat} (hc : c < 4294967296) (h : crcN (l ++ x :: r) c = crcN (l ++ y :: r) c) : x = y := by
  rw [crcN_append, crcN_append] at h
  have hl := crcN_lt l hc
  have hx := byte_lt x
  have hy := byte_lt y
  have h1 := xor_lt32 hl (show x.toNat < 4294967296 by omega)
  have h2 := xor_lt32 hl (show y.toNat < 4294967296 by omega)
  have h3 : crcN r (bsteps 8 (crcN l c ^^^ x.toNat)) = crcN r (bsteps 8 (crcN l c ^^^ y.toNat)) := h
  have h4 := bsteps_inj h1 h2 (crcN_inj r (bsteps_lt 8 h1) (bsteps_lt 8 h2) h3)
  exact UInt8.toNat_inj.1 (xor_left_inj h4)
theorem sum_xor_inj {a b : Nat} (h : 4294967295 ^^^ a = 4294967295 ^^^ b) : a = b := xor_left_inj h
/-- Bytes with another byte at an index. -/
def dmg (s : ByteArray) (k : Nat) (y : UInt8) : ByteArray := s.extract 0 k ++ ⟨#[y]⟩ ++ s.extract (k + 1) s.size
theorem dmg_size (s : ByteArray) (k : Nat) (y : UInt8) (h : k < s.size) : (dmg s k y).size = s.size := by
  unfold dmg
  rw [ByteArray.size_append, ByteArray.size_append, ByteArray.size_extract, ByteArray.size_extract]
  show min k s.size - 0 + 1 + (min s.size s.size - (k + 1)) = s.size
  omega
theorem dmg_bt (s : ByteArray) (k : Nat) (y : UInt8) (h : k < s.size) (i : Nat) (hi : i < s.size) : bt (dmg s k y) i = if i = k then y else bt s i := by
  have h1 : (s.extract 0 k).size = k := by rw [ByteArray.size_extract]; omega
  have h2 : (s.extract 0 k ++ ⟨#[y]⟩).size = k + 1 := by rw [ByteArray.size_append, h1]; rfl
  unfold dmg
  rcases Nat.lt_trichotomy i k with hlt | heq | hgt
  · rw [bt_left _ _ _ (by omega), bt_left _ _ _ (by omega), bt_extract _ _ _ _ (by omega), if_neg (by omega), Nat.zero_add]
  · subst heq
    rw [bt_left _ _ _ (by omega), bt_right _ _ _ (by omega), h1, if_pos rfl, Nat.sub_self]
    rfl
  · rw [bt_right _ _ _ (by omega), h2, bt_extract _ _ _ _ (by omega), if_neg (by omega)]
    congr 1
    omega
theorem list_bt (s : ByteArray) (n : Nat) (h : n ≤ s.size) : (s.extract 0 n).data.toList = (List.range n).map (bt s) := by
  apply List.ext_getElem
  · simp
    omega
  · intro i h1 h2
    simp only [List.length_map, List.length_range] at h2
    rw [List.getElem_map, List.getElem_range, bt_eq s i (by omega)]
    simp
    rfl
theorem range_split (n k : Nat) (h : k < n) : List.range n = List.range k ++ k :: (List.range (n - k - 1)).map (· + (k + 1)) := by
  apply List.ext_getElem
  · simp
    omega
  · intro i h1 h2
    rw [List.getElem_range]
    rcases Nat.lt_trichotomy i k with hlt | heq | hgt
    · rw [List.getElem_append_left (by simpa using hlt)]
      simp
    · subst heq
      rw [List.getElem_append_right (by simp)]
      simp
    · rw [List.getElem_append_right (by simp; omega)]
      simp only [List.length_range]
      rw [List.getElem_cons]
      rw [dif_neg (by omega)]
      simp
      omega
/-- The bytes ahead of the checksum, with one changed: another checksum. -/
theorem sum_dmg (s : ByteArray) (k : Nat) (y : UInt8) (n : Nat) (hn : n ≤ s.size) (hk : k < n) (hy : y ≠ bt s k) : sumN ((dmg s k y).extract 0 n) ≠ sumN (s.extract 0 n) := by
  intro h
  have h1 := sum_xor_inj h
  rw [list_bt _ _ (by rw [dmg_size _ _ _ (by omega)]; exact hn), list_bt _ _ hn, range_split n k hk] at h1
  simp only [List.map_append, List.map_cons] at h1
  have e1 : (List.range k).map (bt (dmg s k y)) = (List.range k).map (bt s) := List.map_congr_left fun i hi => by
    have := List.mem_range.1 hi
    rw [dmg_bt s k y (by omega) i (by omega), if_neg (by omega)]
  have e2 : ((List.range (n - k - 1)).map (· + (k + 1))).map (bt (dmg s k y)) = ((List.range (n - k - 1)).map (· + (k + 1))).map (bt s) := by
    rw [List.map_map, List.map_map]
    refine List.map_congr_left fun i hi => ?_
    have := List.mem_range.1 hi
    show bt (dmg s k y) (i + (k + 1)) = bt s (i + (k + 1))
    rw [dmg_bt s k y (by omega) _ (by omega), if_neg (by omega)]
  rw [e1, e2, dmg_bt s k y (by omega) k (by omega), if_pos rfl] at h1
  exact hy (crcN_mid _ _ _ _ (by decide) h1)
/-- Refused, and not blank. -/
def refused (e : Int) : Prop := e ≠ 0 ∧ e ≠ 7
theorem decP_refused {x : ByteArray} (hz : x.size = 256) (h0 : x ≠ zeros 256) (h : x.extract 0 8 ≠ x.extract 248 256 ∨ leN x 244 4 ≠ sumN (x.extract 0 244)) : refused (decP x).2 := by
  unfold decP
  rw [if_neg (by omega), if_neg h0]
  by_cases h1 : x.extract 0 8 ≠ x.extract 248 256
  · rw [if_pos h1]
    exact ⟨by decide, by decide⟩
  · rw [if_neg h1, if_pos (h.resolve_left h1)]
    exact ⟨by decide, by decide⟩
theorem ends_ne {x : ByteArray} (hz : x.size = 256) {i : Nat} (hi : i < 8) (h : bt x i ≠ bt x (248 + i)) : x.extract 0 8 ≠ x.extract 248 256 := fun e => h (ends_of e i hi)
theorem leN_ne (s t : ByteArray) (p k : Nat) {i : Nat} (hi : i < k) (h : bt s (p + i) ≠ bt t (p + i)) : leN s p k ≠ leN t p k := by
  induction k with
  | zero => omega
  | succ k ih =>
    intro e
    simp only [leN] at e
    have h1 := leN_lt s p k
    have h2 := leN_lt t p k
    have hd : (bt s (p + k)).toNat = (bt t (p + k)).toNat := by
      have a1 : (2 ^ (8 * k) * (bt s (p + k)).toNat + leN s p k) / 2 ^ (8 * k) = (bt s (p + k)).toNat := by
        rw [Nat.mul_add_div (Nat.two_pow_pos _), Nat.div_eq_of_lt h1, Nat.add_zero]
      have a2 : (2 ^ (8 * k) * (bt t (p + k)).toNat + leN t p k) / 2 ^ (8 * k) = (bt t (p + k)).toNat := by
        rw [Nat.mul_add_div (Nat.two_pow_pos _), Nat.div_eq_of_lt h2, Nat.add_zero]
      rw [← a1, e, a2]
    rcases Nat.lt_or_ge i k with hlt | hge
    · exact ih hlt (by rw [hd] at e; omega)
    · obtain rfl : i = k := by omega
      exact h (UInt8.toNat_inj.1 hd)
/-- What a right page's bytes are: the two positions agree, and so does the checksum. -/
structure Sealed (s : ByteArray) : Prop where
  z : s.size = 256
  e : ends s
  sum : leN s 244 4 = sumN (s.extract 0 244)
/-- Sealed bytes, one changed, that are not blank: refused. -/
theorem sealed_dmg {s : ByteArray} (h : Sealed s) {k : Nat} (hk : k < 256) {y : UInt8} (hy : y ≠ bt s k) (h0 : dmg s k y ≠ zeros 256) : refused (decP (dmg s k y)).2 := by
  have hz := h.z
  have hzd : (dmg s k y).size = 256 := by rw [dmg_size _ _ _ (by omega), hz]
  refine decP_refused hzd h0 ?_
  by_cases h1 : k < 8
  · refine .inl (ends_ne hzd h1 ?_)
    rw [dmg_bt s k y (by omega) _ (by omega), if_pos rfl, dmg_bt s k y (by omega) _ (by omega), if_neg (by omega), ← h.e k h1]
    exact hy
  · by_cases h2 : 248 ≤ k
    · refine .inl (ends_ne hzd (i := k - 248) (by omega) ?_)
      rw [dmg_bt s k y (by omega) _ (by omega), if_neg (by omega), dmg_bt s k y (by omega) _ (by omega), if_pos (by omega), h.e _ (by omega), show 248 + (k - 248) = k by omega]
      exact fun e => hy e.symm
    · refine .inr ?_
      by_cases h3 : k < 244
      · have e1 : leN (dmg s k y) 244 4 = leN s 244 4 := leN_congr _ _ _ _ _ fun i hi => by
          rw [dmg_bt s k y (by omega) _ (by omega), if_neg (by omega)]
        rw [e1, h.sum]
        exact fun e => sum_dmg s k y 244 (by omega) h3 hy e.symm
      · have e1 : (dmg s k y).extract 0 244 = s.extract 0 244 := by
          refine bt_ext (by rw [ByteArray.size_extract, ByteArray.size_extract, hzd, hz]) fun i hi => ?_
          rw [ByteArray.size_extract] at hi
          rw [bt_extract _ _ _ _ (by omega), bt_extract _ _ _ _ (by omega), dmg_bt s k y (by omega) _ (by omega), if_neg (by omega)]
        rw [e1, ← h.sum]
        refine leN_ne _ _ _ _ (i := k - 244) (by omega) ?_
        rw [show 244 + (k - 244) = k by omega, dmg_bt s k y (by omega) _ (by omega), if_pos rfl]
        exact hy
theorem sealed_enc {p : Page} (h : pageOk p = true) : Sealed (encBytes p) := by
  unfold pageOk at h
  rw [Bool.and_eq_true] at h
  have hc := h.2
  exact ⟨encBytes_size hc, ends_enc hc, by rw [leN_sum hc, enc_extract hc]⟩
/-- A page's bytes are not blank, whichever byte is changed. -/
theorem enc_dmg_ne {p : Page} (h : pageOk p = true) {k : Nat} (hk : k < 256) (y : UInt8) : dmg (encBytes p) k y ≠ zeros 256 := by
  intro e
  have hp := h
  unfold pageOk at h
  rw [Bool.and_eq_true] at h
  have hc := h.2
  have hz := encBytes_size hc
  have hb : ∀ i, i < 256 → i ≠ k → bt (encBytes p) i = 0 := fun i hi hne => by
    have := dmg_bt (encBytes p) k y (by omega) i (by omega)
    rw [if_neg hne, e, bt_zeros] at this
    exact this.symm
  have hL : p.lsn = 0 := by
    have hall : ∀ i, i < 8 → bt (encBytes p) i = 0 := fun i hi => by
      by_cases hik : i = k
      · have := hb (248 + i) (by omega) (by omega)
        rwa [enc_lsn2 hc i hi, ← enc_lsn hc i hi] at this
      · exact hb i (by omega) hik
    rw [← lsn_enc hp]
    unfold getV
    rw [getU_eq _ _ _ (by omega), leN_of _ 0 0 8 (by omega) (fun i hi => by rw [Nat.zero_add, hall i hi, leByte_zero]), Nat.zero_mod]
    exact wrap64_small 0 (by decide)
  have hun : ∀ j, (p.at j).set = false := fun j => by
    have h0 := pcell_ok hc j
    simp only [cellOk, hL] at h0
    cases hs : (p.at j).set
    · rfl
    · rw [hs] at h0; simp at h0
  have hx : ∀ j, j < 16 → bt (encBytes p) (12 + 13 * j + 0) ≠ 0 := fun j hj => by
    rw [enc_cell hc j 0 hj (by omega), bt_cell0, cell_unset hc j (hun j)]
    decide
  by_cases hk12 : k = 12
  · exact hx 1 (by omega) (hb _ (by omega) (by omega))
  · exact hx 0 (by omega) (hb _ (by omega) (by omega))
/-- A page's bytes with one changed are refused. -/
theorem enc_damage {p : Page} (h : pageOk p = true) {k : Nat} (hk : k < 256) {y : UInt8} (hy : y ≠ bt (encBytes p) k) : refused (decP (dmg (encBytes p) k y)).2 := sealed_dmg (sealed_enc h) hk hy (enc_dmg_ne h hk y)
/-! ### Blank bytes -/
def crc0 : Nat → Nat → Nat
  | 0, c => c
  | n + 1, c => crc0 n (bsteps 8 c)
theorem crcN_rep (n c : Nat) : crcN (List.replicate n 0) c = crc0 n c := by
  induction n generalizing c with
  | zero => rfl
  | succ n ih =>
    rw [List.replicate_succ]
    show crcN (List.replicate n 0) (bsteps 8 (c ^^^ (0 : UInt8).toNat)) = _
    rw [show (0 : UInt8).toNat = 0 from rfl, Nat.xor_zero, ih]
    rfl
/-- Going back n bytes, each number is 256 at least. -/
def wide : Nat → Nat → Bool
  | 0, _ => true
  | n + 1, c => let d := bbacks 8 c; decide (256 ≤ d) && wide n d
theorem crc0_zero : ∀ n, crc0 n 0 = 0
  | 0 => rfl
  | n + 1 => crc0_zero n
theorem crc0_lt (n : Nat) {c : Nat} (h : c < 4294967296) : crc0 n c < 4294967296 := by
  induction n generalizing c with
  | zero => exact h
  | succ n ih => exact ih (bsteps_lt 8 h)
theorem crc0_succ (n c : Nat) : crc0 (n + 1) c = bsteps 8 (crc0 n c) := by
  induction n generalizing c with
  | zero => rfl
  | succ n ih =>
    show crc0 (n + 1) (bsteps 8 c) = _
    rw [ih]
    rfl
theorem wide_spec (n : Nat) {T b : Nat} (hb : b < 256) (h : wide n T = true) : ∀ m, 1 ≤ m → m ≤ n → crc0 m b ≠ T := by
  induction n generalizing T with
  | zero => omega
  | succ n ih =>
    intro m h1 h2 e
    simp only [wide, Bool.and_eq_true, decide_eq_true_eq] at h
    obtain ⟨m, rfl⟩ : ∃ q, m = q + 1 := ⟨m - 1, by omega⟩
    rw [crc0_succ] at e
    have hl := crc0_lt m (c := b) (by omega)
    have hd : bbacks 8 T = crc0 m b := by rw [← e, bback_steps 8 _ hl]
    rw [hd] at h
    rcases Nat.eq_zero_or_pos m with h0 | h0
    · subst h0
      have : crc0 0 b = b := rfl
      omega
    · exact ih h.2 m h0 (by omega) rfl
theorem crc0_xor (n a b : Nat) : crc0 n (a ^^^ b) = crc0 n a ^^^ crc0 n b := by
  induction n generalizing a b with
  | zero => rfl
  | succ n ih =>
    show crc0 n (bsteps 8 (a ^^^ b)) = _
    rw [bsteps_xor, ih]
    rfl
theorem crc0_add (a b c : Nat) : crc0 (a + b) c = crc0 b (crc0 a c) := by
  induction a generalizing c with
  | zero => rw [Nat.zero_add]; rfl
  | succ a ih =>
    rw [Nat.succ_add]
    exact ih _
set_option maxRecDepth 100000 in
theorem blank_wide : wide 244 (4294967295 ^^^ crc0 244 4294967295) = true := by decide +kernel
set_option maxRecDepth 100000 in
theorem blank_bytes : ∃ T, 4294967295 ^^^ crc0 244 4294967295 = T ∧ ∀ i, i < 4 → ∀ y, y < 256 → 256 ^ i * y ≠ T := by
  refine ⟨_, rfl, ?_⟩
  decide +kernel
theorem zeros_list (n : Nat) : (zeros n).data.toList = List.replicate n 0 := by simp [zeros]
theorem dmg_zeros_list (k : Nat) (y : UInt8) (hk : k < 244) : ((dmg (zeros 256) k y).extract 0 244).data.toList = List.replicate k 0 ++ y :: List.replicate (243 - k) 0 := by
  have hz := zeros_size 256
  rw [list_bt _ _ (by rw [dmg_size _ _ _ (by omega), hz]; omega), range_split 244 k hk]
  simp only [List.map_append, List.map_cons]
  have e1 : (List.range k).map (bt (dmg (zeros 256) k y)) = List.replicate k 0 := by
    rw [List.eq_replicate_iff]
    refine ⟨by simp, fun b hb => ?_⟩
    obtain ⟨i, hi, rfl⟩ := List.mem_map.1 hb
    have := List.mem_range.1 hi
    rw [dmg_bt _ k y (by omega) i (by omega), if_neg (by omega), bt_zeros]
  have e2 : ((List.range (244 - k - 1)).map (· + (k + 1))).map (bt (dmg (zeros 256) k y)) = List.replicate (243 - k) 0 := by
    rw [List.map_map, List.eq_replicate_iff]
    refine ⟨by simp; omega, fun b hb => ?_⟩
    obtain ⟨i, hi, rfl⟩ := List.mem_map.1 hb
    have := List.mem_range.1 hi
    show bt (dmg (zeros 256) k y) (i + (k + 1)) = 0
    rw [dmg_bt _ k y (by omega) _ (by omega), if_neg (by omega), bt_zeros]
  rw [e1, e2, dmg_bt _ k y (by omega) k (by omega), if_pos rfl]
theorem dmg_zeros_sum (k : Nat) (y : UInt8) (hk : k < 244) (h8 : 8 ≤ k) : sumN ((dmg (zeros 256) k y).extract 0 244) ≠ 0 := by
  intro h
  unfold sumN at h
  rw [dmg_zeros_list k y hk, crcN_append, crcN_rep] at h
  have e : crcN (y :: List.replicate (243 - k) 0) (crc0 k 4294967295) = crc0 (244 - k) (crc0 k 4294967295 ^^^ y.toNat) := by
    show crcN (List.replicate (243 - k) 0) (bsteps 8 (crc0 k 4294967295 ^^^ y.toNat)) = _
    rw [crcN_rep, show 244 - k = (243 - k) + 1 by omega]
    rfl
  rw [e, crc0_xor, ← crc0_add, show k + (244 - k) = 244 by omega, ← Nat.xor_assoc] at h
  have h2 : crc0 (244 - k) y.toNat = 4294967295 ^^^ crc0 244 4294967295 := by
    refine (xor_left_inj (a := 4294967295 ^^^ crc0 244 4294967295) ?_).symm
    rw [Nat.xor_self, h]
  exact wide_spec 244 (byte_lt y) blank_wide (244 - k) (by omega) (by omega) h2
theorem blank_stored : sumN ((zeros 256).extract 0 244) = 4294967295 ^^^ crc0 244 4294967295 := by
  unfold sumN
  rw [list_bt _ _ (by rw [zeros_size]; omega)]
  have : (List.range 244).map (bt (zeros 256)) = List.replicate 244 0 := by
    rw [List.eq_replicate_iff]
    refine ⟨by simp, fun b hb => ?_⟩
    obtain ⟨i, hi, rfl⟩ := List.mem_map.1 hb
    exact bt_zeros _ _
  rw [this, crcN_rep]
theorem blank_damage {k : Nat} (hk : k < 256) {y : UInt8} (hy : y ≠ bt (zeros 256) k) : refused (decP (dmg (zeros 256) k y)).2 := by
  rw [bt_zeros] at hy
  have hz := zeros_size 256
  have hzd : (dmg (zeros 256) k y).size = 256 := by rw [dmg_size _ _ _ (by omega), hz]
  have hb : ∀ i, i < 256 → bt (dmg (zeros 256) k y) i = if i = k then y else 0 := fun i hi => by
    rw [dmg_bt _ k y (by omega) i (by omega)]
    split
    · rfl
    · exact bt_zeros _ _
  refine decP_refused hzd (fun e => hy (by have := hb k hk; rw [if_pos rfl, e, bt_zeros] at this; exact this.symm)) ?_
  by_cases h1 : k < 8
  · refine .inl (ends_ne hzd h1 ?_)
    rw [hb _ (by omega), if_pos rfl, hb _ (by omega), if_neg (by omega)]
    exact hy
  · by_cases h2 : 248 ≤ k
    · refine .inl (ends_ne hzd (i := k - 248) (by omega) ?_)
      rw [hb _ (by omega), if_neg (by omega), hb _ (by omega), if_pos (by omega)]
      exact fun e => hy e.symm
    · refine .inr ?_
      by_cases h3 : k < 244
      · have e1 : leN (dmg (zeros 256) k y) 244 4 = 0 := by
          rw [leN_of _ 244 0 4 (by omega) (fun i hi => by rw [hb _ (by omega), if_neg (by omega), leByte_zero]), Nat.zero_mod]
        rw [e1]
        exact fun e => dmg_zeros_sum k y h3 (by omega) e.symm
      · have e1 : (dmg (zeros 256) k y).extract 0 244 = (zeros 256).extract 0 244 := by
          refine bt_ext (by rw [ByteArray.size_extract, ByteArray.size_extract, hzd, hz]) fun i hi => ?_
          rw [ByteArray.size_extract] at hi
          rw [bt_extract _ _ _ _ (by omega), bt_extract _ _ _ _ (by omega), hb _ (by omega), if_neg (by omega), bt_zeros]
        rw [e1, blank_stored]
        obtain ⟨T, hT, hn⟩ := blank_bytes
        rw [hT]
        have hyl := byte_lt y
        have e2 : leN (dmg (zeros 256) k y) 244 4 = 256 ^ (k - 244) * y.toNat := by
          simp only [leN]
          rw [hb (244 + 0) (by omega), hb (244 + 1) (by omega), hb (244 + 2) (by omega), hb (244 + 3) (by omega)]
          rcases (show k = 244 ∨ k = 245 ∨ k = 246 ∨ k = 247 by omega) with rfl | rfl | rfl | rfl <;> simp
        rw [e2]
        exact hn _ (by omega) _ hyl
end Go.Proofs.Ytldkgmodmpnclaa
