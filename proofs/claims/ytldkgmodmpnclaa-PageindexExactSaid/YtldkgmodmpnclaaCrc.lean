/- The checksum as plain arithmetic of natural numbers: by bits, and by half bytes out of a table; both are one. -/
import Derived.Laws.BitsLemmas
namespace Go.Proofs.Ytldkgmodmpnclaa

def poly : Nat := 2197175160
def bstep (c : Nat) : Nat := if c % 2 = 1 then (c / 2) ^^^ poly else c / 2
def bsteps : Nat → Nat → Nat
  | 0, c => c
  | k + 1, c => bstep (bsteps k c)
def crcN (l : List UInt8) (c : Nat) : Nat := l.foldl (fun c b => bsteps 8 (c ^^^ b.toNat)) c
/-- The checksum. -/
def sumN (s : ByteArray) : Nat := 4294967295 ^^^ crcN s.data.toList 4294967295

theorem bstep_lt {c : Nat} (h : c < 4294967296) : bstep c < 4294967296 := by
  unfold bstep poly
  have h2 : c / 2 < 2 ^ 32 := by omega
  split
  · exact Nat.xor_lt_two_pow h2 (by decide)
  · omega
theorem bsteps_lt (k : Nat) {c : Nat} (h : c < 4294967296) : bsteps k c < 4294967296 := by
  induction k with
  | zero => exact h
  | succ k ih => exact bstep_lt ih
theorem byte_lt (b : UInt8) : b.toNat < 256 := UInt8.toNat_lt b
theorem xor_lt32 {a b : Nat} (ha : a < 4294967296) (hb : b < 4294967296) : a ^^^ b < 4294967296 := Nat.xor_lt_two_pow (n := 32) ha hb
theorem crcN_lt (l : List UInt8) {c : Nat} (h : c < 4294967296) : crcN l c < 4294967296 := by
  induction l generalizing c with
  | nil => exact h
  | cons b l ih =>
    have := byte_lt b
    exact ih (bsteps_lt 8 (xor_lt32 h (by omega)))
theorem sumN_lt (s : ByteArray) : sumN s < 4294967296 := xor_lt32 (by decide) (crcN_lt _ (by decide))
theorem crcN_append (l m : List UInt8) (c : Nat) : crcN (l ++ m) c = crcN m (crcN l c) := by simp [crcN]

theorem two_xor (a b : Nat) : (a ^^^ b) / 2 = (a / 2) ^^^ (b / 2) := by
  have h := Nat.shiftRight_xor_distrib (a := a) (b := b) (i := 1)
  simpa [Nat.shiftRight_eq_div_pow] using h
theorem xor_mod2 (a b : Nat) : (a ^^^ b) % 2 = (a % 2 + b % 2) % 2 := by
  have h : (a ^^^ b).testBit 0 = (a.testBit 0 ^^ b.testBit 0) := Nat.testBit_xor a b 0
  simp only [Nat.testBit_zero] at h
  rcases Nat.mod_two_eq_zero_or_one a with ha | ha <;> rcases Nat.mod_two_eq_zero_or_one b with hb | hb <;> rcases Nat.mod_two_eq_zero_or_one (a ^^^ b) with hx | hx <;> simp [ha, hb, hx] at h ⊢
theorem bstep_xor (a b : Nat) : bstep (a ^^^ b) = bstep a ^^^ bstep b := by
  unfold bstep
  have h := xor_mod2 a b
  have h2 := two_xor a b
  rw [h2]
  rcases Nat.mod_two_eq_zero_or_one a with ha | ha <;> rcases Nat.mod_two_eq_zero_or_one b with hb | hb
  · rw [if_neg (by omega), if_neg (by omega), if_neg (by omega)]
  · rw [if_pos (by omega), if_neg (by omega), if_pos (by omega), Nat.xor_assoc]
  · rw [if_pos (by omega), if_pos (by omega), if_neg (by omega)]
    rw [Nat.xor_assoc, Nat.xor_comm (b / 2), ← Nat.xor_assoc]
  · rw [if_neg (by omega), if_pos (by omega), if_pos (by omega)]
    have : a / 2 ^^^ poly ^^^ (b / 2 ^^^ poly) = a / 2 ^^^ (b / 2) ^^^ (poly ^^^ poly) := by
      rw [Nat.xor_assoc, Nat.xor_assoc, ← Nat.xor_assoc poly, Nat.xor_comm poly (b / 2), Nat.xor_assoc (b / 2)]
    rw [this, Nat.xor_self, Nat.xor_zero]
theorem bsteps_xor (k a b : Nat) : bsteps k (a ^^^ b) = bsteps k a ^^^ bsteps k b := by
  induction k with
  | zero => rfl
  | succ k ih => simp only [bsteps, ih, bstep_xor]
theorem bstep_even (q : Nat) : bstep (2 * q) = q := by
  unfold bstep
  rw [if_neg (by omega)]
  omega
theorem bsteps4_high (q : Nat) : bsteps 4 (16 * q) = q := by
  simp only [bsteps]
  rw [show 16 * q = 2 * (2 * (2 * (2 * q))) by omega, bstep_even, bstep_even, bstep_even, bstep_even]
/-- Four bits at once. -/
theorem bsteps4 (c : Nat) : bsteps 4 c = (c / 16) ^^^ bsteps 4 (c % 16) := by
  have h : c = (16 * (c / 16)) ^^^ (c % 16) := by
    have hd := Nat.div_add_mod c 16
    have hx := Nat.two_pow_add_eq_or_of_lt (i := 4) (b := c % 16) (by have := Nat.mod_lt c (by decide : 0 < 16); omega) (c / 16)
    apply Nat.eq_of_testBit_eq
    intro i
    rw [Nat.testBit_xor]
    have e : (16 * (c / 16)).testBit i = (decide (4 ≤ i) && c.testBit i) := by
      have := Nat.testBit_two_pow_mul (i := 4) (a := c / 16) (j := i)
      rw [show (2 : Nat) ^ 4 = 16 from rfl] at this
      rw [this]
      by_cases h4 : 4 ≤ i
      · have h5 := Nat.testBit_div_two_pow (n := 4) c (i - 4)
        rw [show (2 : Nat) ^ 4 = 16 from rfl, show i - 4 + 4 = i from by omega] at h5
        rw [h5]
      · simp [h4]
    have f : (c % 16).testBit i = (decide (i < 4) && c.testBit i) := Nat.testBit_mod_two_pow c 4 i
    rw [e, f]
    by_cases h4 : 4 ≤ i
    · have : ¬ i < 4 := by omega
      simp [h4, this]
    · have : i < 4 := by omega
      simp [h4, this]
  conv => lhs; rw [h]
  rw [bsteps_xor, bsteps4_high]
theorem bsteps_add (m k c : Nat) : bsteps (m + k) c = bsteps m (bsteps k c) := by
  induction m with
  | zero => simp [bsteps]
  | succ m ih => rw [Nat.succ_add]; simp only [bsteps, ih]
theorem bsteps8 (c : Nat) : bsteps 8 c = bsteps 4 (bsteps 4 c) := bsteps_add 4 4 c

theorem bits_xor32 {a b : Nat} (ha : a < 4294967296) (hb : b < 4294967296) : bits .xor .u32 (a : Int) (b : Int) = ((a ^^^ b : Nat) : Int) := by
  have hx := xor_lt32 ha hb
  simp only [bits, BitVec.ofInt_natCast, BitVec.toNat_xor, BitVec.toNat_ofNat]
  rw [show IntKind.u32.bits = 32 from rfl, Nat.mod_eq_of_lt (a := a) (by simpa using ha), Nat.mod_eq_of_lt (a := b) (by simpa using hb), IntKind.wrap_u32]
  omega
theorem bits_and32 {a b : Nat} (ha : a < 4294967296) (hb : b < 4294967296) : bits .and .u32 (a : Int) (b : Int) = ((a &&& b : Nat) : Int) :=
  (bits_nat .u32 32 (by decide) (fun n h0 h1 => by rw [IntKind.wrap_u32]; omega) a b (by simpa using ha) (by simpa using hb)).1
theorem bits_odd {a : Nat} (ha : a < 4294967296) : bits .and .u32 (a : Int) 1 = ((a % 2 : Nat) : Int) := by
  have := bits_and32 ha (b := 1) (by decide)
  rw [show ((1 : Nat) : Int) = 1 from rfl] at this
  rw [this, Nat.and_one_is_mod]
theorem bits_low4 {a : Nat} (ha : a < 4294967296) : bits .and .u32 (a : Int) 15 = ((a % 16 : Nat) : Int) := by
  have := bits_and32 ha (b := 15) (by decide)
  rw [show ((15 : Nat) : Int) = 15 from rfl] at this
  rw [this, show (15 : Nat) = 2 ^ 4 - 1 from rfl, Nat.and_two_pow_sub_one_eq_mod]
end Go.Proofs.Ytldkgmodmpnclaa
