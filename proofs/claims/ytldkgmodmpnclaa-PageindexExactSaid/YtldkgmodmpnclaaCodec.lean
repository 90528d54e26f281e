/- The walks of the codec, of the program and of the reference: Put, Get and Sum. Each is told by one plain function, the same for both. -/
import Derived.Test.YtldkgmodmpnclaaBase
import Derived.Test.YtldkgmodmpnclaaCrc
import Derived.Test.YtldkgmodmpnclaaShelf
namespace Go.Proofs.Ytldkgmodmpnclaa
open Go.RowKit Go.Proofs
set_option linter.unusedVariables false
set_option linter.unusedSimpArgs false

section
attribute [local go_sem] conv_byte1
set_option maxRecDepth 100000 in
theorem put01_ok (s : ByteArray) (n : Int) (k : Nat) (w : World) (h1 : 1 ≤ k) (h2 : k ≤ 8) (hs : s.size ≤ 1000000000000) :
    Calls Try.prog 66 #[.string s, .int .i64 n, .int .i64 k] w fun e w' => e = .returned (.string (s ++ leB n k)) ∧ Below w.heap.size w w' := by
  have d1 : decide ((k : Int) < 1) = false := by simp; omega
  have d2 : decide (8 < (k : Int)) = false := by simp; omega
  go_enter Try.func66, Try.ntmps66
  go_wp2
  go_loopw [0, 7] (fun s' i wr => ∃ j : Nat, j ≤ k ∧ i = .int .i64 j ∧ s' = .string (s ++ leB n j) ∧ Below w.heap.size w wr) (fun _ i _ => k - (intOf i).toNat)
  case atStart => exact ⟨0, by omega, rfl, by simp [leB_zero], Below.refl _ _⟩
  case round =>
    obtain ⟨j, hj, rfl, rfl, hB⟩ := hrel
    have hz := leB_size n j
    by_cases hlt : j < k
    · go_wp2
      go_roundw
      case rel => exact ⟨j + 1, by omega, by go_num, by rw [leB_succ, ByteArray.append_assoc]; rfl, hB.alloc hB.size _⟩
      case measure => simp [intOf]; omega
    · go_wp2
      go_ret
      obtain rfl : j = k := by omega
      exact ⟨rfl, hB⟩
end

set_option maxRecDepth 100000 in
theorem putC_ok (s : ByteArray) (n : Int) (k : Nat) (w : World) (h1 : 1 ≤ k) (h2 : k ≤ 8) (hs : s.size ≤ 1000000000000) :
    Calls Try.prog 65 #[.string s, .int .i64 n, .int .i64 k] w fun e w' => e = .returned (.string (s ++ leB n k)) ∧ Below w.heap.size w w' := by
  have d1 : decide ((k : Int) < 1) = false := by simp; omega
  have d2 : decide (8 < (k : Int)) = false := by simp; omega
  go_enter Try.func65, Try.ntmps65
  go_wp2_with fail
  refine (Try.Builder_WriteString_k w.heap.size w.heap.size [] s _ (Lib.IsBuilderF.of (Lib.fresh_isBuilder 127 5 w)) (by simp; omega) (by simp)).mono ?_
  rintro e w1 ⟨rfl, h1, hb1, _⟩
  have H1 : Lib.IsBuilderF 127 5 w.heap.size w.heap.size (Lib.byteCells (s.data.toList ++ (leB n 0).data.toList)) w1 := by
    rw [leB_zero, show (ByteArray.empty.data.toList : List UInt8) = [] from rfl, List.append_nil]
    exact .inr (by simpa [Lib.strCells_eq] using h1)
  have HB : Below w.heap.size w w1 := ((Below.refl _ w).alloc (Nat.le_refl _) _).trans hb1
  clear h1 hb1
  go_wp2_with fail
  go_loopw [8, 19] (fun _ i wr => ∃ j : Nat, j ≤ k ∧ i = .int .i64 j ∧ Lib.IsBuilderF 127 5 w.heap.size w.heap.size (Lib.byteCells (s.data.toList ++ (leB n j).data.toList)) wr ∧ Below w.heap.size w wr) (fun _ i _ => k - (intOf i).toNat)
  case atStart => exact ⟨0, by omega, rfl, H1, HB⟩
  case round =>
    clear H1 HB
    obtain ⟨j, hj, rfl, hI, hB⟩ := hrel
    by_cases hlt : j < k
    · have hdec : decide ((j : Int) < k) = true := by simp; omega
      go_wp2_with fail
      refine (Try.Builder_WriteByte_k w.heap.size w.heap.size _ _ _ hI (by rw [Lib.byteCells_length, List.length_append, show (leB n j).data.toList.length = j from leB_size n j]; simp only [Array.length_toList]; have : s.data.size = s.size := rfl; omega) hB.size).mono ?_
      rintro e w2 ⟨rfl, h2, hb2, _⟩
      go_wp2_with fail
      go_roundw
      case rel =>
        refine ⟨j + 1, by omega, by go_num, .inr ?_, hB.trans hb2⟩
        have e1 : Lib.byteCells (s.data.toList ++ (leB n (j + 1)).data.toList) = Lib.byteCells (s.data.toList ++ (leB n j).data.toList) ++ [.int .u8 (leByte n j).toNat] := by
          rw [leB_succ]
          simp [Lib.byteCells, ByteArray.data_append]
        rw [e1]
        have e2 : ((leByte n j).toNat : Int) = IntKind.u64.wrap n / 2 ^ (8 * j) % 256 := by
          unfold leByte
          have h0 : 0 ≤ IntKind.u64.wrap n / 2 ^ (8 * j) % 256 := Int.emod_nonneg _ (by decide)
          have h1 : IntKind.u64.wrap n / 2 ^ (8 * j) % 256 < 256 := Int.emod_lt_of_pos _ (by decide)
          rw [UInt8.toNat_ofNat']
          omega
        rw [e2]
        exact h2
      case measure => simp [intOf]; omega
    · have hdec : decide ((j : Int) < k) = false := by simp; omega
      obtain rfl : j = k := by omega
      go_wp2_with fail
      refine (Try.Builder_String_any_k w.heap.size w.heap.size _ _ hI hB.size).mono ?_
      rintro e w2 ⟨rfl, _, hb2, _⟩
      go_wp2_with fail
      go_ret
      exact ⟨ret_str (by apply ByteArray.ext; simp [ByteArray.data_append]), hB.trans hb2⟩

def getU (s : ByteArray) (at_ : Nat) : Nat → Int
  | 0 => 0
  | k + 1 => bits .or .u64 (getU s at_ k) (IntKind.u64.wrap (IntKind.u64.wrap (bt s (at_ + k)).toNat * 2 ^ (8 * k)))
/-- What Get reads at a place where there are enough bytes. -/
def getV (s : ByteArray) (at_ k : Nat) : Int := wrap64 (getU s at_ k)
set_option maxRecDepth 100000 in
theorem get01_ok (s : ByteArray) (p k : Nat) (w : World) (h1 : 1 ≤ k) (h2 : k ≤ 8) (hs : s.size ≤ 1000000000000) (hp : p + k ≤ s.size) :
    Calls Try.prog 71 #[.string s, .int .i64 p, .int .i64 k] w fun e w' => e = .returned (.tuple #[.int .i64 (getV s p k), .int .i64 0]) ∧ w = w' := by
  have d1 : decide ((k : Int) < 1) = false := by simp; omega
  have d2 : decide (8 < (k : Int)) = false := by simp; omega
  have d3 : decide ((p : Int) < 0) = false := by simp
  have d4 : decide (s.size < p) = false := by simp; omega
  have d5 : decide ((s.size : Int) - (p : Int) < (k : Int)) = false := by simp; omega
  go_enter Try.func71, Try.ntmps71
  go_wp2
  go_loop [8, 9] (fun s' i => ∃ j : Nat, j ≤ k ∧ i = .int .i64 j ∧ s' = .int .u64 (getU s p j)) (fun _ i => k - (intOf i).toNat)
  case atStart => exact ⟨0, by omega, rfl, rfl⟩
  case round =>
    obtain ⟨j, hj, rfl, rfl⟩ := hrel
    by_cases hlt : j < k
    · go_wp2
      go_round
      case rel => exact ⟨j + 1, by omega, by go_num, by simp only [getU, bt_get]⟩
      case measure => simp [intOf]; omega
    · go_wp2
      go_ret2
      obtain rfl : j = k := by omega
      exact ⟨rfl, rfl⟩
set_option maxRecDepth 100000 in
theorem get01_short (s : ByteArray) (p k : Nat) (w : World) (h1 : 1 ≤ k) (h2 : k ≤ 8) (hs : s.size ≤ 1000000000000) (hp : s.size < p + k) :
    Calls Try.prog 71 #[.string s, .int .i64 p, .int .i64 k] w fun e w' => e = .returned (.tuple #[.int .i64 0, .int .i64 5]) ∧ w = w' := by
  have d1 : decide ((k : Int) < 1) = false := by simp; omega
  have d2 : decide (8 < (k : Int)) = false := by simp; omega
  have d3 : decide ((p : Int) < 0) = false := by simp
  by_cases h4 : s.size < p
  · have d4 : decide (s.size < p) = true := by simp; omega
    go_enter Try.func71, Try.ntmps71
    go_wp2
    go_ret2
    exact ⟨rfl, rfl⟩
  · have d4 : decide (s.size < p) = false := by simp; omega
    have d5 : decide ((s.size : Int) - (p : Int) < (k : Int)) = true := by simp; omega
    go_enter Try.func71, Try.ntmps71
    go_wp2
    go_ret2
    exact ⟨rfl, rfl⟩
set_option maxRecDepth 100000 in
theorem getC_ok (s : ByteArray) (p k : Nat) (w : World) (h1 : 1 ≤ k) (h2 : k ≤ 8) (hs : s.size ≤ 1000000000000) (hp : p + k ≤ s.size) :
    Calls Try.prog 69 #[.string s, .int .i64 p, .int .i64 k] w fun e w' => e = .returned (.tuple #[.int .i64 (getV s p k), .int .i64 0]) ∧ w = w' := by
  have d1 : decide ((k : Int) < 1) = false := by simp; omega
  have d2 : decide (8 < (k : Int)) = false := by simp; omega
  have d3 : decide ((p : Int) < 0) = false := by simp
  have d4 : decide (s.size < p) = false := by simp; omega
  have d5 : decide ((s.size : Int) - (p : Int) < (k : Int)) = false := by simp; omega
  go_enter Try.func69, Try.ntmps69
  go_wp2
  go_loop [8, 9, 35] (fun s' i0 i => ∃ j : Nat, j ≤ k ∧ i = .int .i64 j ∧ s' = .int .u64 (getU s p j)) (fun _ _ i => k - (intOf i).toNat)
  case atStart => exact ⟨0, by omega, rfl, rfl⟩
  case round =>
    obtain ⟨j, hj, rfl, rfl⟩ := hrel
    by_cases hlt : j < k
    · go_wp2
      go_round
      case rel => exact ⟨j + 1, by omega, by go_num, by simp only [getU, bt_get]⟩
      case measure => simp [intOf]; omega
    · go_wp2
      go_ret2
      obtain rfl : j = k := by omega
      exact ⟨rfl, rfl⟩
set_option maxRecDepth 100000 in
theorem getC_short (s : ByteArray) (p k : Nat) (w : World) (h1 : 1 ≤ k) (h2 : k ≤ 8) (hs : s.size ≤ 1000000000000) (hp : s.size < p + k) :
    Calls Try.prog 69 #[.string s, .int .i64 p, .int .i64 k] w fun e w' => e = .returned (.tuple #[.int .i64 0, .int .i64 5]) ∧ w = w' := by
  have d1 : decide ((k : Int) < 1) = false := by simp; omega
  have d2 : decide (8 < (k : Int)) = false := by simp; omega
  have d3 : decide ((p : Int) < 0) = false := by simp
  by_cases h4 : s.size < p
  · have d4 : decide (s.size < p) = true := by simp; omega
    go_enter Try.func69, Try.ntmps69
    go_wp2
    go_ret2
    exact ⟨rfl, rfl⟩
  · have d4 : decide (s.size < p) = false := by simp; omega
    have d5 : decide ((s.size : Int) - (p : Int) < (k : Int)) = true := by simp; omega
    go_enter Try.func69, Try.ntmps69
    go_wp2
    go_ret2
    exact ⟨rfl, rfl⟩

theorem u32_byte (b : UInt8) : (b.toNat : Int) % 4294967296 = (b.toNat : Int) := by
  have := byte_lt b
  omega
set_option maxRecDepth 100000 in
theorem sum01 (s : ByteArray) (w : World) (hs : s.size ≤ 1000000000000) :
    Calls Try.prog 82 #[.string s] w fun e w' => e = .returned (.int .u32 (sumN s)) ∧ w = w' := by
  go_enter Try.func82, Try.ntmps82
  go_wp2
  go_loop [3, 4] (fun c i => ∃ j : Nat, j ≤ s.size ∧ i = .int .i64 j ∧ c = .int .u32 (crcN (s.data.toList.take j) 4294967295 : Nat)) (fun _ i => s.size - (intOf i).toNat)
  case atStart => exact ⟨0, by omega, rfl, by simp [crcN]⟩
  case round =>
    obtain ⟨j, hj, rfl, rfl⟩ := hrel
    have hlt0 := crcN_lt (s.data.toList.take j) (c := 4294967295) (by decide)
    obtain ⟨c, hc⟩ : ∃ c, crcN (s.data.toList.take j) 4294967295 = c := ⟨_, rfl⟩
    rw [hc] at hlt0 ⊢
    have HC := Lib.hid hc; clear hc
    by_cases hlt : j < s.size
    · have hx : bits .xor .u32 (c : Int) (((s[j]).toNat : Int) % 4294967296) = ((c ^^^ (bt s j).toNat : Nat) : Int) := by
        rw [bt_get, u32_byte]
        exact bits_xor32 hlt0 (by have := byte_lt (bt s j); omega)
      have hxl : c ^^^ (bt s j).toNat < 4294967296 := xor_lt32 hlt0 (by have := byte_lt (bt s j); omega)
      go_wp2
      go_loop [3, 5] (fun c' i => ∃ m : Nat, m ≤ 8 ∧ i = .int .i64 m ∧ c' = .int .u32 (bsteps m (c ^^^ (bt s j).toNat) : Nat)) (fun _ i => 8 - (intOf i).toNat)
      case atStart => exact ⟨0, by omega, rfl, rfl⟩
      case round =>
        clear hx
        obtain ⟨m, hm, rfl, rfl⟩ := hrel
        have hdl := bsteps_lt m hxl
        obtain ⟨d, hd⟩ : ∃ d, bsteps m (c ^^^ (bt s j).toNat) = d := ⟨_, rfl⟩
        rw [hd] at hdl ⊢
        have HD := Lib.hid hd; clear hd
        by_cases hlt : m < 8
        · have h2 : bits .and .u32 (d : Int) 1 = ((d % 2 : Nat) : Int) := bits_odd hdl
          have h3 : bits .xor .u32 ((d : Int) / 2) 2197175160 = ((d / 2 ^^^ poly : Nat) : Int) := by
            have := bits_xor32 (a := d / 2) (b := poly) (by omega) (by decide)
            exact this
          rcases Nat.mod_two_eq_zero_or_one d with ho | ho
          · have he : ((((d % 2 : Nat) : Int)) == 1) = false := by rw [ho]; rfl
            have HO := Lib.hid ho; clear ho
            go_wp2
            go_round
            case rel => exact ⟨m + 1, by omega, by go_num, by simp only [bsteps, HD.out, bstep]; rw [if_neg (by rw [HO.out]; decide)]; simp⟩
            case measure => simp [intOf]; omega
          · have he : ((((d % 2 : Nat) : Int)) == 1) = true := by rw [ho]; rfl
            have HO := Lib.hid ho; clear ho
            go_wp2
            go_round
            case rel => exact ⟨m + 1, by omega, by go_num, by simp only [bsteps, HD.out, bstep]; rw [if_pos HO.out]⟩
            case measure => simp [intOf]; omega
        · go_wp2
          go_round
          case rel =>
            obtain rfl : m = 8 := by omega
            exact ⟨j + 1, by omega, by go_num, by rw [take_bt s j ‹_›, crcN_append, HC.out, ← HD.out]; rfl⟩
          case measure => simp [intOf]; omega
    · have hx : bits .xor .u32 IntKind.u32.max (c : Int) = ((4294967295 ^^^ c : Nat) : Int) := bits_xor32 (a := 4294967295) (by decide) hlt0
      go_wp2
      go_ret
      obtain rfl : j = s.size := by omega
      exact ⟨by
        unfold sumN
        have : List.take s.size s.data.toList = s.data.toList := List.take_of_length_le (by simp)
        rw [← HC.out, this]; rfl, rfl⟩
/-- The table of half bytes, of which the first j rows are made. -/
def tbl (j : Nat) : Array Value := ((List.range 16).map fun i => Value.int .u32 (if i < j then (bsteps 4 i : Nat) else 0)).toArray
theorem tbl_size (j : Nat) : (tbl j).size = 16 := by simp [tbl]
theorem tbl_zero : #[Value.int IntKind.u32 0, .int .u32 0, .int .u32 0, .int .u32 0, .int .u32 0, .int .u32 0, .int .u32 0, .int .u32 0, .int .u32 0, .int .u32 0, .int .u32 0, .int .u32 0, .int .u32 0, .int .u32 0, .int .u32 0, .int .u32 0] = tbl 0 := rfl
theorem tbl_set (j : Nat) (h : j < 16) : (tbl j).setIfInBounds j (.int .u32 (bsteps 4 j : Nat)) = tbl (j + 1) := by
  apply Array.ext
  · simp [tbl]
  · intro i h1 h2
    simp only [tbl, List.size_toArray, List.length_map, List.length_range, Array.size_setIfInBounds] at h1
    rw [Array.getElem_setIfInBounds (by simpa [tbl] using h1)]
    simp only [tbl, List.getElem_toArray, List.getElem_map, List.getElem_range]
    by_cases hij : j = i
    · subst hij
      simp
    · rw [if_neg hij]
      by_cases hlt : i < j
      · rw [if_pos hlt, if_pos (by omega)]
      · rw [if_neg hlt, if_neg (by omega)]
theorem tbl_get (j i : Nat) (h : i < 16) : (tbl j)[i]? = some (.int .u32 (if i < j then (bsteps 4 i : Nat) else 0)) := by
  simp [tbl, h]
set_option maxRecDepth 100000 in
theorem remainders_ok (w : World) : Calls Try.prog 100 #[] w fun e w' => e = .returned (.agg (tbl 16)) ∧ Below w.heap.size w w' := by
  go_enter Try.func100, Try.ntmps100
  go_wp2
  rw [tbl_zero]
  go_loopw [2, 3, 4, 9] (fun _ _ i _ wr => ∃ j : Nat, j ≤ 16 ∧ i = .int .i64 j ∧ wr.heap[w.heap.size]? = some (.cells (tbl 0) 140 (0, 0)) ∧ wr.heap[w.heap.size + 1]? = some (.cells (tbl j) 140 (0, 0)) ∧ Below w.heap.size w wr) (fun _ _ i _ _ => 16 - (intOf i).toNat)
  case atStart =>
    exact ⟨0, by omega, rfl, heap_alloc2_old _ _ _, heap_alloc2_new _ _ _, ((Below.refl _ _).alloc (Nat.le_refl _) _).alloc (by simp) _⟩
  case round =>
    obtain ⟨j, hj, rfl, hb0, hb1, hB⟩ := hrel
    have HB0 := Lib.hid hb0; have HB1 := Lib.hid hb1
    have hz := heap_lt hb1
    clear hb0 hb1
    by_cases hlt : j < 16
    · have hdec : decide ((j : Int) < 16) = true := by simp; omega
      go_wp2
      go_loop [3, 9] (fun c i => ∃ m : Nat, m ≤ 4 ∧ i = .int .i64 m ∧ c = .int .u32 (bsteps m j : Nat)) (fun _ i => 4 - (intOf i).toNat)
      case atStart => exact ⟨0, by omega, rfl, rfl⟩
      case round =>
        obtain ⟨m, hm, rfl, rfl⟩ := hrel
        have hdl := bsteps_lt m (c := j) (by omega)
        obtain ⟨d, hd⟩ : ∃ d, bsteps m j = d := ⟨_, rfl⟩
        rw [hd] at hdl ⊢
        have HD := Lib.hid hd; clear hd
        by_cases hm4 : m < 4
        · have hdec4 : decide ((m : Int) < 4) = true := by simp; omega
          have h2 : bits .and .u32 (d : Int) 1 = ((d % 2 : Nat) : Int) := bits_odd hdl
          have h3 : bits .xor .u32 ((d : Int) / 2) 2197175160 = ((d / 2 ^^^ poly : Nat) : Int) := by
            have := bits_xor32 (a := d / 2) (b := poly) (by omega) (by decide)
            exact this
          rcases Nat.mod_two_eq_zero_or_one d with ho | ho
          · have he : ((((d % 2 : Nat) : Int)) == 1) = false := by rw [ho]; rfl
            have HO := Lib.hid ho; clear ho
            go_wp2
            go_round
            case rel => exact ⟨m + 1, by omega, by go_num, by simp only [bsteps, HD.out, bstep]; rw [if_neg (by rw [HO.out]; decide)]; simp⟩
            case measure => simp [intOf]; omega
          · have he : ((((d % 2 : Nat) : Int)) == 1) = true := by rw [ho]; rfl
            have HO := Lib.hid ho; clear ho
            go_wp2
            go_round
            case rel => exact ⟨m + 1, by omega, by go_num, by simp only [bsteps, HD.out, bstep]; rw [if_pos HO.out]⟩
            case measure => simp [intOf]; omega
        · have hdec4 : decide ((m : Int) < 4) = false := by simp; omega
          obtain rfl : m = 4 := by omega
          have hc : wr.cell? ⟨w.heap.size + 1, j, none⟩ = some (.int .u32 (if j < j then (bsteps 4 j : Nat) else 0)) := by rw [heap_cell HB1.out, tbl_get j j hlt]
          have hfr : wr.frozen? ⟨w.heap.size + 1, j, none⟩ = false := heap_free HB1.out j
          go_wp2
          go_roundw
          case rel =>
            refine ⟨j + 1, by omega, by go_num, ?_, ?_, hB.setCell (by simp) _⟩
            · rw [heap_setCell_other _ _ _ _ (by simp)]; exact HB0.out
            · rw [heap_setCell_same _ _ _ _ _ _ HB1.out, ← HD.out, tbl_set j hlt]
          case measure => simp [intOf]; omega
    · have hdec : decide ((j : Int) < 16) = false := by simp; omega
      obtain rfl : j = 16 := by omega
      go_wp2_with (first
        | (with_reducible refine wpList_load_row rfl 140 (.tmp 1) rfl (w.heap.size + 1) rfl _ _ _ _ HB1.out Try.underlying140 rfl (by kernel_rfl) ?_)
        | (with_reducible refine wpList_store_row rfl 140 (.tmp 0) (.tmp 24) rfl w.heap.size (tbl 16) rfl rfl _ _ HB0.out (by rw [tbl_size]; kernel_rfl) (by rw [tbl_size, tbl_size]) (by decide +kernel) ?_))
      exact bodyPost_ret (results_cell_row rfl _ _ w.heap.size _ _ _ _ rfl (setRow_heap _ _ _ _ _ _ HB0.out) Try.underlying140 rfl (by rw [tbl_size]; kernel_rfl)) rfl ⟨rfl, below_setRow hB (Nat.le_refl _) _⟩

theorem tbl_val (i : Nat) (h : i < 16) : (tbl 16)[i]? = some (.int .u32 (bsteps 4 i : Nat)) := by
  rw [tbl_get 16 i h, if_pos h]
set_option maxRecDepth 100000 in
theorem sumC (s : ByteArray) (w : World) (hs : s.size ≤ 1000000000000) :
    Calls Try.prog 77 #[.string s] w fun e w' => e = .returned (.int .u32 (sumN s)) ∧ Below w.heap.size w w' := by
  go_enter Try.func77, Try.ntmps77
  go_wp2_with fail
  refine (remainders_ok _).mono ?_
  rintro e w1 ⟨rfl, hB⟩
  go_wp2_with (refine wpList_store_row rfl 140 (.tmp 3) (.tmp 6) rfl w1.heap.size (tbl 16) rfl rfl _ _ (heap_alloc_new w1 _) (by rw [tbl_size]; kernel_rfl) (by rw [tbl_size]; rfl) (by decide +kernel) ?_)
  rw [World.setRow_alloc_new]
  go_loop [4, 5, 9] (fun c _ i => ∃ j : Nat, j ≤ s.size ∧ i = .int .i64 j ∧ c = .int .u32 (crcN (s.data.toList.take j) 4294967295 : Nat)) (fun _ _ i => s.size - (intOf i).toNat)
  case atStart => exact ⟨0, by omega, rfl, by simp [crcN]⟩
  case round =>
    obtain ⟨j, hj, rfl, rfl⟩ := hrel
    have hlt0 := crcN_lt (s.data.toList.take j) (c := 4294967295) (by decide)
    obtain ⟨c, hc⟩ : ∃ c, crcN (s.data.toList.take j) 4294967295 = c := ⟨_, rfl⟩
    rw [hc] at hlt0 ⊢
    have HC := Lib.hid hc; clear hc
    by_cases hlt : j < s.size
    · have hdec : decide (j < s.size) = true := by simp; omega
      have hxl : c ^^^ (bt s j).toNat < 4294967296 := xor_lt32 hlt0 (by have := byte_lt (bt s j); omega)
      have hx : bits .xor .u32 (c : Int) (((s[j]).toNat : Int) % 4294967296) = ((c ^^^ (bt s j).toNat : Nat) : Int) := by
        rw [bt_get, u32_byte]
        exact bits_xor32 hlt0 (by have := byte_lt (bt s j); omega)
      obtain ⟨d, hd⟩ : ∃ d, c ^^^ (bt s j).toNat = d := ⟨_, rfl⟩
      rw [hd] at hx hxl
      have HD := Lib.hid hd; clear hd
      have hl4 : bits .and .u32 (d : Int) 15 = ((d % 16 : Nat) : Int) := bits_low4 hxl
      have ht4 : (tbl 16)[d % 16]? = some (.int .u32 (bsteps 4 (d % 16) : Nat)) := tbl_val _ (by omega)
      have hx4 : bits .xor .u32 ((d : Int) / 16) ((bsteps 4 (d % 16) : Nat) : Int) = ((d / 16 ^^^ bsteps 4 (d % 16) : Nat) : Int) :=
        bits_xor32 (a := d / 16) (by omega) (bsteps_lt 4 (by omega))
      have hf : d / 16 ^^^ bsteps 4 (d % 16) = bsteps 4 d := (bsteps4 d).symm
      have hfl := bsteps_lt 4 hxl
      rw [hf] at hx4
      clear hf
      obtain ⟨f, hff⟩ : ∃ f, bsteps 4 d = f := ⟨_, rfl⟩
      rw [hff] at hx4 hfl
      have HF := Lib.hid hff; clear hff
      have hl5 : bits .and .u32 (f : Int) 15 = ((f % 16 : Nat) : Int) := bits_low4 hfl
      have ht5 : (tbl 16)[f % 16]? = some (.int .u32 (bsteps 4 (f % 16) : Nat)) := tbl_val _ (by omega)
      have hx5 : bits .xor .u32 ((f : Int) / 16) ((bsteps 4 (f % 16) : Nat) : Int) = ((bsteps 4 f : Nat) : Int) :=
        (bits_xor32 (a := f / 16) (by omega) (bsteps_lt 4 (by omega))).trans (by rw [← bsteps4 f])
      go_wp2
      go_round
      case rel => exact ⟨j + 1, by omega, by go_num, by rw [take_bt s j hlt, crcN_append, HC.out, ← HF.out, ← bsteps8, ← HD.out]; rfl⟩
      case measure => simp [intOf]; omega
    · have hdec : decide (j < s.size) = false := by simp; omega
      have hx : bits .xor .u32 IntKind.u32.max (c : Int) = ((4294967295 ^^^ c : Nat) : Int) := bits_xor32 (a := 4294967295) (by decide) hlt0
      go_wp2
      go_ret
      obtain rfl : j = s.size := by omega
      exact ⟨by
        unfold sumN
        have : List.take s.size s.data.toList = s.data.toList := List.take_of_length_le (by simp)
        rw [← HC.out, this]; rfl, hB.alloc hB.size _⟩

/-- Put, the size as an integer: for calls that hand it on as a numeral. -/
theorem putC_int (s : ByteArray) (n k : Int) (w : World) (h1 : 1 ≤ k) (h2 : k ≤ 8) (hs : s.size ≤ 1000000000000) :
    Calls Try.prog 65 #[.string s, .int .i64 n, .int .i64 k] w fun e w' => e = .returned (.string (s ++ leB n k.toNat)) ∧ Below w.heap.size w w' := by
  obtain ⟨m, rfl⟩ := Int.eq_ofNat_of_zero_le (show 0 ≤ k by omega)
  rw [Int.toNat_natCast]
  exact putC_ok s n m w (by omega) (by omega) hs
theorem put01_int (s : ByteArray) (n k : Int) (w : World) (h1 : 1 ≤ k) (h2 : k ≤ 8) (hs : s.size ≤ 1000000000000) :
    Calls Try.prog 66 #[.string s, .int .i64 n, .int .i64 k] w fun e w' => e = .returned (.string (s ++ leB n k.toNat)) ∧ Below w.heap.size w w' := by
  obtain ⟨m, rfl⟩ := Int.eq_ofNat_of_zero_le (show 0 ≤ k by omega)
  rw [Int.toNat_natCast]
  exact put01_ok s n m w (by omega) (by omega) hs
theorem getC_int (s : ByteArray) (p k : Int) (w : World) (h0 : 0 ≤ p) (h1 : 1 ≤ k) (h2 : k ≤ 8) (hs : s.size ≤ 1000000000000) (hp : p + k ≤ s.size) :
    Calls Try.prog 69 #[.string s, .int .i64 p, .int .i64 k] w fun e w' => e = .returned (.tuple #[.int .i64 (getV s p.toNat k.toNat), .int .i64 0]) ∧ w = w' := by
  obtain ⟨m, rfl⟩ := Int.eq_ofNat_of_zero_le (show 0 ≤ k by omega)
  obtain ⟨q, rfl⟩ := Int.eq_ofNat_of_zero_le h0
  rw [Int.toNat_natCast, Int.toNat_natCast]
  exact getC_ok s q m w (by omega) (by omega) hs (by omega)
theorem get01_int (s : ByteArray) (p k : Int) (w : World) (h0 : 0 ≤ p) (h1 : 1 ≤ k) (h2 : k ≤ 8) (hs : s.size ≤ 1000000000000) (hp : p + k ≤ s.size) :
    Calls Try.prog 71 #[.string s, .int .i64 p, .int .i64 k] w fun e w' => e = .returned (.tuple #[.int .i64 (getV s p.toNat k.toNat), .int .i64 0]) ∧ w = w' := by
  obtain ⟨m, rfl⟩ := Int.eq_ofNat_of_zero_le (show 0 ≤ k by omega)
  obtain ⟨q, rfl⟩ := Int.eq_ofNat_of_zero_le h0
  rw [Int.toNat_natCast, Int.toNat_natCast]
  exact get01_ok s q m w (by omega) (by omega) hs (by omega)

end Go.Proofs.Ytldkgmodmpnclaa
