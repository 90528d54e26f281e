/- Drawn bytes: rows of bytes that a draw writes, and what they are as strings (Bytes, sealed). -/
import Derived.Test.YtldkgmodmpnclaaDrawE
import Derived.Laws.IdiomStrings
namespace Go.Proofs.Ytldkgmodmpnclaa
open Go.RowKit Go.Proofs
set_option linter.unusedVariables false
set_option linter.unusedSimpArgs false
/-- The first n cells of block b are bytes, and may be written. -/
def By (w : World) (b n : Nat) : Prop := b < w.heap.size ∧ ∀ i, i < n → (∃ v : Nat, v < 256 ∧ w.cell? ⟨b, i, none⟩ = some (.int .u8 v)) ∧ w.frozen? ⟨b, i, none⟩ = false
theorem By.of_block {w w' : World} {b n : Nat} (h : By w b n) (hb : w'.heap[b]? = w.heap[b]?) (hl : w.heap.size ≤ w'.heap.size) : By w' b n := by
  refine ⟨by have := h.1; omega, fun i hi => ?_⟩
  obtain ⟨⟨v, hv, hc⟩, hf⟩ := h.2 i hi
  exact ⟨⟨v, hv, (World.cell?_of_block (w := w) (a := ⟨b, i, none⟩) hb).trans hc⟩, (World.frozen?_of_block (w := w) (a := ⟨b, i, none⟩) hb).trans hf⟩
theorem By.below {w w' : World} {b n B : Nat} (h : By w b n) (hb : Below B w w') (hB : b < B) : By w' b n := h.of_block (hb.block b hB) hb.size
theorem By.kb {w w' : World} {b n g : Nat} (h : By w b n) (hk : KB g w w') (hg : g < b) : By w' b n := h.of_block (hk.block b h.1 (by omega)) hk.size
theorem By.set {w : World} {b n i : Nat} (h : By w b n) (v : Int) (h0 : 0 ≤ v) (h1 : v < 256) (hi : i < n) : By (w.setCell ⟨b, i, none⟩ (.int .u8 v)) b n := by
  refine ⟨by simp [World.setCell, h.1], fun j hj => ?_⟩
  obtain ⟨⟨u, hu, hc⟩, hf⟩ := h.2 j hj
  refine ⟨?_, ?_⟩
  · by_cases e : i = j
    · subst e
      obtain ⟨m, rfl⟩ : ∃ m : Nat, v = m := ⟨v.toNat, by omega⟩
      exact ⟨m, by omega, World.cell?_setCell_same _ _ _ hc⟩
    · exact ⟨u, hu, by rw [World.cell?_setCell_other _ _ _ _ (fun h => e (by injection h))]; exact hc⟩
  · simpa using hf
theorem By.str {w : World} {b n : Nat} (h : By w b n) (m c : Nat) (hm : m ≤ n) : ∃ x : ByteArray, x.size = m ∧ (convert 22 9 (.slice (some ⟨b, 0, none⟩) m c)).run Try.prog w = .ok (.string x) w := by
  refine ⟨strOfNums ((List.range m).map fun i => match w.cell? ⟨b, i, none⟩ with | some (.int _ v) => v | _ => 0), ?_, ?_⟩
  · simp [strOfNums, ByteArray.size]
  · refine run_convert_bytes_arg (P := Try.prog) w 22 5 Try.underlying22 Try.underlying5 b 0 m c _ (by simp) (fun i hi => ?_) 9 Try.underlying9
    obtain ⟨⟨v, hv, hc⟩, hf⟩ := h.2 i (by omega)
    rw [Nat.zero_add, hc]
    simp [List.getD_eq_getElem?_getD, hi, hc]
theorem By.ofString (w : World) (s : ByteArray) (cap : Nat) (C : Array Value) (hC : C = bytesRow s cap) (hn : s.size ≤ C.size) : By (w.alloc (.cells C 5 (C.size, C.size + 1))) w.heap.size s.size := by
  refine ⟨by simp, fun i hi => ⟨⟨(bt s i).toNat, byte_lt _, ?_⟩, ?_⟩⟩
  · rw [World.cell?_alloc_mark, hC, bytesRow_at s cap i hi, bt_eq s i hi]
    rfl
  · rw [World.frozen?_alloc_mark]
    simp
    omega
theorem bytesRow_size (s : ByteArray) (cap : Nat) : s.size ≤ (bytesRow s cap).size := by
  simp [bytesRow]
theorem By.made (w : World) (n : Nat) : By (w.alloc (.cells (madeCells #[.int .u8 0] n) 5)) w.heap.size n := by
  have hm := toList_madeCells_one (.int .u8 0) n
  refine ⟨by simp, fun i hi => ⟨⟨0, by omega, ?_⟩, ?_⟩⟩
  · rw [heap_cell (heap_alloc_new _ _), ← Array.getElem?_toList, hm, List.getElem?_replicate, if_pos hi]
    rfl
  · exact heap_free (heap_alloc_new _ _) i
set_option maxHeartbeats 1000000 in
set_option maxRecDepth 100000 in
theorem bytes_calls (g : Nat) (w : World) (h : Cs w g) :
    Calls Try.prog 50 #[.pointer (some ⟨g, 0, none⟩)] w (AnyStrK 256 g w) := by
  have hm : ∀ w : World, (Instr.makeSlice 22 (.int .i64 256) (.int .i64 256)).run Try.prog w = .ok (.slice (some ⟨w.heap.size, 0, none⟩) 256 256) (w.alloc (.cells (madeCells #[.int .u8 0] 256) 5)) := make5 256 (by omega)
  have hlt := h.lt
  have hY := By.made w 256
  have hk := (KB.refl g w).alloc (.cells (madeCells #[.int .u8 0] 256) 5)
  have h0 := h.alloc (.cells (madeCells #[.int .u8 0] 256) 5)
  obtain ⟨b, hb⟩ : ∃ b, w.heap.size = b := ⟨_, rfl⟩
  rw [hb] at hY hlt
  go_enter Try.func50, Try.ntmps50
  go_wp2_with fail
  refine (next_calls g 256 _ h0 (by omega) (by omega)).mono ?_
  rintro e w1 ⟨r, rfl, hr0, hr1, hk1, h1⟩
  have hY1 := hY.kb hk1 hlt
  have hk2 := hk.trans hk1
  clear hY hk hk1 h0 h hm
  have hr : r % 256 = r := Int.emod_eq_of_lt hr0 hr1
  go_wp2_with fail
  go_loopw [5] (fun i wr => ∃ j : Nat, j ≤ 256 ∧ i = .int .i64 j ∧ By wr b 256 ∧ KB g w wr ∧ Cs wr g) (fun i _ => 256 - (intOf i).toNat)
  case atStart => exact ⟨0, by omega, rfl, hY1, hk2, h1⟩
  case round =>
    clear hY1 hk2 h1 w1
    obtain ⟨j, hj, rfl, hY, hk, h1⟩ := hrel
    by_cases hlt2 : j < 256
    · obtain ⟨⟨v, hv, hc⟩, hf⟩ := hY.2 j hlt2
      have hYn := Lib.hid (hY.set r hr0 hr1 hlt2)
      have hkn := Lib.hid (hk.setB (B := b) (by omega) j (.int .u8 r))
      have hn := Lib.hid (h1.setB (B := b) hlt j (.int .u8 r))
      have hdec : decide ((j : Int) < 256) = true := by simp; omega
      clear hY hk h1
      go_wp2_with fail
      go_roundw
      case rel => exact ⟨j + 1, by omega, by go_num, hYn.out, hkn.out, hn.out⟩
      case measure => simp [intOf]; omega
    · have hdec : decide ((j : Int) < 256) = false := by simp; omega
      go_wp2_with fail
      refine (next_calls g 256 _ h1 (by omega) (by omega)).mono ?_
      rintro e w2 ⟨q, rfl, hq0, hq1, hk2, h2⟩
      have hY2 := hY.kb hk2 hlt
      have hkk := hk.trans hk2
      clear hY hk hk2 h1
      go_wp2_with fail
      refine (next_calls g 256 _ h2 (by omega) (by omega)).mono ?_
      rintro e w3 ⟨u, rfl, hu0, hu1, hk3, h3⟩
      have hY3 := hY2.kb hk3 hlt
      have hkk3 := hkk.trans hk3
      obtain ⟨m, rfl⟩ : ∃ m : Nat, q = m := ⟨q.toNat, by omega⟩
      obtain ⟨⟨v, hv, hc⟩, hf⟩ := hY3.2 m (by omega)
      have hu : u % 256 = u := Int.emod_eq_of_lt hu0 hu1
      have hYn := Lib.hid (hY3.set u hu0 hu1 (show m < 256 by omega))
      have hkn := Lib.hid (hkk3.setB (B := b) (by omega) m (.int .u8 u))
      have hn := Lib.hid (h3.setB (B := b) hlt m (.int .u8 u))
      obtain ⟨x, hx, hcv⟩ := hYn.out.str 256 256 (Nat.le_refl _)
      clear hY2 hkk hk3 h2 hY3 hkk3 h3
      go_wp2_with fail
      go_ret
      exact ⟨_, rfl, by omega, hkn.out, hn.out⟩
/-- Seal: some bytes, 12 more than there were at most. -/
def SealStr (k B : Nat) (w : World) (e : Ending) (w' : World) : Prop := ∃ x : ByteArray, e = .returned (.string x) ∧ x.size ≤ k ∧ Below B w w'
set_option maxHeartbeats 1000000 in
set_option maxRecDepth 100000 in
theorem seal_calls (s : ByteArray) (w : World) (h8 : 8 ≤ s.size) (hs : s.size ≤ 10000) :
    Calls Try.prog 83 #[.string s] w (SealStr (s.size + 12) w.heap.size w) := by
  have i1 : (8 : Int) ≤ s.size := by omega
  have i2 : (s.extract 0 8).size = 8 := by rw [ByteArray.size_extract]; omega
  have i3 : (s ++ leB (sumN s : Int) 4).size = s.size + 4 := by rw [ByteArray.size_append, leB_size]
  have n1 : ¬ 9223372036854775807 < s.size + 4 + 8 := by omega
  have i4 : IntKind.i64.wrap (sumN s : Int) = (sumN s : Int) := IntWalk.i64_in _ (by have := sumN_lt s; omega)
  have HL := Lib.hid (sumN_lt s)
  go_enter Try.func83, Try.ntmps83
  go_wp2_with fail
  refine wp_region_held_drew (S := Kp w.heap.size w) (by kernel_rfl) (Kp.start w _ (Nat.le_refl _)) (fun hHeld => ?_)
  refine Held.takeL (i := 0) (v := ?_) rfl (by kernel_rfl) (by kernel_rfl) (by kernel_rfl) (fun _ _ _ h => h) (.inl ⟨by kernel_rfl, ?_⟩) (by assumption) ?_
  rotate_left
  · (intro w_ hSw; go_simp; first | done | with_reducible rfl)
  try simp only [Act.put, List.setIfInBounds_toArray, List.set_cons_zero, List.set_cons_succ]
  refine Held.takeL (i := 1) (v := ?_) rfl (by kernel_rfl) (by kernel_rfl) (by kernel_rfl) (fun _ _ _ h => h) (.inl ⟨by kernel_rfl, ?_⟩) (by assumption) ?_
  rotate_left
  · (intro w_ hSw; go_simp; first | done | with_reducible rfl)
  try simp only [Act.put, List.setIfInBounds_toArray, List.set_cons_zero, List.set_cons_succ]
  refine Held.takeL (i := 5) (v := ?_) rfl (by kernel_rfl) (by kernel_rfl) (by kernel_rfl) (fun _ _ _ h => h) (.inl ⟨by kernel_rfl, ?_⟩) (by assumption) ?_
  rotate_left
  · (intro w_ hSw; go_simp; first | done | with_reducible rfl)
  try simp only [Act.put, List.setIfInBounds_toArray, List.set_cons_zero, List.set_cons_succ]
  refine Held.takeL (i := 6) (v := ?_) rfl (by kernel_rfl) (by kernel_rfl) (by kernel_rfl) (fun _ _ _ h => h) (.inl ⟨by kernel_rfl, ?_⟩) (by assumption) ?_
  rotate_left
  · (intro w_ hSw; go_simp; first | done | with_reducible rfl)
  try simp only [Act.put, List.setIfInBounds_toArray, List.set_cons_zero, List.set_cons_succ]
  refine wpAnyH_ready (rs := [2]) (by kernel_rfl) (by simp) ?_
  refine Held.consL rfl (fun K hK => ?_) AllReadyH.nil
  go_simp
  refine (sum01 s _ (by omega)).mono ?_
  rintro e_ w2 ⟨rfl, rfl⟩
  refine hK.out _ _ hHeld (fun hHeld => ?_)
  clear hK K
  try simp only [Act.put, List.setIfInBounds_toArray, List.set_cons_zero, List.set_cons_succ]
  refine Held.takeL (i := 3) (v := ?_) rfl (by kernel_rfl) (by kernel_rfl) (by kernel_rfl) (fun _ _ _ h => h) (.inl ⟨by kernel_rfl, ?_⟩) (by assumption) ?_
  rotate_left
  · (intro w_ hSw; go_simp; first | done | with_reducible rfl)
  try simp only [Act.put, List.setIfInBounds_toArray, List.set_cons_zero, List.set_cons_succ]
  refine wpAnyH_ready (rs := [4]) (by kernel_rfl) (by simp) ?_
  refine Held.consL rfl (fun K hK => ?_) AllReadyH.nil
  go_simp
  refine (put01_int s _ 4 _ (by omega) (by omega) (by omega)).mono ?_
  rintro e_ w4 ⟨rfl, hb4⟩
  refine hK.out _ _ (hHeld.step hb4) (fun hHeld => ?_)
  clear hK K
  try simp only [Act.put, List.setIfInBounds_toArray, List.set_cons_zero, List.set_cons_succ]
  refine Held.takeL (i := 7) (v := ?_) rfl (by kernel_rfl) (by kernel_rfl) (by kernel_rfl) (fun _ _ _ h => h) (.inl ⟨by kernel_rfl, ?_⟩) (by assumption) ?_
  rotate_left
  · (intro w_ hSw; go_simp; first | done | with_reducible rfl)
  try simp only [Act.put, List.setIfInBounds_toArray, List.set_cons_zero, List.set_cons_succ]
  refine Held.takeL (i := 8) (v := ?_) rfl (by kernel_rfl) (by kernel_rfl) (by kernel_rfl) (fun _ _ _ h => h) (.inl ⟨by kernel_rfl, ?_⟩) (by assumption) ?_
  rotate_left
  · (intro w_ hSw; go_simp; first | done | with_reducible rfl)
  try simp only [Act.put, List.setIfInBounds_toArray, List.set_cons_zero, List.set_cons_succ]
  refine wpAnyH_done (by kernel_rfl) ?_ _
  go_wp2_with fail
  go_ret
  exact ⟨_, rfl, by rw [ByteArray.size_append, i2]; show (s ++ leB (sumN s : Int) 4).size + 8 ≤ _; rw [i3]; omega, hHeld.below⟩
set_option maxHeartbeats 1000000 in
set_option maxRecDepth 100000 in
theorem sealed_calls (g : Nat) (s : ByteArray) (w : World) (h : Cs w g) (hs : s.size = 256) :
    Calls Try.prog 47 #[.pointer (some ⟨g, 0, none⟩), .string s] w (AnyStrK 300 g w) := by
  have hcv : ∃ O c, s.size ≤ c ∧ (convert 9 22 (.string s)).run Try.prog w = .ok (.slice (some ⟨w.heap.size, 0, none⟩) s.size c) (w.alloc O).drew ∧ By (w.alloc O).drew w.heap.size s.size :=
    ⟨_, _, grownCap_ge w s.size 0 5, run_bytes_of_string w 9 22 5 s Try.underlying9 Try.underlying22 Try.underlying5, By.ofString w.drew s _ _ rfl (bytesRow_size s _)⟩
  obtain ⟨O, c, hcap, hcv, hY⟩ := hcv
  have hlt := h.lt
  have hk : KB g w (w.alloc O).drew := ((KB.refl g w).alloc O).drew
  have h0 : Cs (w.alloc O).drew g := (h.alloc O).drew
  obtain ⟨b, hb⟩ : ∃ b, w.heap.size = b := ⟨_, rfl⟩
  obtain ⟨w1, hw1⟩ : ∃ w1, (w.alloc O).drew = w1 := ⟨_, rfl⟩
  rw [hw1] at hcv hY hk h0
  rw [hb] at hcv hY hlt
  rw [hs] at hY
  have i1 : (244 : Int) ≤ (c : Int) := by omega
  have i2 : 244 ≤ c := by omega
  have HS := Lib.hid hs
  clear hw1 hs
  go_enter Try.func47, Try.ntmps47
  go_wp2_with fail
  refine (next_calls g 4 _ h0 (by omega) (by omega)).mono ?_
  rintro e w2 ⟨k, rfl, hk0, hk1, hk2, h2⟩
  have hY2 := hY.kb hk2 hlt
  have hkk := hk.trans hk2
  clear hY hk hk2 h0 h hcv
  obtain ⟨k, rfl⟩ : ∃ n : Nat, k = n := ⟨k.toNat, by omega⟩
  go_wp2_with fail
  go_loopw [6] (fun i wr => ∃ j : Nat, j < 4 ∧ i = .int .i64 j ∧ By wr b 256 ∧ KB g w wr ∧ Cs wr g) (fun i _ => (intOf i).toNat)
  case atStart => exact ⟨k, by omega, rfl, hY2, hkk, h2⟩
  case round =>
    clear hY2 hkk h2 w2
    obtain ⟨j, hj, rfl, hY, hk, h1⟩ := hrel
    by_cases hlt2 : 0 < j
    · have hdec : decide (0 < (j : Int)) = true := by simp; omega
      have hdec2 : decide (0 < j) = true := by simp; omega
      go_wp2_with fail
      refine (next_calls g 244 _ h1 (by omega) (by omega)).mono ?_
      rintro e w2 ⟨q, rfl, hq0, hq1, hk2, h2⟩
      have hY2 := hY.kb hk2 hlt
      have hkk := hk.trans hk2
      clear hY hk hk2 h1
      go_wp2_with fail
      refine (next_calls g 256 _ h2 (by omega) (by omega)).mono ?_
      rintro e w3 ⟨u, rfl, hu0, hu1, hk3, h3⟩
      have hY3 := hY2.kb hk3 hlt
      have hkk3 := hkk.trans hk3
      obtain ⟨m, rfl⟩ : ∃ m : Nat, q = m := ⟨q.toNat, by omega⟩
      obtain ⟨⟨v, hv, hc⟩, hf⟩ := hY3.2 m (by omega)
      have hu : u % 256 = u := Int.emod_eq_of_lt hu0 hu1
      have hYn := Lib.hid (hY3.set u hu0 hu1 (show m < 256 by omega))
      have hkn := Lib.hid (hkk3.setB (B := b) (by omega) m (.int .u8 u))
      have hn := Lib.hid (h3.setB (B := b) hlt m (.int .u8 u))
      have hms : (m : Int) < s.size := by have := HS.out; omega
      have hms2 : m < s.size := by have := HS.out; omega
      clear hY2 hkk hk3 h2 hY3 hkk3 h3
      go_wp2_with fail
      go_roundw
      case rel => exact ⟨j - 1, by omega, by go_num, hYn.out, hkn.out, hn.out⟩
      case measure => simp [intOf]; omega
    · have hdec : decide (0 < (j : Int)) = false := by simp; omega
      have hdec2 : decide (0 < j) = false := by simp; omega
      obtain ⟨x, hx, hcv⟩ := hY.str 244 c (by omega)
      have HX := Lib.hid hx
      clear hx
      go_wp2_with fail
      refine (seal_calls x _ (by have := HX.out; omega) (by have := HX.out; omega)).mono ?_
      rintro e w3 ⟨y, rfl, hy, hb3⟩
      have hkf := hk.trans (KB.of_below hb3)
      have hcf := h1.keep hb3
      clear hY hk h1 hb3
      go_wp2_with fail
      go_ret
      exact ⟨_, rfl, by have := HX.out; omega, hkf, hcf⟩
end Go.Proofs.Ytldkgmodmpnclaa
