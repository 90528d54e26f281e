import Derived.Test.YtldkgmodmpnclaaDraw
namespace Go.Proofs.Ytldkgmodmpnclaa
open Go.RowKit Go.Proofs
set_option linter.unusedVariables false
set_option linter.unusedSimpArgs false
/-- Some number of the kind int. -/
def AnyInt (g : Nat) (w : World) (e : Ending) (w' : World) : Prop := ∃ r : Int, e = .returned (.int .i64 r) ∧ (Lit.int .i64 r).wf = true ∧ KB g w w' ∧ Cs w' g
set_option maxHeartbeats 1000000 in
set_option maxRecDepth 100000 in
theorem int_calls (g : Nat) (w : World) (h : Cs w g) :
    Calls Try.prog 53 #[.pointer (some ⟨g, 0, none⟩)] w (AnyInt g w) := by
  go_enter Try.func53, Try.ntmps53
  go_wp2_with fail
  refine (next_calls g 10 _ h (by omega) (by omega)).mono ?_
  rintro e w1 ⟨r, rfl, hr0, hr1, hk, h1⟩
  by_cases r0 : r = 0
  · subst r0
    go_wp2_with fail
    refine (next_calls g 3 _ h1 (by omega) (by omega)).mono ?_
    rintro e w2 ⟨q, rfl, hq0, hq1, hk2, h2⟩
    go_wp2_with fail
    go_ret
    exact ⟨_, rfl, WalkArith.wf_i64 (by omega), hk.trans hk2, h2⟩
  · have hd0 : decide (r = 0) = false := by simp [r0]
    by_cases r1 : r = 1
    · subst r1
      go_wp2_with fail
      refine (next_calls g 16 _ (h1.alloc _) (by omega) (by omega)).mono ?_
      rintro e w2 ⟨q, rfl, hq0, hq1, hk2, h2⟩
      have hne : w1.heap.size ≠ g := by have := h1.lt; omega
      have hA := (hk2.block w1.heap.size (by simp) hne).trans (heap_alloc_new _ _)
      obtain ⟨k, rfl⟩ : ∃ k : Nat, q = k := ⟨q.toNat, by omega⟩
      have hk16 : k < 16 := by omega
      obtain ⟨v, hv, hwf⟩ : ∃ v, w2.cell? ⟨w1.heap.size, k, none⟩ = some (.int .i64 v) ∧ (Lit.int .i64 v).wf = true := by
        rw [heap_cell hA]
        rcases k with _|_|_|_|_|_|_|_|_|_|_|_|_|_|_|_|k
        all_goals first | exact ⟨_, rfl, by decide⟩ | omega
      have hkk := (hk.alloc _).trans hk2
      clear hA hk hk2
      go_wp2_with fail
      go_ret
      exact ⟨_, rfl, hwf, hkk, h2⟩
    · have hd1 : decide (r = 1) = false := by simp [r1]
      go_wp2_with fail
      refine (next_calls g 20 _ h1 (by omega) (by omega)).mono ?_
      rintro e w2 ⟨q, rfl, hq0, hq1, hk2, h2⟩
      go_wp2_with fail
      go_ret
      exact ⟨_, rfl, WalkArith.wf_i64 (by omega), hk.trans hk2, h2⟩
theorem own_kb {w w' : World} {g B n cap : Nat} {xs : List Value} (h : w.ownsRow B 5 1 (.slice (some ⟨B, 0, none⟩) n cap) n xs) (hg : g < B) (hk : KB g w w') : w'.ownsRow B 5 1 (.slice (some ⟨B, 0, none⟩) n cap) n xs := by
  obtain ⟨h1, h2⟩ := h
  refine ⟨h1, ?_⟩
  rcases h2 with ⟨h2, _⟩ | ⟨g', cap', cur, hv, hg', hh, r⟩
  · cases h2
  · cases hv
    exact .inr ⟨_, _, cur, rfl, hg', (hk.block _ (heap_lt hh) (by omega)).trans hh, r⟩
theorem conv_own {w : World} {B n cap : Nat} {l : List Int} (h : w.ownsRow B 5 1 (.slice (some ⟨B, 0, none⟩) n cap) n (l.map (Value.int .u8))) : (convert 22 9 (.slice (some ⟨B, 0, none⟩) n cap)).run Try.prog w = .ok (.string (strOfNums l)) w := by
  have hl : l.length = n := by simpa using h.1
  refine run_convert_bytes_arg (P := Try.prog) w 22 5 Try.underlying22 Try.underlying5 B 0 n cap l hl (fun i hi => ?_) 9 Try.underlying9
  rw [Nat.zero_add, h.cellAt i (by omega)]
  simp [List.getD_eq_getElem?_getD, hl, hi]
theorem strOf_size (l : List Int) : (strOfNums l).size = l.length := by simp [strOfNums, ByteArray.size]
theorem kb_grown {g : Nat} {w w' : World} {row : Option Nat} (h : w.grownBy w' row) (hr : ∀ k, row = some k → w.heap.size ≤ k) : KB g w w' := ⟨h.os, h.tape, h.output, h.size, fun k hk _ => h.block k hk (fun e => by have := hr k e.symm; omega)⟩
/-- Some string of at most 13 bytes. -/
def AnyStr (g : Nat) (w : World) (e : Ending) (w' : World) : Prop := ∃ s : ByteArray, e = .returned (.string s) ∧ s.size ≤ 13 ∧ KB g w w' ∧ Cs w' g
set_option maxHeartbeats 1000000 in
set_option maxRecDepth 100000 in
theorem data_calls (g : Nat) (w : World) (h : Cs w g) :
    Calls Try.prog 55 #[.pointer (some ⟨g, 0, none⟩)] w (AnyStr g w) := by
  obtain ⟨i5, hi5, hz5, hs5, hb5⟩ := info_parts info5
  have H := Lib.hid (And.intro hi5 (And.intro hz5 (And.intro hs5 hb5))); clear hi5 hz5 hs5 hb5
  go_enter Try.func55, Try.ntmps55
  go_wp2_with fail
  refine (next_calls g 5 _ h (by omega) (by omega)).mono ?_
  rintro e w1 ⟨r, rfl, hr0, hr1, hk, h1⟩
  go_wp2_with fail
  refine (next_calls g 6 _ h1 (by omega) (by omega)).mono ?_
  rintro e w2 ⟨q, rfl, hq0, hq1, hk2, h2⟩
  by_cases q0 : q = 0
  · subst q0
    go_wp2_with fail
    refine (next_calls g 14 _ h2 (by omega) (by omega)).mono ?_
    rintro e w3 ⟨x, rfl, hx0, hx1, hk3, hc⟩
    have hkk := (hk.trans hk2).trans hk3
    clear hk hk2 hk3 h h1 h2
    obtain ⟨n, rfl⟩ : ∃ n : Nat, x = n := ⟨x.toNat, by omega⟩
    have hn : n ≤ 13 := by omega
    have hB := hc.lt
    have hBw := hkk.size
    go_wp2_with (refine wpList_make_own _ rfl _ _ 22 rfl w3.heap.size 5 i5 (.int .u8 0) 1 Try.underlying22 H.out.1 H.out.2.1 H.out.2.2.1 _ _ (n : Int) n rfl rfl rfl (by rw [H.out.2.2.2]; omega) (by simp only [maxLen]; omega) (Nat.le_refl _) ?_; intro w4 hown hgrow)
    have hk4 := hkk.trans (kb_grown hgrow (by simp))
    have hc4 := hc.keep (w' := w4) ⟨hgrow.os, hgrow.tape, hgrow.output, hgrow.size, fun k hk => hgrow.block k hk (by simp)⟩
    have hown4 : w4.ownsRow w3.heap.size 5 1 (.slice (some ⟨w3.heap.size, 0, none⟩) 0 n) 0 (([] : List Int).map (Value.int .u8)) := hown
    obtain ⟨B, hBe⟩ : ∃ B, w3.heap.size = B := ⟨_, rfl⟩
    rw [hBe] at hB hBw hown4 ⊢
    have hsz4 : B ≤ w4.heap.size := by have := hgrow.size; omega
    clear hown hgrow hkk hc hBe
    go_loopw [4, 5] (fun v i wr => ∃ (j : Nat) (l : List Int), j ≤ n ∧ i = .int .i64 j ∧ v = .slice (some ⟨B, 0, none⟩) j n ∧ wr.ownsRow B 5 1 (.slice (some ⟨B, 0, none⟩) j n) j (l.map (Value.int .u8)) ∧ KB g w wr ∧ Cs wr g ∧ B ≤ wr.heap.size) (fun _ i _ => n - (intOf i).toNat)
    case atStart => exact ⟨0, [], by omega, rfl, rfl, hown4, hk4, hc4, hsz4⟩
    case round =>
      clear hown4 hk4 hc4 hsz4
      obtain ⟨j, l, hj, rfl, rfl, hown, hkr, hcr, hszr⟩ := hrel
      by_cases hlt : j < n
      · have hdec : decide ((j : Int) < n) = true := by simp; omega
        go_wp2_with fail
        refine (next_calls g 3 _ hcr (by omega) (by omega)).mono ?_
        rintro e w5 ⟨y, rfl, hy0, hy1, hk5, hc5⟩
        have hown5 := own_kb hown hB hk5
        have hszr5 : B ≤ w5.heap.size := Nat.le_trans hszr hk5.size
        have hkr5 := hkr.trans hk5
        clear hown hszr hkr hcr hk5
        go_wp2_with (refine wpList_append_fits _ rfl _ _ 22 rfl B 5 i5 1 Try.underlying22 H.out.1 H.out.2.2.1 B j n _ rfl (hown5.alloc _) ⟨w5.heap.size, 0, none⟩ 1 1 [.int .u8 (97 + y)] rfl rfl (fun j' u hu => by rcases j' with _ | j' <;> simp at hu; subst hu; simp [Addr.add]) (by simp [Value.oneCell']) (by omega) ?_; intro w6 hown6 hgrow6)
        have hk6 : KB g w w6 := ⟨hgrow6.os.trans hkr5.os, hgrow6.tape.trans hkr5.tape, hgrow6.output.trans hkr5.output, Nat.le_trans hkr5.size (Nat.le_trans (by simp) hgrow6.size), fun k hk hne => (hgrow6.block k (by have := hkr5.size; simp; omega) (by simp; omega)).trans ((Below.heap_alloc _ _ _ (by have := hkr5.size; omega)).trans (hkr5.block k hk hne))⟩
        have hc6 : Cs w6 g := (hc5.alloc _).keepG ⟨hgrow6.os, hgrow6.tape, hgrow6.output, hgrow6.size, fun k hk => hgrow6.block k (by simp; omega) (by simp; omega)⟩
        have hsz6 : B ≤ w6.heap.size := Nat.le_trans hszr5 (Nat.le_trans (by simp) hgrow6.size)
        go_roundw
        case rel => exact ⟨j + 1, l ++ [97 + y], by omega, by go_num, rfl, by rw [List.map_append]; exact hown6, hk6, hc6, hsz6⟩
        case measure => simp [intOf]; omega
      · have hdec : decide ((j : Int) < n) = false := by simp; omega
        obtain rfl : j = n := by omega
        have hcv := conv_own hown
        have hl : l.length = j := by simpa using hown.1
        clear hown
        go_wp2_with fail
        go_ret
        exact ⟨_, rfl, by rw [strOf_size]; omega, hkr, hcr⟩

  · have hd0 : decide (q = 0) = false := by simp [q0]
    have hkk := hk.trans hk2
    clear hk hk2 h h1
    obtain ⟨n, rfl⟩ : ∃ n : Nat, r = n := ⟨r.toNat, by omega⟩
    have hn : n ≤ 13 := by omega
    have hB := h2.lt
    have hBw := hkk.size
    go_wp2_with (refine wpList_make_own _ rfl _ _ 22 rfl w2.heap.size 5 i5 (.int .u8 0) 1 Try.underlying22 H.out.1 H.out.2.1 H.out.2.2.1 _ _ (n : Int) n rfl rfl rfl (by rw [H.out.2.2.2]; omega) (by simp only [maxLen]; omega) (Nat.le_refl _) ?_; intro w4 hown hgrow)
    have hk4 := hkk.trans (kb_grown hgrow (by simp))
    have hc4 := h2.keep (w' := w4) ⟨hgrow.os, hgrow.tape, hgrow.output, hgrow.size, fun k hk => hgrow.block k hk (by simp)⟩
    have hown4 : w4.ownsRow w2.heap.size 5 1 (.slice (some ⟨w2.heap.size, 0, none⟩) 0 n) 0 (([] : List Int).map (Value.int .u8)) := hown
    obtain ⟨B, hBe⟩ : ∃ B, w2.heap.size = B := ⟨_, rfl⟩
    rw [hBe] at hB hBw hown4 ⊢
    have hsz4 : B ≤ w4.heap.size := by have := hgrow.size; omega
    clear hown hgrow hkk hBe
    go_loopw [4, 5] (fun v i wr => ∃ (j : Nat) (l : List Int), j ≤ n ∧ i = .int .i64 j ∧ v = .slice (some ⟨B, 0, none⟩) j n ∧ wr.ownsRow B 5 1 (.slice (some ⟨B, 0, none⟩) j n) j (l.map (Value.int .u8)) ∧ KB g w wr ∧ Cs wr g ∧ B ≤ wr.heap.size) (fun _ i _ => n - (intOf i).toNat)
    case atStart => exact ⟨0, [], by omega, rfl, rfl, hown4, hk4, hc4, hsz4⟩
    case round =>
      clear hown4 hk4 hc4 hsz4
      obtain ⟨j, l, hj, rfl, rfl, hown, hkr, hcr, hszr⟩ := hrel
      by_cases hlt : j < n
      · have hdec : decide ((j : Int) < n) = true := by simp; omega
        go_wp2_with fail
        refine (next_calls g 3 _ hcr (by omega) (by omega)).mono ?_
        rintro e w5 ⟨y, rfl, hy0, hy1, hk5, hc5⟩
        have hown5 := own_kb hown hB hk5
        have hszr5 : B ≤ w5.heap.size := Nat.le_trans hszr hk5.size
        have hkr5 := hkr.trans hk5
        clear hown hszr hkr hcr hk5
        go_wp2_with (refine wpList_append_fits _ rfl _ _ 22 rfl B 5 i5 1 Try.underlying22 H.out.1 H.out.2.2.1 B j n _ rfl (hown5.alloc _) ⟨w5.heap.size, 0, none⟩ 1 1 [.int .u8 (97 + y)] rfl rfl (fun j' u hu => by rcases j' with _ | j' <;> simp at hu; subst hu; simp [Addr.add]) (by simp [Value.oneCell']) (by omega) ?_; intro w6 hown6 hgrow6)
        have hk6 : KB g w w6 := ⟨hgrow6.os.trans hkr5.os, hgrow6.tape.trans hkr5.tape, hgrow6.output.trans hkr5.output, Nat.le_trans hkr5.size (Nat.le_trans (by simp) hgrow6.size), fun k hk hne => (hgrow6.block k (by have := hkr5.size; simp; omega) (by simp; omega)).trans ((Below.heap_alloc _ _ _ (by have := hkr5.size; omega)).trans (hkr5.block k hk hne))⟩
        have hc6 : Cs w6 g := (hc5.alloc _).keepG ⟨hgrow6.os, hgrow6.tape, hgrow6.output, hgrow6.size, fun k hk => hgrow6.block k (by simp; omega) (by simp; omega)⟩
        have hsz6 : B ≤ w6.heap.size := Nat.le_trans hszr5 (Nat.le_trans (by simp) hgrow6.size)
        go_roundw
        case rel => exact ⟨j + 1, l ++ [97 + y], by omega, by go_num, rfl, by rw [List.map_append]; exact hown6, hk6, hc6, hsz6⟩
        case measure => simp [intOf]; omega
      · have hdec : decide ((j : Int) < n) = false := by simp; omega
        obtain rfl : j = n := by omega
        have hcv := conv_own hown
        have hl : l.length = j := by simpa using hown.1
        clear hown
        go_wp2_with fail
        go_ret
        exact ⟨_, rfl, by rw [strOf_size]; omega, hkr, hcr⟩

end Go.Proofs.Ytldkgmodmpnclaa
