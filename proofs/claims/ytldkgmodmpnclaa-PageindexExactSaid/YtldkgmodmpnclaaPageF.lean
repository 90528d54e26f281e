import Derived.Test.YtldkgmodmpnclaaPageE
namespace Go.Proofs.Ytldkgmodmpnclaa
open Go.RowKit Go.Proofs
set_option linter.unusedVariables false
set_option linter.unusedSimpArgs false
theorem zeros_int (n : Int) (w : World) (h0 : 0 ≤ n) (hn : n ≤ 1000000) : Calls Try.prog 81 #[.int .i64 n] w fun e w' => e = .returned (.string (zeros n.toNat)) ∧ Below w.heap.size w w' := by
  obtain ⟨m, rfl⟩ := Int.eq_ofNat_of_zero_le h0
  rw [Int.toNat_natCast]
  exact zeros_calls m w (by omega)
theorem encCell_eq (t : ByteArray) (c : Cell) (n : Int) (h : n = cellN c) (k : Nat) (hk : k = 12 - c.data.size) : t ++ leB n 1 ++ (c.data ++ zeros k) = t ++ encCell c := by
  subst h hk
  unfold encCell
  rw [ByteArray.append_assoc]
set_option maxHeartbeats 2000000 in
set_option maxRecDepth 100000 in
theorem encode02_ok (p : Page) (w : World) (hp : placed p = true) (hc : cellsOk p = true) :
    Calls Try.prog 39 #[.agg (pageC p)] w fun e w' => e = .returned (.tuple #[.string (encBytes p), .int .i64 0]) ∧ Below w.heap.size w w' := by
  have HN := Lib.hid (fun W => check02_calls p W)
  have HP := PgAt.new w p
  have HB := (Below.refl w.heap.size w).alloc (Nat.le_refl _) (.cells (pageC p) 59)
  have he : pageErr p = 0 := by unfold pageErr; rw [hp, hc]; rfl
  rw [he] at HN
  clear he
  go_enter Try.func39, Try.ntmps39
  go_wp2_with (refine wpList_load_row rfl 59 (.tmp 1) rfl w.heap.size rfl _ _ _ _ HP.out Try.underlying59 rfl (page_size p) ?_)
  refine (HN.out _).mono ?_
  rintro e w2 ⟨rfl, hb2⟩
  have HP2 := HP.below hb2 HP.lt
  have HB2 := HB.trans (hb2.mono (by simp))
  clear HP HB hb2 HN
  have hA := HP2.lsn
  go_wp2_with fail
  refine (put01_int _ _ _ _ (by omega) (by omega) (by decide)).mono ?_
  rintro e w3 ⟨rfl, hb3⟩
  have HP3 := HP2.below hb3 HP2.lt
  have HB3 := HB2.trans (hb3.mono HB2.size)
  clear HP2 HB2 hb3 hA
  have hI := HP3.id
  go_wp2_with fail
  refine (put01_int _ _ _ _ (by omega) (by omega) (by rw [ByteArray.size_append, leB_size]; decide)).mono ?_
  rintro e w4 ⟨rfl, hb4⟩
  have HP4 := HP3.below hb4 HP3.lt
  have HB4 := HB3.trans (hb4.mono HB3.size)
  clear HP3 HB3 hb4 hI
  go_wp2_with fail
  go_loopw [5, 6, 7] (fun s i _ wr => ∃ j : Nat, j ≤ 16 ∧ i = .int .i64 j ∧ s = .string (encHead p ++ encCells (p.cells.take j)) ∧ PgAt wr w.heap.size p ∧ Below w.heap.size w wr) (fun _ i _ _ => 16 - (intOf i).toNat)
  case atStart => exact ⟨0, by omega, rfl, by rw [empty_app]; rfl, HP4, HB4⟩
  case round =>
    clear HP4 HB4
    obtain ⟨j, hj, rfl, rfl, hP, hB⟩ := hrel
    have hle := cells_le hc j
    have htz : (encHead p ++ encCells (p.cells.take j)).size ≤ 220 := by rw [ByteArray.size_append, encHead_size]; omega
    by_cases hlt16 : j < 16
    · have hdec : decide ((j : Int) < 16) = true := by simp; omega
      have hcl := page_cell wr w.heap.size p hP.out j hlt16
      obtain ⟨t, ht⟩ : ∃ t, encHead p ++ encCells (p.cells.take j) = t := ⟨_, rfl⟩
      rw [ht] at htz ⊢
      obtain ⟨c, hcc⟩ : ∃ c, p.cells.getD j Cell.none = c := ⟨_, rfl⟩
      have hcle := cell_le hc hlt16
      have hsn := cells_snoc (p := p) hlt16
      rw [hcc] at hcle hsn hcl
      obtain ⟨hc1, hc2⟩ := hcl
      have HC := Lib.hid hsn; have HT := Lib.hid ht; have hcc' := Lib.hid hcc; clear hsn hcc ht hle
      obtain ⟨n, hn⟩ : ∃ n, cellN c = n := ⟨_, rfl⟩
      have hcN : (c.set = false ∧ n = 255) ∨ (c.set = true ∧ n = c.data.size) := by
        rw [← hn]
        unfold cellN
        cases c.set
        · exact .inl ⟨rfl, rfl⟩
        · exact .inr ⟨rfl, rfl⟩
      have HN := Lib.hid hn; clear hn
      rcases hcN with ⟨hset, rfl⟩ | ⟨hset, rfl⟩
      all_goals
        rw [hset] at hc1
        go_wp2_with fail
        refine (put01_int _ _ _ _ (by omega) (by omega) (by omega)).mono ?_
        rintro e w5 ⟨rfl, hb5⟩
        have HP5 := hP.below hb5 hP.lt
        have HB5 := hB.trans (hb5.mono hB.size)
        clear hb5 hc1 hc2
        have hD := Lib.hid (page_cell w5 w.heap.size p HP5.out j hlt16).2
        rw [hcc'.out] at hD
        have hq := HP5.lt
        obtain ⟨t1, ht1⟩ : ∃ t1, t ++ leB (cellN c) 1 = t1 := ⟨_, rfl⟩
        have ht1z : t1.size ≤ 221 := by rw [← ht1, ByteArray.size_append, leB_size]; omega
        obtain ⟨z, hz⟩ : ∃ z, zeros (12 - (c.data.size : Int)).toNat = z := ⟨_, rfl⟩
        have hz2 : z.size = 12 - c.data.size := by rw [← hz, zeros_size]; omega
        have hr := Lib.hid (fun W => zeros_int (12 - (c.data.size : Int)) W (by omega) (by omega))
        rw [hz] at hr
        rw [show t ++ leB _ (Int.toNat 1) = t1 from by rw [← ht1, HN.out]; rfl]
        have hfin : t1 ++ (c.data ++ z) = encHead p ++ encCells (p.cells.take (j + 1)) := by
          rw [← ht1, ← hz, encCell_eq t c _ rfl _ (by omega), HC.out, encCells_snoc, ← ByteArray.append_assoc, HT.out]
        have hw12 : IntKind.i64.wrap (12 - (c.data.size : Int)) = 12 - (c.data.size : Int) := IntWalk.i64_in _ (by omega)
        have hn1 : ¬ 9223372036854775807 < c.data.size + z.size := by omega
        have hn2 : ¬ 9223372036854775807 < t1.size + (c.data.size + z.size) := by omega
        have hj0 : (0 : Int) ≤ (j : Int) := by omega
        have hj1 : (j : Int) < 16 := by omega
        have HF := Lib.hid hfin
        clear hfin ht1 hz hz2
        go_wp2_with fail
        have mk := Lib.hid (show ∀ w', Kp (w.heap.size + 1) w5 w' → w'.cell? ⟨w.heap.size, 2 + j * 2 + 1, none⟩ = some (.string c.data) ∧ Kp (w.heap.size + 1) w5 w' from fun w' hk => ⟨hk.cell (by simp) hD.out, hk⟩)
        go_region_held3 (fun w' => w'.cell? ⟨w.heap.size, 2 + j * 2 + 1, none⟩ = some (.string c.data) ∧ Kp (w.heap.size + 1) w5 w')
          (first
            | exact mk.out _ (Kp.start w5 (w.heap.size + 1) (by omega))
            | (go_split_ands; exact mk.out _ (Kp.step (by assumption) hb)))
          ((go_at_call 81; refine (hr.out _).mono ?_; rintro e w6 ⟨rfl, hb⟩))
        rename_i hHeld
        have hk6 := hHeld.2
        clear hHeld mk
        have hP6 := HP5.below hk6.below (by omega)
        go_wp2_with fail
        go_roundw
        case rel => exact ⟨j + 1, by omega, by go_num, by rw [HF.out], hP6, HB5.trans (hk6.below.mono (by omega))⟩
        case measure => simp [intOf]; omega
    · have hdec : decide ((j : Int) < 16) = false := by simp; omega
      obtain rfl : j = 16 := by omega
      have hfull : p.cells.take 16 = p.cells := List.take_of_length_le (by rw [p.len]; exact Nat.le_refl _)
      obtain ⟨t, ht⟩ : ∃ t, encHead p ++ encCells (p.cells.take 16) = t := ⟨_, rfl⟩
      have htz : t.size = 220 := by
        rw [← ht, hfull, ByteArray.size_append, encHead_size, encCells_size _ (cellsOk_data hc), p.len]
      have hbody : t ++ zeros 24 = encBody p := by rw [← ht, hfull]; rfl
      rw [ht]
      clear ht hfull
      have hw24 : IntKind.i64.wrap (244 - (t.size : Int)) = 24 := by rw [htz]; rfl
      have hT := Lib.hid htz; have hBo := Lib.hid hbody
      clear htz hbody
      have hn1 : ¬ 9223372036854775807 < t.size + (zeros 24).size := by rw [zeros_size, hT.out]; omega
      have hn3 : t.size ≤ 220 := by rw [hT.out]; omega
      clear hle htz
      go_wp2_with fail
      refine (zeros_int 24 _ (by omega) (by omega)).mono ?_
      rintro e w5 ⟨rfl, hb5⟩
      have hP5 := hP.below hb5 hP.lt
      have hB5 := hB.trans (hb5.mono hB.size)
      clear hP hB hb5
      rw [show (24 : Int).toNat = 24 from rfl]
      obtain ⟨x, hx⟩ : ∃ x, encBody p = x := ⟨_, rfl⟩
      have hxz : x.size ≤ 1000 := by rw [← hx, encBody_size hc]; omega
      have hxl := sumN_lt x
      have hsw : IntKind.i64.wrap ((sumN x : Nat) : Int) = (sumN x : Int) := IntWalk.i64_in _ (by omega)
      rw [hx] at hBo
      have hX := Lib.hid hx; clear hx
      have hcat : ∀ W, (Op.stringOp .add t (zeros 24)).run Try.prog W = .ok (.string x) W := fun W => by
        rw [run_string_add_sum W t (zeros 24) (by rw [zeros_size]; omega), hBo.out]
      go_wp2_with fail
      refine (sum01 x _ (by omega)).mono ?_
      rintro e w6 ⟨rfl, rfl⟩
      go_wp2_with fail
      refine (put01_int _ _ _ _ (by omega) (by omega) (by omega)).mono ?_
      rintro e w6 ⟨rfl, hb6⟩
      have hP6 := hP5.below hb6 hP5.lt
      have hB6 := hB5.trans (hb6.mono hB5.size)
      have hA := hP6.lsn
      clear hP5 hB5 hb6
      go_wp2_with fail
      refine (put01_int _ _ _ _ (by omega) (by omega) (by rw [ByteArray.size_append, leB_size]; omega)).mono ?_
      rintro e w7 ⟨rfl, hb7⟩
      go_wp2
      go_ret2
      refine ⟨?_, hB6.trans (hb7.mono hB6.size)⟩
      unfold encBytes
      rw [hX.out]
      rfl
set_option maxRecDepth 100000 in
theorem encode02_no (p : Page) (w : World) (h : pageOk p = false) :
    Calls Try.prog 39 #[.agg (pageC p)] w fun e w' => e = .returned (.tuple #[.string ByteArray.empty, .int .i64 (pageErr p)]) ∧ Below w.heap.size w w' := by
  have HN := Lib.hid (fun W => check02_calls p W)
  have HP := PgAt.new w p
  have HB := (Below.refl w.heap.size w).alloc (Nat.le_refl _) (.cells (pageC p) 59)
  have he : pageErr p = 1 ∨ pageErr p = 22 := by
    unfold pageErr
    unfold pageOk at h
    cases hp : placed p
    · exact .inl rfl
    · rw [hp] at h
      have hc : cellsOk p = false := by simpa using h
      rw [hc]
      exact .inr rfl
  obtain ⟨n, hn⟩ : ∃ n, pageErr p = n := ⟨_, rfl⟩
  rw [hn] at HN he ⊢
  clear hn
  have hne : (n != 0) = true := by rcases he with rfl | rfl <;> rfl
  go_enter Try.func39, Try.ntmps39
  go_wp2_with (refine wpList_load_row rfl 59 (.tmp 1) rfl w.heap.size rfl _ _ _ _ HP.out Try.underlying59 rfl (page_size p) ?_)
  refine (HN.out _).mono ?_
  rintro e w2 ⟨rfl, hb2⟩
  go_wp2
  go_ret2
  exact ⟨rfl, HB.trans (hb2.mono (by simp))⟩
/-- The reference's Encode answers as the program's does. -/
theorem encode02_calls (p : Page) (w : World) :
    Calls Try.prog 39 #[.agg (pageC p)] w fun e w' => e = .returned (.tuple #[.string (encP p), .int .i64 (pageErr p)]) ∧ Below w.heap.size w w' := by
  unfold encP
  cases h : pageOk p
  · exact encode02_no p w h
  · have hp : placed p = true ∧ cellsOk p = true := by simpa [pageOk] using h
    have he : pageErr p = 0 := by unfold pageErr; rw [hp.1, hp.2]; rfl
    rw [he]
    exact encode02_ok p w hp.1 hp.2
end Go.Proofs.Ytldkgmodmpnclaa
