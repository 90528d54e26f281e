import Derived.Test.YtldkgmodmpnclaaPageD
namespace Go.Proofs.Ytldkgmodmpnclaa
open Go.RowKit Go.Proofs
set_option linter.unusedVariables false
set_option linter.unusedSimpArgs false
theorem below_undrew {w w' : World} (h : Below w.drew.heap.size w.drew w') : Below w.heap.size w w' := ⟨h.os, h.tape, h.output, h.size, h.block⟩
theorem empty_app (x : ByteArray) : (⟨#[]⟩ : ByteArray) ++ x = x := ByteArray.empty_append
theorem cells_le {p : Page} (hc : cellsOk p = true) (j : Nat) : (encCells (p.cells.take j)).size ≤ 208 := by
  have := encCells_size (p.cells.take j) (fun c hm => cellsOk_data hc c (List.mem_of_mem_take hm))
  rw [this, List.length_take, p.len]
  omega
theorem cells_snoc {p : Page} {j : Nat} (h : j < 16) : p.cells.take (j + 1) = p.cells.take j ++ [p.cells.getD j Cell.none] := by
  have hj : j < p.cells.length := by rw [p.len]; exact h
  rw [List.take_succ_eq_append_getElem hj]
  simp [List.getD_eq_getElem?_getD, hj]
theorem cell_le {p : Page} (hc : cellsOk p = true) {j : Nat} (h : j < 16) : (p.cells.getD j Cell.none).data.size ≤ 12 := by
  have hj : j < p.cells.length := by rw [p.len]; exact h
  refine cellsOk_data hc _ ?_
  rw [List.getD_eq_getElem?_getD, List.getElem?_eq_getElem hj]
  exact List.getElem_mem hj
set_option maxHeartbeats 1000000 in
set_option maxRecDepth 100000 in
theorem encode_ok (p : Page) (w : World) (hp : placed p = true) (hc : cellsOk p = true) :
    Calls Try.prog 37 #[.agg (pageC p)] w fun e w' => e = .returned (.tuple #[.string (encBytes p), .int .i64 0]) ∧ Below w.heap.size w w' := by
  have HN := Lib.hid (fun W => placed_calls p W)
  have HV := Lib.hid (fun W => cells_calls p W)
  have HP := PgAt.new w p
  have HB := (Below.refl w.heap.size w).alloc (Nat.le_refl _) (.cells (pageC p) 59)
  rw [hp] at HN
  rw [hc] at HV
  go_enter Try.func37, Try.ntmps37
  go_wp2_with (refine wpList_load_row rfl 59 (.tmp 1) rfl w.heap.size rfl _ _ _ _ HP.out Try.underlying59 rfl (page_size p) ?_)
  refine (HN.out _).mono ?_
  rintro e w2 ⟨rfl, hb2⟩
  have HP2 := HP.below hb2 HP.lt
  have HB2 := HB.trans (hb2.mono (by simp))
  go_wp2_with (refine wpList_load_row rfl 59 (.tmp 1) rfl w.heap.size rfl _ _ _ _ HP2.out Try.underlying59 rfl (page_size p) ?_)
  refine (HV.out _).mono ?_
  rintro e w3 ⟨rfl, hb3⟩
  have HP3 := HP2.below hb3 HP2.lt
  have HB3 := HB2.trans (hb3.mono HB2.size)
  clear HP HP2 HB HB2 hb2 hb3 HN HV
  go_wp2_with fail
  have hA := Lib.hid HP3.lsn
  have hI := Lib.hid HP3.id
  have hq := HP3.lt
  have mk := Lib.hid (show ∀ w', Kp (w.heap.size + 1) w3 w' → w'.cell? ⟨w.heap.size, 1, none⟩ = some (.int .i64 p.lsn) ∧ w'.cell? ⟨w.heap.size, 0, none⟩ = some (.int .i64 p.id) ∧ Kp (w.heap.size + 1) w3 w' from fun w' hk => ⟨hk.cell (by simp) hA.out, hk.cell (by simp) hI.out, hk⟩)
  go_region_held3 (fun w' => w'.cell? ⟨w.heap.size, 1, none⟩ = some (.int .i64 p.lsn) ∧ w'.cell? ⟨w.heap.size, 0, none⟩ = some (.int .i64 p.id) ∧ Kp (w.heap.size + 1) w3 w')
    (first
      | exact mk.out _ (Kp.start w3 (w.heap.size + 1) (by omega))
      | (go_split_ands; exact mk.out _ (Kp.step (by assumption) hb))
      | (go_split_ands; exact mk.out _ (Kp.alloc (by assumption) _)))
    ((go_at_call 65; refine (putC_int _ _ _ _ (by omega) (by omega) (by first | decide | (simp only [ByteArray.size_append, leB_size]; decide))).mono ?_; rintro e w' ⟨rfl, hb⟩))
  rename_i w1_ hb1_ hHeld
  have hsz1 : w3.heap.size ≤ w1_.heap.size := hb1_.size
  have hsz2 := hb.size
  obtain ⟨_, _, hkz⟩ := hHeld
  obtain ⟨bb, hbb⟩ : ∃ bb, w'.heap.size = bb := ⟨_, rfl⟩
  obtain ⟨wz, hwz⟩ : ∃ wz, w'.alloc (.cells #[.string (⟨#[]⟩ ++ leB p.lsn 8 ++ leB p.id 4)] 105) = wz := ⟨_, rfl⟩
  have hbz : wz.heap[bb]? = some (.cells #[.string (encHead p ++ encCells (p.cells.take 0))] 105 (0, 0)) := by
    rw [← hwz, ← hbb, heap_alloc_new, empty_app]
    rfl
  rw [hwz] at hkz ⊢
  rw [hbb]
  have hPz : PgAt wz w.heap.size p := HP3.below hkz.below (by omega)
  have hBz : Below w.heap.size w wz := HB3.trans (hkz.below.mono (by omega))
  have hlt : w.heap.size < bb := by omega
  clear hwz hbb hkz hsz1 hsz2 hb hb1_ mk hA hI hq HP3 HB3
  have HR := Lib.hid (range_page wz w.heap.size p hPz.out)
  go_wp2_with (refine wpList_load_mid rfl 57 (.tmp 27) rfl w.heap.size 2 rfl _ _ HR.out Try.underlying57 rfl (by rw [cellsV_length, p.len]; kernel_rfl) ?_)
  go_loopw [7, 29] (fun _ i wr => ∃ j : Nat, j ≤ 16 ∧ i = .int .i64 j ∧ PgAt wr w.heap.size p ∧ wr.heap[bb]? = some (.cells #[.string (encHead p ++ encCells (p.cells.take j))] 105 (0, 0)) ∧ Below w.heap.size w wr) (fun _ i _ => 16 - (intOf i).toNat)
  case atStart => exact ⟨0, by omega, rfl, hPz, hbz, hBz⟩
  case round =>
    clear HR hbz hPz hBz
    obtain ⟨j, hj, rfl, hP, hb, hB⟩ := hrel
    have HBk := Lib.hid hb
    have hz := heap_lt hb
    clear hb
    by_cases hlt16 : j < 16
    · have hdec : decide ((j : Int) < 16) = true := by simp; omega
      have hix := fun W => run_index_cells W p.cells j p.len hlt16
      obtain ⟨c, hcc⟩ : ∃ c, p.cells.getD j Cell.none = c := ⟨_, rfl⟩
      have hcle := cell_le hc hlt16
      have hsn := cells_snoc (p := p) hlt16
      rw [hcc] at hix hcle hsn
      have HC := Lib.hid hsn; clear hsn hcc
      have hb0 : (wr.alloc (.cells #[.bool c.set, .string c.data] 27)).heap[bb]? = some (.cells #[.string (encHead p ++ encCells (p.cells.take j))] 105 (0, 0)) := by
        rw [Below.heap_alloc _ _ _ hz]; exact HBk.out
      have HB0 := Lib.hid hb0; clear hb0
      have hle := cells_le hc j
      go_wp2_with fail
      refine (bcell_calls bb _ c _ HB0.out (by rw [ByteArray.size_append, encHead_size]; omega) hcle).mono ?_
      rintro e w4 ⟨rfl, hg4, hk4⟩
      go_wp2_with fail
      go_roundw
      case rel =>
        refine ⟨j + 1, by omega, by go_num, ?_, ?_, (hB.alloc hB.size _).trans (hk4.below (by have := hB.size; simp; omega) (by omega))⟩
        · exact (hk4.block _ (by simp; omega) (by omega)).trans (hP.alloc _)
        · rw [hg4, HC.out, encCells_snoc, ByteArray.append_assoc]
      case measure => simp [intOf]; omega
    · have hdec : decide ((j : Int) < 16) = false := by simp; omega
      obtain rfl : j = 16 := by omega
      have hfull : p.cells.take 16 = p.cells := List.take_of_length_le (by rw [p.len]; exact Nat.le_refl _)
      obtain ⟨t, ht⟩ : ∃ t, encHead p ++ encCells (p.cells.take 16) = t := ⟨_, rfl⟩
      have htz : t.size = 220 := by
        rw [← ht, hfull, ByteArray.size_append, encHead_size, encCells_size _ (cellsOk_data hc), p.len]
      have hbody : t ++ zeros 24 = encBody p := by rw [← ht, hfull]; rfl
      rw [ht] at HBk
      clear ht hfull
      have hcell : wr.cell? ⟨bb, 0, none⟩ = some (.string t) := by rw [heap_cell HBk.out]; rfl
      have hn1 : ¬ 9223372036854775807 < t.size + (zeros 24).size := by rw [zeros_size]; omega
      have hcE := Lib.hid hcell
      have hT := Lib.hid htz; have hBo := Lib.hid hbody
      have hw24 : IntKind.i64.wrap (244 - (t.size : Int)) = 24 := by rw [htz]; rfl
      clear htz hbody
      go_wp2_with fail
      have mk := Lib.hid (show ∀ w', Kp (bb + 1) wr w' → w'.cell? ⟨bb, 0, none⟩ = some (.string t) ∧ Kp (bb + 1) wr w' from fun w' hk => ⟨hk.cell (by simp) hcE.out, hk⟩)
      go_region_held3 (fun w' => w'.cell? ⟨bb, 0, none⟩ = some (.string t) ∧ Kp (bb + 1) wr w')
        (first
          | exact mk.out _ (Kp.start wr (bb + 1) (by omega))
          | (go_split_ands; exact mk.out _ (Kp.step (by assumption) hb)))
        ((go_at_call 76; refine (repeat_int _ _ (by omega) (by omega)).mono ?_; rintro e w' ⟨rfl, hb⟩))
      rw [hBo.out]
      obtain ⟨x, hx⟩ : ∃ x, encBody p = x := ⟨_, rfl⟩
      rw [hx]
      have hxz : x.size ≤ 1000 := by rw [← hx, encBody_size hc]; omega
      have hxl := sumN_lt x
      have hsw : IntKind.i64.wrap ((sumN x : Nat) : Int) = (sumN x : Int) := IntWalk.i64_in _ (by omega)
      have hP5 : PgAt w' w.heap.size p := hP.below (below_undrew hb) (by omega)
      have hB5 : Below w.heap.size w w' := hB.trans ((below_undrew hb).mono hB.size)
      have hX := Lib.hid hx
      have hA := Lib.hid hP5.lsn
      have hq := hP5.lt
      clear hx mk hcE hT hBo hcell HBk hP hB
      go_wp2_with fail
      have mk := Lib.hid (show ∀ w'', Kp (w.heap.size + 1) w' w'' → w''.cell? ⟨w.heap.size, 1, none⟩ = some (.int .i64 p.lsn) ∧ Kp (w.heap.size + 1) w' w'' from fun w'' hk => ⟨hk.cell (by simp) hA.out, hk⟩)
      go_region_held3 (fun w'' => w''.cell? ⟨w.heap.size, 1, none⟩ = some (.int .i64 p.lsn) ∧ Kp (w.heap.size + 1) w' w'')
        (first
          | exact mk.out _ (Kp.start w' (w.heap.size + 1) (by omega))
          | (go_split_ands; exact mk.out _ (Kp.step (by assumption) hb)))
        (first
          | (go_at_call 77; refine (sumC _ _ (by omega)).mono ?_; rintro e w6 ⟨rfl, hb⟩)
          | (go_at_call 65; refine (putC_int _ _ _ _ (by omega) (by omega) (by (try simp only [ByteArray.size_append, leB_size]); omega)).mono ?_; rintro e w6 ⟨rfl, hb⟩))
      rename_i hHeld
      have hk6 := hHeld.2
      clear hHeld mk
      go_wp2
      go_ret2
      refine ⟨?_, hB5.trans (hk6.below.mono (by omega))⟩
      unfold encBytes
      rw [hX.out]
      rfl
set_option maxRecDepth 100000 in
theorem encode_no (p : Page) (w : World) (h : pageOk p = false) :
    Calls Try.prog 37 #[.agg (pageC p)] w fun e w' => e = .returned (.tuple #[.string ByteArray.empty, .int .i64 (pageErr p)]) ∧ Below w.heap.size w w' := by
  have HN := Lib.hid (fun W => placed_calls p W)
  have HV := Lib.hid (fun W => cells_calls p W)
  have HP := PgAt.new w p
  have HB := (Below.refl w.heap.size w).alloc (Nat.le_refl _) (.cells (pageC p) 59)
  unfold pageErr
  cases hp : placed p
  · rw [hp] at HN
    go_enter Try.func37, Try.ntmps37
    go_wp2_with (refine wpList_load_row rfl 59 (.tmp 1) rfl w.heap.size rfl _ _ _ _ HP.out Try.underlying59 rfl (page_size p) ?_)
    refine (HN.out _).mono ?_
    rintro e w2 ⟨rfl, hb2⟩
    go_wp2
    go_ret2
    exact ⟨rfl, HB.trans (hb2.mono (by simp))⟩
  · have hc : cellsOk p = false := by
      unfold pageOk at h
      rw [hp] at h
      simpa using h
    rw [hp] at HN
    rw [hc] at HV ⊢
    go_enter Try.func37, Try.ntmps37
    go_wp2_with (refine wpList_load_row rfl 59 (.tmp 1) rfl w.heap.size rfl _ _ _ _ HP.out Try.underlying59 rfl (page_size p) ?_)
    refine (HN.out _).mono ?_
    rintro e w2 ⟨rfl, hb2⟩
    have HP2 := HP.below hb2 HP.lt
    have HB2 := HB.trans (hb2.mono (by simp))
    go_wp2_with (refine wpList_load_row rfl 59 (.tmp 1) rfl w.heap.size rfl _ _ _ _ HP2.out Try.underlying59 rfl (page_size p) ?_)
    refine (HV.out _).mono ?_
    rintro e w3 ⟨rfl, hb3⟩
    go_wp2
    go_ret2
    exact ⟨rfl, HB2.trans (hb3.mono HB2.size)⟩
/-- page.Encode: the bytes of a page, or the error. -/
theorem encode_calls (p : Page) (w : World) :
    Calls Try.prog 37 #[.agg (pageC p)] w fun e w' => e = .returned (.tuple #[.string (encP p), .int .i64 (pageErr p)]) ∧ Below w.heap.size w w' := by
  unfold encP
  cases h : pageOk p
  · exact encode_no p w h
  · have hp : placed p = true ∧ cellsOk p = true := by simpa [pageOk] using h
    have he : pageErr p = 0 := by unfold pageErr; rw [hp.1, hp.2]; rfl
    rw [he]
    exact encode_ok p w hp.1 hp.2
end Go.Proofs.Ytldkgmodmpnclaa
