import Derived.Test.YtldkgmodmpnclaaAwake
namespace Go.Proofs.Ytldkgmodmpnclaa
open Go.RowKit Go.Proofs
set_option linter.unusedVariables false
set_option linter.unusedSimpArgs false
theorem bt_eq (s : ByteArray) (i : Nat) (h : i < s.size) : bt s i = s[i] := (bt_get s i h).symm
theorem bt_ext {a b : ByteArray} (hs : a.size = b.size) (h : ∀ i, i < a.size → bt a i = bt b i) : a = b := by
  apply ByteArray.ext
  apply Array.ext
  · exact hs
  · intro i h1 h2
    have := h i h1
    rw [bt_eq _ _ h1, bt_eq _ _ h2] at this
    exact this
theorem bt_extract (s : ByteArray) (a b i : Nat) (h : a + i < b) : bt (s.extract a b) i = bt s (a + i) := by
  unfold bt
  rw [ByteArray.data_extract, Array.toList_extract, List.getD_eq_getElem?_getD, List.getD_eq_getElem?_getD]
  rw [List.extract_eq_take_drop, List.getElem?_take, if_pos (by omega), List.getElem?_drop]
theorem bt_leB (n : Int) (k i : Nat) (h : i < k) : bt (leB n k) i = leByte n i := by
  simp [bt, leB, List.getD_eq_getElem?_getD, h]
theorem bt_zeros (n i : Nat) : bt (zeros n) i = 0 := by
  simp only [bt, zeros, List.getD_eq_getElem?_getD, Array.toList_replicate, List.getElem?_replicate]
  split <;> rfl
theorem leByte_nat (n j : Nat) (h : n < 2 ^ 64) : (leByte (n : Int) j).toNat = n / 2 ^ (8 * j) % 256 := by
  unfold leByte
  rw [u64_wrap_nat n h, UInt8.toNat_ofNat']
  have : ((n : Int) / 2 ^ (8 * j) % 256).toNat = n / 2 ^ (8 * j) % 256 := by
    have e : ((n : Int) / 2 ^ (8 * j) % 256) = ((n / 2 ^ (8 * j) % 256 : Nat) : Int) := by
      rw [Int.natCast_emod, Int.natCast_ediv, Int.natCast_pow]
      rfl
    rw [e, Int.toNat_natCast]
  rw [this]
  omega
theorem leN_of (s : ByteArray) (p n k : Nat) (h : n < 2 ^ 64) (hb : ∀ i, i < k → bt s (p + i) = leByte (n : Int) i) : leN s p k = n % 2 ^ (8 * k) := by
  induction k with
  | zero => simp [leN, Nat.mod_one]
  | succ k ih =>
    simp only [leN]
    rw [ih (fun i hi => hb i (by omega)), hb k (by omega), leByte_nat n k h]
    rw [show 2 ^ (8 * (k + 1)) = 2 ^ (8 * k) * 256 by rw [show 8 * (k + 1) = 8 * k + 8 by omega, Nat.pow_add], Nat.mod_mul]
    omega
theorem leN_congr (s t : ByteArray) (p q k : Nat) (hb : ∀ i, i < k → bt s (p + i) = bt t (q + i)) : leN s p k = leN t q k := by
  induction k with
  | zero => rfl
  | succ k ih =>
    simp only [leN]
    rw [ih (fun i hi => hb i (by omega)), hb k (by omega)]
/-! ### Where the bytes of a page lie -/
theorem encCells_nil : encCells [] = ByteArray.empty := rfl
theorem encCells_fold (l : List Cell) (s : ByteArray) : l.foldl (fun s c => s ++ encCell c) s = s ++ encCells l := by
  induction l generalizing s with
  | nil => apply ByteArray.ext; simp [encCells]
  | cons c l ih =>
    have e : encCells (c :: l) = ByteArray.empty ++ encCell c ++ encCells l := ih _
    rw [List.foldl_cons, ih, e]
    apply ByteArray.ext
    simp [ByteArray.data_append]
theorem encCells_cons (c : Cell) (l : List Cell) : encCells (c :: l) = encCell c ++ encCells l := by
  have e : encCells (c :: l) = ByteArray.empty ++ encCell c ++ encCells l := encCells_fold l _
  rw [e]
  apply ByteArray.ext
  simp [ByteArray.data_append]
theorem bt_cells (l : List Cell) (h : ∀ c ∈ l, c.data.size ≤ 12) (k m : Nat) (hk : k < l.length) (hm : m < 13) : bt (encCells l) (13 * k + m) = bt (encCell (l.getD k Cell.none)) m := by
  induction l generalizing k with
  | nil => simp at hk
  | cons c l ih =>
    have hc := encCell_size c (h c (by simp))
    rw [encCells_cons]
    cases k with
    | zero => rw [bt_left _ _ _ (by omega)]; simp
    | succ k =>
      rw [bt_right _ _ _ (by omega), hc, show 13 * (k + 1) + m - 13 = 13 * k + m by omega, ih (fun c hc => h c (by simp [hc])) k (by simpa using hk)]
      simp
theorem bt_cell0 (c : Cell) : bt (encCell c) 0 = leByte (cellN c) 0 := by
  unfold encCell
  rw [bt_left _ _ _ (by rw [leB_size]; omega), bt_leB _ _ _ (by omega)]
theorem bt_cellS (c : Cell) (m : Nat) : bt (encCell c) (m + 1) = if m < c.data.size then bt c.data m else 0 := by
  unfold encCell
  rw [bt_right _ _ _ (by rw [leB_size]; omega), leB_size, Nat.add_sub_cancel]
  split
  · rw [bt_left _ _ _ (by assumption)]
  · rw [bt_right _ _ _ (by omega), bt_zeros]
section
variable {p : Page} (h : cellsOk p = true)
include h
theorem size_cells : (encCells p.cells).size = 208 := by rw [encCells_size _ (cellsOk_data h), p.len]
theorem enc_lsn (i : Nat) (hi : i < 8) : bt (encBytes p) i = leByte p.lsn i := by
  have := encBody_size h
  have h1 := encHead_size p
  have h2 := size_cells h
  have h3 := leB_size p.lsn 8
  unfold encBytes
  rw [bt_left _ _ _ (by rw [ByteArray.size_append]; omega), bt_left _ _ _ (by omega)]
  unfold encBody
  rw [bt_left _ _ _ (by rw [ByteArray.size_append]; omega), bt_left _ _ _ (by omega)]
  unfold encHead
  rw [bt_left _ _ _ (by omega), bt_leB _ _ _ hi]
theorem enc_id (i : Nat) (hi : i < 4) : bt (encBytes p) (8 + i) = leByte p.id i := by
  have := encBody_size h
  have h1 := encHead_size p
  have h2 := size_cells h
  have h3 := leB_size p.lsn 8
  unfold encBytes
  rw [bt_left _ _ _ (by rw [ByteArray.size_append]; omega), bt_left _ _ _ (by omega)]
  unfold encBody
  rw [bt_left _ _ _ (by rw [ByteArray.size_append]; omega), bt_left _ _ _ (by omega)]
  unfold encHead
  rw [bt_right _ _ _ (by omega), h3, Nat.add_sub_cancel_left, bt_leB _ _ _ hi]
theorem enc_cell (k m : Nat) (hk : k < 16) (hm : m < 13) : bt (encBytes p) (12 + 13 * k + m) = bt (encCell (p.at k)) m := by
  have := encBody_size h
  have h1 := encHead_size p
  have h2 := size_cells h
  unfold encBytes
  rw [bt_left _ _ _ (by rw [ByteArray.size_append]; omega), bt_left _ _ _ (by omega)]
  unfold encBody
  rw [bt_left _ _ _ (by rw [ByteArray.size_append]; omega), bt_right _ _ _ (by omega), h1, show 12 + 13 * k + m - 12 = 13 * k + m by omega]
  rw [bt_cells _ (cellsOk_data h) k m (by rw [p.len]; exact hk) hm]
  rfl
theorem enc_pad (i : Nat) (h0 : 220 ≤ i) (hi : i < 244) : bt (encBytes p) i = 0 := by
  have := encBody_size h
  have h1 := encHead_size p
  have h2 := size_cells h
  unfold encBytes
  rw [bt_left _ _ _ (by rw [ByteArray.size_append]; omega), bt_left _ _ _ (by omega)]
  unfold encBody
  rw [bt_right _ _ _ (by rw [ByteArray.size_append]; omega), bt_zeros]
theorem enc_body (i : Nat) (hi : i < 244) : bt (encBytes p) i = bt (encBody p) i := by
  have := encBody_size h
  unfold encBytes
  rw [bt_left _ _ _ (by rw [ByteArray.size_append]; omega), bt_left _ _ _ (by omega)]
theorem enc_sum (i : Nat) (hi : i < 4) : bt (encBytes p) (244 + i) = leByte (sumN (encBody p) : Int) i := by
  have := encBody_size h
  unfold encBytes
  rw [bt_left _ _ _ (by rw [ByteArray.size_append, leB_size]; omega), bt_right _ _ _ (by omega), this, Nat.add_sub_cancel_left, bt_leB _ _ _ hi]
theorem enc_lsn2 (i : Nat) (hi : i < 8) : bt (encBytes p) (248 + i) = leByte p.lsn i := by
  have := encBody_size h
  unfold encBytes
  rw [bt_right _ _ _ (by rw [ByteArray.size_append, leB_size]; omega), ByteArray.size_append, leB_size, this, show 248 + i - (244 + 4) = i by omega, bt_leB _ _ _ hi]
end
/-! ### A page is read back out of its bytes -/
theorem enc_extract {p : Page} (h : cellsOk p = true) : (encBytes p).extract 0 244 = encBody p := by
  refine bt_ext (by rw [ByteArray.size_extract, encBytes_size h, encBody_size h]; rfl) fun i hi => ?_
  rw [ByteArray.size_extract, encBytes_size h] at hi
  rw [bt_extract _ _ _ _ (by omega), Nat.zero_add, enc_body h i (by omega)]
theorem pcell_ok {p : Page} (h : cellsOk p = true) (k : Nat) : cellOk p.lsn (p.at k) = true := by
  unfold Page.at
  rw [List.getD_eq_getElem?_getD]
  cases hk : p.cells[k]? with
  | none =>
    show cellOk p.lsn Cell.none = true
    simp only [cellOk, none_fits, Bool.true_and]
    rfl
  | some c => exact List.all_eq_true.1 h c (List.mem_of_getElem? hk)
theorem cell_size_le {p : Page} (h : cellsOk p = true) (k : Nat) : (p.at k).data.size ≤ 12 := by
  have := pcell_ok h k
  simp only [cellOk, cellFits, Bool.and_eq_true, decide_eq_true_eq] at this
  omega
theorem cell_unset {p : Page} (h : cellsOk p = true) (k : Nat) (hu : (p.at k).set = false) : p.at k = Cell.none := by
  have := pcell_ok h k
  simp only [cellOk, cellFits, Bool.and_eq_true, hu, Bool.false_or, List.isEmpty_iff] at this
  have hd : (p.at k).data = ByteArray.empty := by
    have h2 := this.1.2
    refine (Lib.bytes_beq_iff _ _).1 ?_
    rw [h2]
    simp
  cases hc : p.at k
  rw [hc] at hu hd
  simp at hu hd
  subst hu hd
  rfl
theorem cellN_nat (c : Cell) : cellN c = ((if c.set then c.data.size else 255 : Nat) : Int) := by
  unfold cellN
  split <;> rfl
theorem enc_len {p : Page} (h : cellsOk p = true) (k : Nat) (hk : k < 16) : cellLen (encBytes p) k = if (p.at k).set then (p.at k).data.size else 255 := by
  have hs := cell_size_le h k
  unfold cellLen
  have e := enc_cell h k 0 hk (by omega)
  rw [Nat.add_zero] at e
  rw [e, bt_cell0, cellN_nat]
  split
  · rw [leByte_nat _ _ (by omega)]; simp; omega
  · rfl
theorem rdCell_enc {p : Page} (h : cellsOk p = true) (k : Nat) (hk : k < 16) : rdCell (encBytes p) k = p.at k := by
  have hs := cell_size_le h k
  unfold rdCell
  rw [enc_len h k hk]
  cases hset : (p.at k).set
  · rw [if_pos (by simp), cell_unset h k hset]
  · simp only [if_true]
    rw [if_neg (by omega)]
    have hz := encBytes_size h
    have e : (encBytes p).extract (12 + 13 * k + 1) (12 + 13 * k + 1 + (p.at k).data.size) = (p.at k).data := by
      refine bt_ext (by rw [ByteArray.size_extract]; omega) fun i hi => ?_
      rw [ByteArray.size_extract] at hi
      rw [bt_extract _ _ _ _ (by omega), show 12 + 13 * k + 1 + i = 12 + 13 * k + (i + 1) by omega, enc_cell h k (i + 1) hk (by omega), bt_cellS, if_pos (by omega)]
    rw [e]
    cases hc : p.at k
    rw [hc] at hset
    simp at hset
    rw [hset]
theorem rdPage_enc {p : Page} (h : pageOk p = true) : rdPage (encBytes p) 16 = p := by
  unfold pageOk placed at h
  simp only [Bool.and_eq_true] at h
  obtain ⟨⟨hid, hlsn⟩, hc⟩ := h
  simp only [named, Bool.and_eq_true, decide_eq_true_eq] at hid
  simp only [lsnOk, Bool.and_eq_true, decide_eq_true_eq] at hlsn
  obtain ⟨n, hn⟩ : ∃ n : Nat, p.id = n := ⟨p.id.toNat, by omega⟩
  obtain ⟨m, hm⟩ : ∃ m : Nat, p.lsn = m := ⟨p.lsn.toNat, by omega⟩
  refine Page.ext' ?_ ?_ ?_
  · show getV (encBytes p) 8 4 = p.id
    rw [getV_small _ _ _ (by omega), leN_of _ 8 n 4 (by omega) (fun i hi => by rw [enc_id hc i hi, hn]), hn, Nat.mod_eq_of_lt (by omega)]
  · show getV (encBytes p) 0 8 = p.lsn
    unfold getV
    rw [getU_eq _ _ _ (by omega), leN_of _ 0 m 8 (by omega) (fun i hi => by rw [Nat.zero_add, enc_lsn hc i hi, hm]), hm, Nat.mod_eq_of_lt (by omega), wrap64_small _ (by omega)]
  · show ((List.range 16).map fun i => if i < 16 then rdCell (encBytes p) i else Cell.none) = p.cells
    apply List.ext_getElem
    · simp [p.len]
    · intro i h1 h2
      simp only [List.length_map, List.length_range] at h1
      simp only [List.getElem_map, List.getElem_range]
      rw [if_pos h1, rdCell_enc hc i h1]
      simp [Page.at, List.getD_eq_getElem?_getD, h2]
theorem rdAll_enc {p : Page} (h : cellsOk p = true) : rdAll (encBytes p) = true := by
  refine rdAll_yes fun i hi => ?_
  have hs := cell_size_le h i
  unfold rdOk
  rw [enc_len h i hi]
  split
  · simp [hs]
  · simp
theorem leN_sum {p : Page} (h : cellsOk p = true) : leN (encBytes p) 244 4 = sumN (encBody p) := by
  have hl := sumN_lt (encBody p)
  rw [leN_of _ 244 (sumN (encBody p)) 4 (by omega) (fun i hi => enc_sum h i hi), Nat.mod_eq_of_lt (by omega)]
theorem leByte_zero (i : Nat) : leByte ((0 : Nat) : Int) i = 0 := by
  show UInt8.ofNat ((0 : Int) / 2 ^ (8 * i) % 256).toNat = 0
  rw [Int.zero_ediv]
  rfl
theorem enc_ne_zeros {p : Page} (h : pageOk p = true) : encBytes p ≠ zeros 256 := by
  intro e
  have hr := rdPage_enc h
  have hp := h
  unfold pageOk at h
  rw [Bool.and_eq_true] at h
  have hc := h.2
  have hz : ∀ i, bt (encBytes p) i = 0 := fun i => by rw [e, bt_zeros]
  have hl : p.lsn = 0 := by
    rw [← hr]
    show getV (encBytes p) 0 8 = 0
    rw [e]
    unfold getV
    rw [getU_eq _ _ _ (by omega), leN_of (zeros 256) 0 0 8 (by omega) (fun i _ => by rw [bt_zeros, leByte_zero])]
    rw [Nat.zero_mod]
    exact wrap64_small 0 (by decide)
  have h0 := pcell_ok hc 0
  have hu : (p.at 0).set = false := by
    simp only [cellOk, hl] at h0
    cases hs : (p.at 0).set
    · rfl
    · rw [hs] at h0; simp at h0
  have hx := enc_cell hc 0 0 (by omega) (by omega)
  rw [hz, bt_cell0, cell_unset hc 0 hu] at hx
  exact absurd hx (by decide)
/-- A valid page is decoded from its bytes. -/
theorem decP_enc {p : Page} (h : pageOk p = true) : decP (encBytes p) = (p, 0) := by
  have hp := h
  unfold pageOk at h
  rw [Bool.and_eq_true] at h
  have hc := h.2
  unfold decP
  rw [if_neg (by rw [encBytes_size hc]; omega), if_neg (enc_ne_zeros hp), if_neg, if_neg (by rw [leN_sum hc, enc_extract hc]; simp), rdPage_enc hp, if_pos ⟨rdAll_enc hc, hp, rfl⟩]
  intro hne
  apply hne
  refine bt_ext (by simp [ByteArray.size_extract, encBytes_size hc]) fun i hi => ?_
  rw [ByteArray.size_extract] at hi
  rw [bt_extract _ _ _ _ (by omega), bt_extract _ _ _ _ (by omega), Nat.zero_add, enc_lsn hc i (by omega), enc_lsn2 hc i (by omega)]
/-- .. and found where it belongs alone. -/
theorem idP_enc {p : Page} (h : pageOk p = true) (k : Int) (hk : named k = true) : idP (encBytes p) k = if k = p.id then (p, 0) else (Page.zero, 6) := by
  unfold idP
  rw [if_neg (by rw [hk]; simp), decP_enc h]
  simp only
  rw [if_neg (by omega), if_neg (by simp)]
  by_cases e : k = p.id
  · rw [if_neg (by simp [e]), if_pos e]
  · rw [if_pos (fun e' => e e'.symm), if_neg e]
theorem idP_blank (k : Int) (hk : named k = true) : idP (zeros 256) k = (Page.new k, 0) := by
  unfold idP
  rw [if_neg (by rw [hk]; simp)]
  have : decP (zeros 256) = (Page.zero, 7) := by
    unfold decP
    rw [if_neg (by rw [zeros_size]; simp), if_pos rfl]
  rw [this]
  rfl
end Go.Proofs.Ytldkgmodmpnclaa
