import Derived.Test.YtldkgmodmpnclaaPageH
namespace Go.Proofs.Ytldkgmodmpnclaa
open Go.RowKit Go.Proofs
set_option linter.unusedVariables false
set_option linter.unusedSimpArgs false
set_option maxRecDepth 100000 in
theorem decode02_size (s : ByteArray) (w : World) (h : s.size ≠ 256) (hs : s.size ≤ 1000000000000) :
    Calls Try.prog 49 #[.string s] w fun e w' => e = .returned (ansP (Page.zero, 2)) ∧ Below w.heap.size w w' := by
  have hd : ((s.size : Int) != 256) = true := by rw [bne_iff_ne]; omega
  go_enter Try.func49, Try.ntmps49
  go_wp2_with (first
    | (refine wpList_alloc_row rfl 59 rfl (pageC Page.zero) zero59 ?_)
    | (refine wpList_store_row rfl 59 (.tmp 2) (.tmp 16) rfl _ (pageC Page.zero) rfl rfl _ _ (PgAt.new w _).out (page_size _) rfl (pageC_oneCell _) ?_))
  exact end59 rfl rfl (PgAt.new w Page.zero).row rfl rfl ⟨rfl, below_setRow ((Below.refl _ _).alloc (Nat.le_refl _) _) (Nat.le_refl _) _⟩
set_option maxRecDepth 100000 in
theorem decode02_blank (w : World) :
    Calls Try.prog 49 #[.string (zeros 256)] w fun e w' => e = .returned (ansP (Page.zero, 7)) ∧ Below w.heap.size w w' := by
  have hd : (((zeros 256).size : Int) != 256) = false := by rw [zeros_size]; rfl
  have hP := PgAt.new w Page.zero
  have hB := (Below.refl w.heap.size w).alloc (Nat.le_refl _) (.cells (pageC Page.zero) 59)
  go_enter Try.func49, Try.ntmps49
  go_wp2_with (first
    | (refine wpList_alloc_row rfl 59 rfl (pageC Page.zero) zero59 ?_)
    | fail)
  refine (blank02_calls _).mono ?_
  rintro e w2 ⟨rfl, hb⟩
  have hP2 := hP.below hb hP.lt
  go_wp2_with (refine wpList_store_row rfl 59 (.tmp 2) (.tmp 21) rfl _ (pageC Page.zero) rfl rfl _ _ hP2.out (page_size _) rfl (pageC_oneCell _) ?_)
  exact end59 rfl rfl hP2.row rfl rfl ⟨rfl, below_setRow (hB.trans (hb.mono (by simp))) (Nat.le_refl _) _⟩
set_option maxRecDepth 100000 in
theorem decode02_position (s : ByteArray) (w : World) (hs : s.size = 256) (hb0 : s ≠ zeros 256) (hp : s.extract 0 8 ≠ s.extract 248 256) :
    Calls Try.prog 49 #[.string s] w fun e w' => e = .returned (ansP (Page.zero, 27)) ∧ Below w.heap.size w w' := by
  have hd : ((s.size : Int) != 256) = false := by rw [hs]; rfl
  have hd2 : (s.toList == (zeros 256).toList) = false := (Lib.bytes_beq_false_iff _ _).2 hb0
  have hP := PgAt.new w Page.zero
  have hB := (Below.refl w.heap.size w).alloc (Nat.le_refl _) (.cells (pageC Page.zero) 59)
  have HS := Lib.hid hs; clear hs
  have hz0 : (8 : Int) ≤ (s.size : Int) := by rw [HS.out]; decide
  have hz1 : (248 : Int) ≤ (s.size : Int) := by rw [HS.out]; decide
  have hz2 : 8 ≤ s.size := by omega
  have hz3 : 248 ≤ s.size := by omega
  have hz4 : (244 : Int) ≤ (s.size : Int) := by omega
  have hz5 : 244 ≤ s.size := by omega
  have hz6 : s.size ≤ 256 := by rw [HS.out]; decide
  have hq : s.extract 0 8 ≠ s.extract 248 s.size := by rw [HS.out]; exact hp
  have he1 : ((s.extract 0 8).toList == (s.extract 248 s.size).toList) = false := (Lib.bytes_beq_false_iff _ _).2 hq
  have he2 : ((s.extract 0 8).toList != (s.extract 248 s.size).toList) = true := by rw [bne, he1]; rfl
  clear hp hq hb0
  go_enter Try.func49, Try.ntmps49
  go_wp2_with (first
    | (refine wpList_alloc_row rfl 59 rfl (pageC Page.zero) zero59 ?_)
    | fail)
  refine (blank02_calls _).mono ?_
  rintro e w2 ⟨rfl, hb⟩
  have hP2 : PgAt w2.drew w.heap.size Page.zero := hP.below hb.drew hP.lt
  have hB2 : Below w.heap.size w w2.drew := (hB.trans (hb.mono (by simp))).drew
  clear hP hB hb
  go_wp2_with fail
  go_region
  go_wp2_with (refine wpList_store_row rfl 59 (.tmp 2) (.tmp 28) rfl _ (pageC Page.zero) rfl rfl _ _ hP2.out (page_size _) rfl (pageC_oneCell _) ?_)
  exact end59 rfl rfl hP2.row rfl rfl ⟨rfl, below_setRow hB2 (Nat.le_refl _) _⟩
set_option maxRecDepth 100000 in
theorem decode02_sum (s : ByteArray) (w : World) (hs : s.size = 256) (hb0 : s ≠ zeros 256) (hp : s.extract 0 8 = s.extract 248 256) (hsum : leN s 244 4 ≠ sumN (s.extract 0 244)) :
    Calls Try.prog 49 #[.string s] w fun e w' => e = .returned (ansP (Page.zero, 3)) ∧ Below w.heap.size w w' := by
  have hd : ((s.size : Int) != 256) = false := by rw [hs]; rfl
  have hd2 : (s.toList == (zeros 256).toList) = false := (Lib.bytes_beq_false_iff _ _).2 hb0
  have hP := PgAt.new w Page.zero
  have hB := (Below.refl w.heap.size w).alloc (Nat.le_refl _) (.cells (pageC Page.zero) 59)
  have HS := Lib.hid hs; clear hs
  have hz0 : (8 : Int) ≤ (s.size : Int) := by rw [HS.out]; decide
  have hz1 : (248 : Int) ≤ (s.size : Int) := by rw [HS.out]; decide
  have hz2 : 8 ≤ s.size := by omega
  have hz3 : 248 ≤ s.size := by omega
  have hz4 : (244 : Int) ≤ (s.size : Int) := by omega
  have hz5 : 244 ≤ s.size := by omega
  have hz6 : s.size ≤ 256 := by rw [HS.out]; decide
  have hq : s.extract 0 8 = s.extract 248 s.size := by rw [HS.out]; exact hp
  have he1 : ((s.extract 0 8).toList == (s.extract 248 s.size).toList) = true := (Lib.bytes_beq_iff _ _).2 hq
  have he2 : ((s.extract 0 8).toList != (s.extract 248 s.size).toList) = false := by rw [bne, he1]; rfl
  have hg : getV s 244 4 = (leN s 244 4 : Int) := getV_small s 244 4 (by omega)
  have hlt4 := leN_lt s 244 4
  have hu : IntKind.u32.wrap (getV s 244 4) = (leN s 244 4 : Int) := by
    rw [hg, IntKind.wrap_u32]
    have : (2 : Nat) ^ (8 * 4) = 4294967296 := rfl
    omega
  have hu2 : getV s 244 4 % 4294967296 = (leN s 244 4 : Int) := by rw [← hu, IntKind.wrap_u32]
  have hne : ((leN s 244 4 : Int) != (sumN (s.extract 0 244) : Int)) = true := by rw [bne_iff_ne]; omega
  clear hp hq hb0 hsum hg hlt4
  go_enter Try.func49, Try.ntmps49
  go_wp2_with (first
    | (refine wpList_alloc_row rfl 59 rfl (pageC Page.zero) zero59 ?_)
    | fail)
  refine (blank02_calls _).mono ?_
  rintro e w2 ⟨rfl, hb⟩
  have hP2 : PgAt w2.drew w.heap.size Page.zero := hP.below hb.drew hP.lt
  have hB2 : Below w.heap.size w w2.drew := (hB.trans (hb.mono (by simp))).drew
  clear hP hB hb
  go_wp2_with fail
  go_region
  go_wp2_with (first
    | (go_at_call 71; refine (get01_int _ _ _ _ (by omega) (by omega) (by omega) (by omega) (by omega)).mono ?_; rintro e w' ⟨rfl, rfl⟩)
    | (go_at_call 82; refine (sum01 _ _ (by rw [ByteArray.size_extract]; omega)).mono ?_; rintro e w' ⟨rfl, rfl⟩)
    | (refine wpList_store_row rfl 59 (.tmp 2) (.tmp 40) rfl _ (pageC Page.zero) rfl rfl _ _ hP2.out (page_size _) rfl (pageC_oneCell _) ?_))
  exact end59 rfl rfl hP2.row rfl rfl ⟨rfl, below_setRow hB2 (Nat.le_refl _) _⟩
theorem rd0_sets (s : ByteArray) : ((pageC Page.zero).setIfInBounds 1 (.int .i64 (getV s 0 8))).setIfInBounds 0 (.int .i64 (getV s 8 4)) = pageC (rdPage s 0) := rfl
set_option maxHeartbeats 1000000 in
set_option maxRecDepth 100000 in
theorem decode02_tail (s : ByteArray) (w : World) (hs : s.size = 256) (hb0 : s ≠ zeros 256) (hp : s.extract 0 8 = s.extract 248 256) (hsum : leN s 244 4 = sumN (s.extract 0 244)) :
    Calls Try.prog 49 #[.string s] w fun e w' => e = .returned (ansP (tailP s)) ∧ Below w.heap.size w w' := by
  have hd : ((s.size : Int) != 256) = false := by rw [hs]; rfl
  have hd2 : (s.toList == (zeros 256).toList) = false := (Lib.bytes_beq_false_iff _ _).2 hb0
  have hP := PgAt.new w Page.zero
  have hB := (Below.refl w.heap.size w).alloc (Nat.le_refl _) (.cells (pageC Page.zero) 59)
  have HS := Lib.hid hs; clear hs
  have hz0 : (8 : Int) ≤ (s.size : Int) := by rw [HS.out]; decide
  have hz1 : (248 : Int) ≤ (s.size : Int) := by rw [HS.out]; decide
  have hz2 : 8 ≤ s.size := by omega
  have hz3 : 248 ≤ s.size := by omega
  have hz4 : (244 : Int) ≤ (s.size : Int) := by omega
  have hz5 : 244 ≤ s.size := by omega
  have hz6 : s.size ≤ 256 := by rw [HS.out]; decide
  have hq : s.extract 0 8 = s.extract 248 s.size := by rw [HS.out]; exact hp
  have he1 : ((s.extract 0 8).toList == (s.extract 248 s.size).toList) = true := (Lib.bytes_beq_iff _ _).2 hq
  have he2 : ((s.extract 0 8).toList != (s.extract 248 s.size).toList) = false := by rw [bne, he1]; rfl
  have hg : getV s 244 4 = (leN s 244 4 : Int) := getV_small s 244 4 (by omega)
  have hlt4 := leN_lt s 244 4
  have hu : IntKind.u32.wrap (getV s 244 4) = (leN s 244 4 : Int) := by
    rw [hg, IntKind.wrap_u32]
    have : (2 : Nat) ^ (8 * 4) = 4294967296 := rfl
    omega
  have hu2 : getV s 244 4 % 4294967296 = (leN s 244 4 : Int) := by rw [← hu, IntKind.wrap_u32]
  have hne : ((leN s 244 4 : Int) != (sumN (s.extract 0 244) : Int)) = false := by rw [bne_eq_false_iff_eq]; omega
  clear hp hq hb0 hsum hg hlt4
  go_enter Try.func49, Try.ntmps49
  go_wp2_with (first
    | (refine wpList_alloc_row rfl 59 rfl (pageC Page.zero) zero59 ?_)
    | fail)
  refine (blank02_calls _).mono ?_
  rintro e w2 ⟨rfl, hb⟩
  have hP2 : PgAt w2.drew w.heap.size Page.zero := hP.below hb.drew hP.lt
  have hB2 : Below w.heap.size w w2.drew := (hB.trans (hb.mono (by simp))).drew
  clear hP hB hb
  go_wp2_with fail
  go_region
  go_wp2_with (first
    | (go_at_call 71; refine (get01_int _ _ _ _ (by omega) (by omega) (by omega) (by omega) (by omega)).mono ?_; rintro e w' ⟨rfl, rfl⟩)
    | (go_at_call 82; refine (sum01 _ _ (by rw [ByteArray.size_extract]; omega)).mono ?_; rintro e w' ⟨rfl, rfl⟩)
    | (refine wpList_alloc_row rfl 59 rfl (pageC Page.zero) zero59 ?_))
  rw [rd0_sets]
  have hPb : PgAt (w2.alloc (.cells (pageC (rdPage s 0)) 59)).drew w2.heap.size (rdPage s 0) := PgAt.new w2 _
  have hPz : PgAt (w2.alloc (.cells (pageC (rdPage s 0)) 59)).drew w.heap.size Page.zero := (show PgAt w2 _ _ from hP2).alloc _
  have hBz : Below w.heap.size w (w2.alloc (.cells (pageC (rdPage s 0)) 59)).drew := (hB2.alloc hB2.size (.cells (pageC (rdPage s 0)) 59))
  have hlt2 : w.heap.size < w2.heap.size := hP2.lt
  clear hP2 hB2 hd hd2 he1 he2 hu hu2 hne
  obtain ⟨b, hb⟩ : ∃ b, w2.heap.size = b := ⟨_, rfl⟩
  rw [hb] at hPb hlt2 ⊢
  generalize (w2.alloc (.cells (pageC (rdPage s 0)) 59)).drew = W at hPb hPz hBz ⊢
  clear hb
  go_loopw [7, 8, 9] (fun i _ _ wr => ∃ j : Nat, j ≤ 16 ∧ i = .int .i64 j ∧ (∀ i, i < j → rdOk s i = true) ∧ PgAt wr w.heap.size Page.zero ∧ PgAt wr b (rdPage s j) ∧ Below w.heap.size w wr) (fun i _ _ _ => 16 - (intOf i).toNat)
  case atStart => exact ⟨0, by omega, rfl, fun i hi => by omega, hPz, hPb, hBz⟩
  case round =>
    clear hPb hPz hBz
    obtain ⟨j, hj, rfl, hall, hP0, hP, hB⟩ := hrel
    have HALL := Lib.hid hall; clear hall
    by_cases hlt : j < 16
    · have hdec : decide ((j : Int) < 16) = true := by simp; omega
      have hcl := byte_lt (bt s (12 + 13 * j))
      have hbt : s[12 + j * 13]'(by omega) = bt s (12 + 13 * j) := by rw [bt_get]; congr 1; omega
      obtain ⟨n, hn⟩ : ∃ n, (bt s (12 + 13 * j)).toNat = n := ⟨_, rfl⟩
      have hbn : ((s[12 + j * 13]'(by omega)).toNat : Int) = (n : Int) := by rw [hbt, hn]
      rw [hn] at hcl
      have HN := Lib.hid (show cellLen s j = n from hn); clear hn hbt
      by_cases h255 : n = 255
      · have hd1 : ((n : Int) == 255) = true := by rw [h255]; rfl
        have H255 := Lib.hid h255; clear h255
        go_wp2_with fail
        go_roundw
        case rel => exact ⟨j + 1, by omega, by go_num, rdAll_snoc HALL.out (by unfold rdOk; rw [HN.out, H255.out]; rfl), hP0, by rw [rdPage_skip s j (by rw [HN.out, H255.out])]; exact hP, hB⟩
        case measure => simp [intOf]; omega
      · have hd1 : ((n : Int) == 255) = false := by
          rw [beq_eq_false_iff_ne]
          omega
        by_cases h12 : n ≤ 12
        · have hd2 : decide (12 < (n : Int)) = false := by simp; omega
          obtain ⟨hc1, hc2⟩ := page_cell wr b (rdPage s j) hP.out j hlt
          have hf1 : wr.frozen? ⟨b, 2 + j * 2, none⟩ = false := heap_free hP.out _
          have hf2 : wr.frozen? ⟨b, 2 + j * 2 + 1, none⟩ = false := heap_free hP.out _
          go_wp2_with fail
          go_roundw
          case rel =>
            have hrd : rdCell s j = ⟨true, s.extract (12 + j * 13 + 1) (12 + j * 13 + 1 + n)⟩ := by
              unfold rdCell
              rw [HN.out, if_neg h255, show 12 + 13 * j = 12 + j * 13 by omega]
            refine ⟨j + 1, by omega, by go_num, rdAll_snoc HALL.out (by unfold rdOk; rw [HN.out]; simp [h12]), (hP0.setCell _ (by simp; omega)).setCell _ (by simp; omega), ?_, (hB.setCell (by simp; omega) _).setCell (by simp; omega) _⟩
            have hput := hP.put hlt (rdCell s j)
            rw [rdPage_put s j hlt, hrd] at hput
            exact hput
          case measure => simp [intOf]; omega
        · have hd2 : decide (12 < (n : Int)) = true := by simp; omega
          have hno : rdAll s = false := rdAll_not hlt (by unfold rdOk; rw [HN.out]; simp [h255]; omega)
          have ht : tailP s = (Page.zero, 4) := by unfold tailP; rw [hno]; rfl
          have HT := Lib.hid ht
          clear ht hno
          go_wp2_with (refine wpList_store_row rfl 59 (.tmp 2) (.tmp 68) rfl _ (pageC Page.zero) rfl rfl _ _ hP0.out (page_size _) rfl (pageC_oneCell _) ?_)
          exact end59 rfl rfl hP0.row rfl rfl ⟨by rw [HT.out], below_setRow hB (Nat.le_refl _) _⟩
    · have hdec : decide ((j : Int) < 16) = false := by simp; omega
      obtain rfl : j = 16 := by omega
      have hyes : rdAll s = true := rdAll_yes HALL.out
      have hres : rdRes s = rdPage s 16 := by unfold rdRes; rw [hyes]; rfl
      have henc := Lib.hid (fun W => encode02_calls (rdPage s 16) W)
      have htl := Lib.hid (show tailP s = if pageErr (rdPage s 16) = 0 ∧ encP (rdPage s 16) = s then (rdPage s 16, 0) else (Page.zero, 4) from by unfold tailP; rw [hyes, hres]; simp)
      clear hyes hres HALL
      obtain ⟨q, hq_⟩ : ∃ q, rdPage s 16 = q := ⟨_, rfl⟩
      obtain ⟨n, hn_⟩ : ∃ n, pageErr q = n := ⟨_, rfl⟩
      obtain ⟨x, hx_⟩ : ∃ x, encP q = x := ⟨_, rfl⟩
      rw [hq_] at henc htl hP
      rw [hn_, hx_] at henc htl
      clear hq_ hn_ hx_
      go_wp2_with (refine wpList_load_row rfl 59 (.tmp 6) rfl b rfl _ _ _ _ hP.out Try.underlying59 rfl (page_size _) ?_)
      refine (henc.out _).mono ?_
      rintro e w8 ⟨rfl, hb8⟩
      have hPq := hP.below hb8 hP.lt
      have hP8 := hP0.below hb8 hP0.lt
      have hB8 := hB.trans (hb8.mono hB.size)
      clear hP0 hP hB hb8 henc
      by_cases hok : n = 0 ∧ x = s
      · obtain ⟨rfl, hxs⟩ := hok
        have hx1 : (x.toList == s.toList) = true := (Lib.bytes_beq_iff _ _).2 hxs
        have hx2 : (x.toList != s.toList) = false := by rw [bne, hx1]; rfl
        have ht : tailP s = (q, 0) := by rw [htl.out, if_pos ⟨rfl, hxs⟩]
        have HT := Lib.hid ht
        clear ht htl hxs
        go_wp2_with (first
          | (refine wpList_load_row rfl 59 (.tmp 6) rfl b rfl _ _ _ _ hPq.out Try.underlying59 rfl (page_size _) ?_)
          | (refine wpList_store_row rfl 59 (.tmp 2) (.tmp 94) rfl w.heap.size (pageC q) rfl rfl _ _ hP8.out (page_size _) (by rw [pageC_size, pageC_size]) (pageC_oneCell _) ?_))
        exact end59 rfl rfl hP8.row rfl rfl ⟨by rw [HT.out], below_setRow hB8 (Nat.le_refl _) _⟩
      · have ht : tailP s = (Page.zero, 4) := by rw [htl.out, if_neg hok]
        have HT := Lib.hid ht
        clear ht htl
        by_cases hn : n = 0
        · have hxs : x ≠ s := fun h => hok ⟨hn, h⟩
          have hx1 : (x.toList == s.toList) = false := (Lib.bytes_beq_false_iff _ _).2 hxs
          have hx2 : (x.toList != s.toList) = true := by rw [bne, hx1]; rfl
          have hn1 : (n != 0) = false := by rw [bne_eq_false_iff_eq]; exact hn
          clear hxs hok hn
          go_wp2_with (refine wpList_store_row rfl 59 (.tmp 2) (.tmp 93) rfl w.heap.size (pageC Page.zero) rfl rfl _ _ hP8.out (page_size _) rfl (pageC_oneCell _) ?_)
          exact end59 rfl rfl hP8.row rfl rfl ⟨by rw [HT.out], below_setRow hB8 (Nat.le_refl _) _⟩
        · have hn1 : (n != 0) = true := by rw [bne_iff_ne]; exact hn
          clear hok hn
          go_wp2_with (refine wpList_store_row rfl 59 (.tmp 2) (.tmp 93) rfl w.heap.size (pageC Page.zero) rfl rfl _ _ hP8.out (page_size _) rfl (pageC_oneCell _) ?_)
          exact end59 rfl rfl hP8.row rfl rfl ⟨by rw [HT.out], below_setRow hB8 (Nat.le_refl _) _⟩
/-- The reference's Decode: the page with these bytes, or the error. -/
theorem decode02_calls (s : ByteArray) (w : World) (hs : s.size ≤ 1000000000000) :
    Calls Try.prog 49 #[.string s] w fun e w' => e = .returned (ansP (decP s)) ∧ Below w.heap.size w w' := by
  unfold decP
  by_cases h1 : s.size ≠ 256
  · rw [if_pos h1]; exact decode02_size s w h1 hs
  · rw [if_neg h1]
    have h1' : s.size = 256 := by omega
    by_cases h2 : s = zeros 256
    · rw [if_pos h2]
      subst h2
      exact decode02_blank w
    · rw [if_neg h2]
      by_cases h3 : s.extract 0 8 ≠ s.extract 248 256
      · rw [if_pos h3]; exact decode02_position s w h1' h2 h3
      · rw [if_neg h3]
        have h3' : s.extract 0 8 = s.extract 248 256 := by simpa using h3
        by_cases h4 : leN s 244 4 ≠ sumN (s.extract 0 244)
        · rw [if_pos h4]; exact decode02_sum s w h1' h2 h3' h4
        · rw [if_neg h4]
          have h4' : leN s 244 4 = sumN (s.extract 0 244) := by simpa using h4
          rw [← tailP_eq]
          exact decode02_tail s w h1' h2 h3' h4'
end Go.Proofs.Ytldkgmodmpnclaa
