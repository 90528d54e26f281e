import Derived.Test.YtldkgmodmpnclaaPageI
namespace Go.Proofs.Ytldkgmodmpnclaa
open Go.RowKit Go.Proofs
set_option linter.unusedVariables false
set_option linter.unusedSimpArgs false
set_option maxHeartbeats 1000000 in
set_option maxRecDepth 100000 in
/-- page.Identify: the page that is read where a page has to be. -/
theorem identify_calls (s : ByteArray) (id : Int) (w : World) (hs : s.size ≤ 1000000000000) :
    Calls Try.prog 51 #[.string s, .int .i64 id] w fun e w' => e = .returned (ansP (idP s id)) ∧ Below w.heap.size w w' := by
  have hdec := Lib.hid (fun W => decode_calls s W hs)
  have hnm := Lib.hid (fun W => named_calls id W)
  have hans := Lib.hid (show idP s id = if named id = false then (Page.zero, 1) else if (decP s).2 = 7 then (Page.new id, 0) else if (decP s).2 ≠ 0 then (Page.zero, (decP s).2) else if (decP s).1.id ≠ id then (Page.zero, 6) else ((decP s).1, 0) from rfl)
  obtain ⟨⟨d, k⟩, hd⟩ : ∃ d, decP s = d := ⟨_, rfl⟩
  obtain ⟨b, hb⟩ : ∃ b, named id = b := ⟨_, rfl⟩
  rw [hd] at hdec hans
  rw [hb] at hnm hans
  clear hd hb
  have hP := PgAt.new w Page.zero
  have hB := (Below.refl w.heap.size w).alloc (Nat.le_refl _) (.cells (pageC Page.zero) 59)
  cases b
  · have HT := Lib.hid (show idP s id = (Page.zero, 1) from by rw [hans.out]; rfl)
    clear hans
    go_enter Try.func51, Try.ntmps51
    go_wp2_with (first
      | (refine wpList_alloc_row rfl 59 rfl (pageC Page.zero) zero59 ?_)
      | (go_at_call 86; refine (hnm.out _).mono ?_; rintro e w' ⟨rfl, rfl⟩)
      | (refine wpList_store_row rfl 59 (.tmp 4) (.tmp 11) rfl _ (pageC Page.zero) rfl rfl _ _ hP.out (page_size _) rfl (pageC_oneCell _) ?_))
    exact end59 rfl rfl hP.row rfl rfl ⟨by rw [HT.out], below_setRow hB (Nat.le_refl _) _⟩
  · go_enter Try.func51, Try.ntmps51
    go_wp2_with (first
      | (refine wpList_alloc_row rfl 59 rfl (pageC Page.zero) zero59 ?_)
      | (go_at_call 86; refine (hnm.out _).mono ?_; rintro e w' ⟨rfl, rfl⟩))
    refine (hdec.out _).mono ?_
    rintro e w2 ⟨rfl, hb2⟩
    have hP2 := hP.below hb2 hP.lt
    have hB2 := hB.trans (hb2.mono (by simp))
    clear hP hB hb2 hdec
    unfold ansP
    have hPa := hP2.alloc (.cells (pageC d) 59)
    have hPd := PgAt.new w2 d
    have hBa := hB2.alloc hB2.size (.cells (pageC d) 59)
    by_cases h7 : k = 7
    · have h71 : (k == 7) = true := by rw [h7]; rfl
      have HT := Lib.hid (show idP s id = (Page.new id, 0) from by rw [hans.out]; simp [h7])
      clear hans h7
      go_wp2_with (first
        | (refine wpList_alloc_row rfl 59 rfl (pageC Page.zero) zero59 ?_)
        | (refine wpList_store_row rfl 59 (.tmp 6) (.tmp 15) rfl _ (pageC d) rfl rfl _ _ (heap_alloc_new _ _) (page_size _) (by rw [pageC_size, pageC_size]) (pageC_oneCell _) ?_; rw [World.setRow_alloc_new])
        | fail)
      refine (new_calls id _).mono ?_
      rintro e w3 ⟨rfl, hb3⟩
      have hP3 := hPa.below hb3 hPa.lt
      have hB3 := hBa.trans (hb3.mono hBa.size)
      go_wp2_with (refine wpList_store_row rfl 59 (.tmp 4) (.tmp 21) rfl _ (pageC (Page.new id)) rfl rfl _ _ hP3.out (page_size _) (by rw [pageC_size, pageC_size]) (pageC_oneCell _) ?_)
      exact end59 rfl rfl hP3.row rfl rfl ⟨by rw [HT.out], below_setRow hB3 (Nat.le_refl _) _⟩
    · have h71 : (k == 7) = false := by rw [beq_eq_false_iff_ne]; exact h7
      by_cases h0 : k ≠ 0
      · have h01 : (k != 0) = true := by rw [bne_iff_ne]; exact h0
        have HT := Lib.hid (show idP s id = (Page.zero, k) from by rw [hans.out]; simp [h7, h0])
        clear hans h7 h0
        go_wp2_with (first
          | (refine wpList_alloc_row rfl 59 rfl (pageC Page.zero) zero59 ?_)
          | (refine wpList_store_row rfl 59 (.tmp 6) (.tmp 15) rfl _ (pageC d) rfl rfl _ _ (heap_alloc_new _ _) (page_size _) (by rw [pageC_size, pageC_size]) (pageC_oneCell _) ?_; rw [World.setRow_alloc_new])
          | (refine wpList_store_row rfl 59 (.tmp 4) (.tmp 25) rfl _ (pageC Page.zero) rfl rfl _ _ hPa.out (page_size _) rfl (pageC_oneCell _) ?_))
        exact end59 rfl rfl hPa.row rfl rfl ⟨by rw [HT.out], below_setRow hBa (Nat.le_refl _) _⟩
      · have h01 : (k != 0) = false := by rw [bne_eq_false_iff_eq]; simpa using h0
        have hc := hPd.id
        by_cases hi : d.id ≠ id
        · have hi1 : (d.id != id) = true := by rw [bne_iff_ne]; exact hi
          have HT := Lib.hid (show idP s id = (Page.zero, 6) from by rw [hans.out]; simp [h7, h0, hi])
          clear hans h7 h0 hi
          go_wp2_with (first
            | (refine wpList_alloc_row rfl 59 rfl (pageC Page.zero) zero59 ?_)
            | (refine wpList_store_row rfl 59 (.tmp 6) (.tmp 15) rfl _ (pageC d) rfl rfl _ _ (heap_alloc_new _ _) (page_size _) (by rw [pageC_size, pageC_size]) (pageC_oneCell _) ?_; rw [World.setRow_alloc_new])
            | (refine wpList_store_row rfl 59 (.tmp 4) (.tmp 32) rfl _ (pageC Page.zero) rfl rfl _ _ hPa.out (page_size _) rfl (pageC_oneCell _) ?_))
          exact end59 rfl rfl hPa.row rfl rfl ⟨by rw [HT.out], below_setRow hBa (Nat.le_refl _) _⟩
        · have hi1 : (d.id != id) = false := by rw [bne_eq_false_iff_eq]; simpa using hi
          have HT := Lib.hid (show idP s id = (d, 0) from by rw [hans.out]; simp [h7, h0, hi])
          clear hans h7 h0 hi
          go_wp2_with (first
            | (refine wpList_alloc_row rfl 59 rfl (pageC Page.zero) zero59 ?_)
            | (refine wpList_store_row rfl 59 (.tmp 6) (.tmp 15) rfl _ (pageC d) rfl rfl _ _ (heap_alloc_new _ _) (page_size _) (by rw [pageC_size, pageC_size]) (pageC_oneCell _) ?_; rw [World.setRow_alloc_new])
            | (refine wpList_load_row rfl 59 (.tmp 6) rfl w2.heap.size rfl _ _ _ _ hPd.out Try.underlying59 rfl (page_size _) ?_)
            | (refine wpList_store_row rfl 59 (.tmp 4) (.tmp 33) rfl _ (pageC d) rfl rfl _ _ hPa.out (page_size _) (by rw [pageC_size, pageC_size]) (pageC_oneCell _) ?_))
          exact end59 rfl rfl hPa.row rfl rfl ⟨by rw [HT.out], below_setRow hBa (Nat.le_refl _) _⟩
theorem decP_zero (s : ByteArray) (h : (decP s).2 ≠ 0) : (decP s).1 = Page.zero := by
  unfold decP at h ⊢
  repeat' split
  all_goals first | rfl | (exfalso; simp_all; done)
set_option maxHeartbeats 1000000 in
set_option maxRecDepth 100000 in
/-- The reference's Identify: the page that is read where a page has to be. -/
theorem identify02_calls (s : ByteArray) (id : Int) (w : World) (hs : s.size ≤ 1000000000000) :
    Calls Try.prog 52 #[.string s, .int .i64 id] w fun e w' => e = .returned (ansP (idP s id)) ∧ Below w.heap.size w w' := by
  have hdec := Lib.hid (fun W => decode02_calls s W hs)
  have hans := Lib.hid (show idP s id = if named id = false then (Page.zero, 1) else if (decP s).2 = 7 then (Page.new id, 0) else if (decP s).2 ≠ 0 then (Page.zero, (decP s).2) else if (decP s).1.id ≠ id then (Page.zero, 6) else ((decP s).1, 0) from rfl)
  obtain ⟨⟨d, k⟩, hd⟩ : ∃ d, decP s = d := ⟨_, rfl⟩
  have hz := Lib.hid (decP_zero s)
  obtain ⟨b, hb⟩ : ∃ b, named id = b := ⟨_, rfl⟩
  have hnb : (b = true ∧ 0 ≤ id ∧ id < 64) ∨ (b = false ∧ (id < 0 ∨ 64 ≤ id)) := by
    rw [← hb]
    unfold named
    by_cases h0 : 0 ≤ id <;> by_cases h1 : id < 64 <;> simp [h0, h1] <;> omega
  rw [hd] at hdec hans hz
  rw [hb] at hans
  clear hd hb
  have hP := PgAt.new w Page.zero
  have hB := (Below.refl w.heap.size w).alloc (Nat.le_refl _) (.cells (pageC Page.zero) 59)
  rcases hnb with ⟨rfl, hi0, hi1⟩ | ⟨rfl, hno⟩
  rotate_left
  · have HT := Lib.hid (show idP s id = (Page.zero, 1) from by rw [hans.out]; rfl)
    clear hans
    by_cases hneg : id < 0
    · have hd1 : decide (id < 0) = true := decide_eq_true hneg
      go_enter Try.func52, Try.ntmps52
      go_wp2_with (first
        | (refine wpList_alloc_row rfl 59 rfl (pageC Page.zero) zero59 ?_)
        | (refine wpList_store_row rfl 59 (.tmp 4) (.tmp 14) rfl _ (pageC Page.zero) rfl rfl _ _ hP.out (page_size _) rfl (pageC_oneCell _) ?_))
      exact end59 rfl rfl hP.row rfl rfl ⟨by rw [HT.out], below_setRow hB (Nat.le_refl _) _⟩
    · have hd1 : decide (id < 0) = false := decide_eq_false hneg
      have hd2 : decide (64 ≤ id) = true := by simp; omega
      go_enter Try.func52, Try.ntmps52
      go_wp2_with (first
        | (refine wpList_alloc_row rfl 59 rfl (pageC Page.zero) zero59 ?_)
        | (refine wpList_store_row rfl 59 (.tmp 4) (.tmp 14) rfl _ (pageC Page.zero) rfl rfl _ _ hP.out (page_size _) rfl (pageC_oneCell _) ?_))
      exact end59 rfl rfl hP.row rfl rfl ⟨by rw [HT.out], below_setRow hB (Nat.le_refl _) _⟩
  · have hd1 : decide (id < 0) = false := by simp; omega
    have hd2 : decide (64 ≤ id) = false := by simp; omega
    go_enter Try.func52, Try.ntmps52
    go_wp2_with (first
      | (refine wpList_alloc_row rfl 59 rfl (pageC Page.zero) zero59 ?_)
      | fail)
    refine (hdec.out _).mono ?_
    rintro e w2 ⟨rfl, hb2⟩
    have hP2 := hP.below hb2 hP.lt
    have hB2 := hB.trans (hb2.mono (by simp))
    clear hP hB hb2 hdec
    unfold ansP
    have hPa := hP2.alloc (.cells (pageC d) 59)
    have hPd := PgAt.new w2 d
    have hBa := hB2.alloc hB2.size (.cells (pageC d) 59)
    by_cases h7 : k = 7
    · have h71 : (k == 7) = true := by rw [h7]; rfl
      have HT := Lib.hid (show idP s id = (Page.new id, 0) from by rw [hans.out]; simp [h7])
      clear hans h7
      go_wp2_with (first
        | (refine wpList_alloc_row rfl 59 rfl (pageC Page.zero) zero59 ?_)
        | (refine wpList_store_row rfl 59 (.tmp 6) (.tmp 18) rfl _ (pageC d) rfl rfl _ _ (heap_alloc_new _ _) (page_size _) (by rw [pageC_size, pageC_size]) (pageC_oneCell _) ?_; rw [World.setRow_alloc_new])
        | fail)
      refine (new02_calls id _).mono ?_
      rintro e w3 ⟨rfl, hb3⟩
      have hP3 := hPa.below hb3 hPa.lt
      have hB3 := hBa.trans (hb3.mono hBa.size)
      go_wp2_with (refine wpList_store_row rfl 59 (.tmp 4) (.tmp 23) rfl _ (pageC (Page.new id)) rfl rfl _ _ hP3.out (page_size _) (by rw [pageC_size, pageC_size]) (pageC_oneCell _) ?_)
      exact end59 rfl rfl hP3.row rfl rfl ⟨by rw [HT.out], below_setRow hB3 (Nat.le_refl _) _⟩
    · have h71 : (k == 7) = false := by rw [beq_eq_false_iff_ne]; exact h7
      by_cases h0 : k ≠ 0
      · have h01 : (k == 0) = false := by rw [beq_eq_false_iff_ne]; exact h0
        obtain rfl : d = Page.zero := hz.out h0
        have HT := Lib.hid (show idP s id = (Page.zero, k) from by rw [hans.out]; simp [h7, h0])
        clear hans h7 h0 hz
        go_wp2_with (first
          | (refine wpList_alloc_row rfl 59 rfl (pageC Page.zero) zero59 ?_)
          | (refine wpList_store_row rfl 59 (.tmp 6) (.tmp 18) rfl _ (pageC Page.zero) rfl rfl _ _ (heap_alloc_new _ _) (page_size _) rfl (pageC_oneCell _) ?_; rw [World.setRow_alloc_new])
          | (refine wpList_load_row rfl 59 (.tmp 6) rfl w2.heap.size rfl _ _ _ _ hPd.out Try.underlying59 rfl (page_size _) ?_)
          | (refine wpList_store_row rfl 59 (.tmp 4) (.tmp 33) rfl _ (pageC Page.zero) rfl rfl _ _ hPa.out (page_size _) rfl (pageC_oneCell _) ?_))
        exact end59 rfl rfl hPa.row rfl rfl ⟨by rw [HT.out], below_setRow hBa (Nat.le_refl _) _⟩
      · obtain rfl : k = 0 := by simpa using h0
        have hc := hPd.id
        by_cases hi : d.id ≠ id
        · have hi1 : (d.id != id) = true := by rw [bne_iff_ne]; exact hi
          have HT := Lib.hid (show idP s id = (Page.zero, 6) from by rw [hans.out]; simp [hi])
          clear hans h7 h0 hi
          go_wp2_with (first
            | (refine wpList_alloc_row rfl 59 rfl (pageC Page.zero) zero59 ?_)
            | (refine wpList_store_row rfl 59 (.tmp 6) (.tmp 18) rfl _ (pageC d) rfl rfl _ _ (heap_alloc_new _ _) (page_size _) (by rw [pageC_size, pageC_size]) (pageC_oneCell _) ?_; rw [World.setRow_alloc_new])
            | (refine wpList_store_row rfl 59 (.tmp 4) (.tmp 32) rfl _ (pageC Page.zero) rfl rfl _ _ hPa.out (page_size _) rfl (pageC_oneCell _) ?_))
          exact end59 rfl rfl hPa.row rfl rfl ⟨by rw [HT.out], below_setRow hBa (Nat.le_refl _) _⟩
        · have hi1 : (d.id != id) = false := by rw [bne_eq_false_iff_eq]; simpa using hi
          have HT := Lib.hid (show idP s id = (d, 0) from by rw [hans.out]; simp [hi])
          clear hans h7 h0 hi
          go_wp2_with (first
            | (refine wpList_alloc_row rfl 59 rfl (pageC Page.zero) zero59 ?_)
            | (refine wpList_store_row rfl 59 (.tmp 6) (.tmp 18) rfl _ (pageC d) rfl rfl _ _ (heap_alloc_new _ _) (page_size _) (by rw [pageC_size, pageC_size]) (pageC_oneCell _) ?_; rw [World.setRow_alloc_new])
            | (refine wpList_load_row rfl 59 (.tmp 6) rfl w2.heap.size rfl _ _ _ _ hPd.out Try.underlying59 rfl (page_size _) ?_)
            | (refine wpList_store_row rfl 59 (.tmp 4) (.tmp 33) rfl _ (pageC d) rfl rfl _ _ hPa.out (page_size _) (by rw [pageC_size, pageC_size]) (pageC_oneCell _) ?_))
          exact end59 rfl rfl hPa.row rfl rfl ⟨by rw [HT.out], below_setRow hBa (Nat.le_refl _) _⟩
end Go.Proofs.Ytldkgmodmpnclaa
