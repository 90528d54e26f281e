import Derived.Test.YtldkgmodmpnclaaPageG
import Derived.Lib.SlicesS
namespace Go.Proofs.Ytldkgmodmpnclaa
open Go.RowKit Go.Proofs
set_option linter.unusedVariables false
set_option linter.unusedSimpArgs false
/-- What Decode and Identify answer. -/
def ansP (r : Page × Int) : Value := .tuple #[.agg (pageC r.1), .int .i64 r.2]
theorem end59 {fn : Func} {R : Ending → World → Prop} {a : Act} {w : World} {p q : Tmp} {g : Nat} {pg : Page} {n : Int} (hr : fn.results = #[.cell p 59, .tmp q])
    (hp : a.tmps.getD p undef = .pointer (some ⟨g, 0, none⟩)) (hg : PgAt w g pg) (hn : a.tmps.getD q undef = .int .i64 n) (hd : a.defers = []) (hR : R (.returned (ansP (pg, n))) w) : bodyPost Try.prog fn R .ret a w :=
  bodyPost_ret (v := ansP (pg, n)) (by rw [results_cell_tmp hr _ _ g _ _ _ _ hp hg.out Try.underlying59 rfl (page_size _), hn]; rfl) hd hR
theorem PgAt.row {w : World} {g : Nat} {p q : Page} (h : PgAt w g p) : PgAt (w.setRow g (pageC q)) g q := heap_setRow h
set_option maxRecDepth 100000 in
theorem decode_size (s : ByteArray) (w : World) (h : s.size ≠ 256) (hs : s.size ≤ 1000000000000) :
    Calls Try.prog 48 #[.string s] w fun e w' => e = .returned (ansP (Page.zero, 2)) ∧ Below w.heap.size w w' := by
  have hd : ((s.size : Int) != 256) = true := by rw [bne_iff_ne]; omega
  go_enter Try.func48, Try.ntmps48
  go_wp2_with (first
    | (refine wpList_alloc_row rfl 59 rfl (pageC Page.zero) zero59 ?_)
    | (refine wpList_store_row rfl 59 (.tmp 2) (.tmp 12) rfl _ (pageC Page.zero) rfl rfl _ _ (PgAt.new w _).out (page_size _) rfl (pageC_oneCell _) ?_))
  exact end59 rfl rfl (PgAt.new w Page.zero).row rfl rfl ⟨rfl, below_setRow ((Below.refl _ _).alloc (Nat.le_refl _) _) (Nat.le_refl _) _⟩
set_option maxRecDepth 100000 in
theorem decode_blank (w : World) :
    Calls Try.prog 48 #[.string (zeros 256)] w fun e w' => e = .returned (ansP (Page.zero, 7)) ∧ Below w.heap.size w w' := by
  have hd : (((zeros 256).size : Int) != 256) = false := by rw [zeros_size]; rfl
  have hP := PgAt.new w Page.zero
  have hB := (Below.refl w.heap.size w).alloc (Nat.le_refl _) (.cells (pageC Page.zero) 59)
  go_enter Try.func48, Try.ntmps48
  go_wp2_with (first
    | (refine wpList_alloc_row rfl 59 rfl (pageC Page.zero) zero59 ?_)
    | fail)
  refine (blank_calls _).mono ?_
  rintro e w2 ⟨rfl, hb⟩
  have hP2 := hP.below hb hP.lt
  go_wp2_with (refine wpList_store_row rfl 59 (.tmp 2) (.tmp 17) rfl _ (pageC Page.zero) rfl rfl _ _ hP2.out (page_size _) rfl (pageC_oneCell _) ?_)
  exact end59 rfl rfl hP2.row rfl rfl ⟨rfl, below_setRow (hB.trans (hb.mono (by simp))) (Nat.le_refl _) _⟩
set_option maxRecDepth 100000 in
theorem decode_position (s : ByteArray) (w : World) (hs : s.size = 256) (hb0 : s ≠ zeros 256) (hp : s.extract 0 8 ≠ s.extract 248 256) :
    Calls Try.prog 48 #[.string s] w fun e w' => e = .returned (ansP (Page.zero, 27)) ∧ Below w.heap.size w w' := by
  have hd : ((s.size : Int) != 256) = false := by rw [hs]; rfl
  have hd2 : (s.toList == (zeros 256).toList) = false := (Lib.bytes_beq_false_iff _ _).2 hb0
  have hP := PgAt.new w Page.zero
  have hB := (Below.refl w.heap.size w).alloc (Nat.le_refl _) (.cells (pageC Page.zero) 59)
  have HS := Lib.hid hs; clear hs
  have hz0 : (8 : Int) ≤ (s.size : Int) := by rw [HS.out]; decide
  have hz1 : (248 : Int) ≤ (s.size : Int) := by rw [HS.out]; decide
  have hz2 : 8 ≤ s.size := by omega
  have hz3 : 248 ≤ s.size := by omega
  have hz4 : (244 : Int) ≤ (s.size : Int) := by omega
  have hz5 : 244 ≤ s.size := by omega
  have hz6 : s.size ≤ 256 := by rw [HS.out]; decide
  have hq : s.extract 0 8 ≠ s.extract 248 s.size := by rw [HS.out]; exact hp
  have he1 : ((s.extract 0 8).toList == (s.extract 248 s.size).toList) = false := (Lib.bytes_beq_false_iff _ _).2 hq
  have he2 : ((s.extract 0 8).toList != (s.extract 248 s.size).toList) = true := by rw [bne, he1]; rfl
  clear hp hq hb0
  go_enter Try.func48, Try.ntmps48
  go_wp2_with (first
    | (refine wpList_alloc_row rfl 59 rfl (pageC Page.zero) zero59 ?_)
    | fail)
  refine (blank_calls _).mono ?_
  rintro e w2 ⟨rfl, hb⟩
  have hP2 : PgAt w2.drew w.heap.size Page.zero := hP.below hb.drew hP.lt
  have hB2 : Below w.heap.size w w2.drew := (hB.trans (hb.mono (by simp))).drew
  clear hP hB hb
  go_wp2_with fail
  go_region
  go_wp2_with (refine wpList_store_row rfl 59 (.tmp 2) (.tmp 24) rfl _ (pageC Page.zero) rfl rfl _ _ hP2.out (page_size _) rfl (pageC_oneCell _) ?_)
  exact end59 rfl rfl hP2.row rfl rfl ⟨rfl, below_setRow hB2 (Nat.le_refl _) _⟩
theorem wrap_sum (s : ByteArray) : IntKind.i64.wrap ((sumN s : Nat) : Int) = (sumN s : Int) := IntWalk.i64_in _ (by have := sumN_lt s; omega)
set_option maxRecDepth 100000 in
theorem decode_sum (s : ByteArray) (w : World) (hs : s.size = 256) (hb0 : s ≠ zeros 256) (hp : s.extract 0 8 = s.extract 248 256) (hsum : leN s 244 4 ≠ sumN (s.extract 0 244)) :
    Calls Try.prog 48 #[.string s] w fun e w' => e = .returned (ansP (Page.zero, 3)) ∧ Below w.heap.size w w' := by
  have hd : ((s.size : Int) != 256) = false := by rw [hs]; rfl
  have hd2 : (s.toList == (zeros 256).toList) = false := (Lib.bytes_beq_false_iff _ _).2 hb0
  have hP := PgAt.new w Page.zero
  have hB := (Below.refl w.heap.size w).alloc (Nat.le_refl _) (.cells (pageC Page.zero) 59)
  have HS := Lib.hid hs; clear hs
  have hz0 : (8 : Int) ≤ (s.size : Int) := by rw [HS.out]; decide
  have hz1 : (248 : Int) ≤ (s.size : Int) := by rw [HS.out]; decide
  have hz2 : 8 ≤ s.size := by omega
  have hz3 : 248 ≤ s.size := by omega
  have hz4 : (244 : Int) ≤ (s.size : Int) := by omega
  have hz5 : 244 ≤ s.size := by omega
  have hz6 : s.size ≤ 256 := by rw [HS.out]; decide
  have hq : s.extract 0 8 = s.extract 248 s.size := by rw [HS.out]; exact hp
  have he1 : ((s.extract 0 8).toList == (s.extract 248 s.size).toList) = true := (Lib.bytes_beq_iff _ _).2 hq
  have he2 : ((s.extract 0 8).toList != (s.extract 248 s.size).toList) = false := by rw [bne, he1]; rfl
  have hg : getV s 244 4 = (leN s 244 4 : Int) := getV_small s 244 4 (by omega)
  have hsw := wrap_sum (s.extract 0 244)
  have hne : (getV s 244 4 != (sumN (s.extract 0 244) : Int)) = true := by rw [bne_iff_ne, hg]; omega
  clear hp hq hb0 hsum hg
  go_enter Try.func48, Try.ntmps48
  go_wp2_with (first
    | (refine wpList_alloc_row rfl 59 rfl (pageC Page.zero) zero59 ?_)
    | fail)
  refine (blank_calls _).mono ?_
  rintro e w2 ⟨rfl, hb⟩
  have hP2 : PgAt w2.drew w.heap.size Page.zero := hP.below hb.drew hP.lt
  have hB2 : Below w.heap.size w w2.drew := (hB.trans (hb.mono (by simp))).drew
  clear hP hB hb
  go_wp2_with fail
  go_region
  go_wp2_with fail
  have mk := Lib.hid (show ∀ w', Kp (w.heap.size + 1) w2.drew w' → Kp (w.heap.size + 1) w2.drew w' from fun w' hk => hk)
  have hq := hP2.lt
  go_region_held3 (fun w' => Kp (w.heap.size + 1) w2.drew w')
    (first
      | exact mk.out _ (Kp.start w2.drew (w.heap.size + 1) (by omega))
      | assumption
      | exact mk.out _ (Kp.step (by assumption) hb))
    (first
      | (go_at_call 77; refine (sumC _ _ (by rw [ByteArray.size_extract]; omega)).mono ?_; rintro e w6 ⟨rfl, hb⟩)
      | (go_at_call 84; refine (number_calls _ _ _ _ (by omega) (by omega) (by omega) (by omega) (by omega)).mono ?_; rintro e w6 ⟨rfl, rfl⟩))
  rename_i hHeld
  have hP6 : PgAt w6 w.heap.size Page.zero := hP2.below hHeld.below (by omega)
  have hB6 : Below w.heap.size w w6 := hB2.trans (hHeld.below.mono (by omega))
  clear hHeld mk hb hP2 hB2
  go_wp2_with (refine wpList_store_row rfl 59 (.tmp 2) (.tmp 33) rfl _ (pageC Page.zero) rfl rfl _ _ hP6.out (page_size _) rfl (pageC_oneCell _) ?_)
  exact end59 rfl rfl hP6.row rfl rfl ⟨rfl, below_setRow hB6 (Nat.le_refl _) _⟩
/-- What Decode says of bytes whose positions and checksum are right. -/
def tailP (s : ByteArray) : Page × Int := if rdAll s = true ∧ pageErr (rdRes s) = 0 ∧ encP (rdRes s) = s then (rdRes s, 0) else (Page.zero, 4)
set_option maxHeartbeats 1000000 in
set_option maxRecDepth 100000 in
theorem decode_tail (s : ByteArray) (w : World) (hs : s.size = 256) (hb0 : s ≠ zeros 256) (hp : s.extract 0 8 = s.extract 248 256) (hsum : leN s 244 4 = sumN (s.extract 0 244)) :
    Calls Try.prog 48 #[.string s] w fun e w' => e = .returned (ansP (tailP s)) ∧ Below w.heap.size w w' := by
  have hread := Lib.hid (fun W => read_calls s W hs)
  have hd : ((s.size : Int) != 256) = false := by rw [hs]; rfl
  have hd2 : (s.toList == (zeros 256).toList) = false := (Lib.bytes_beq_false_iff _ _).2 hb0
  have hP := PgAt.new w Page.zero
  have hB := (Below.refl w.heap.size w).alloc (Nat.le_refl _) (.cells (pageC Page.zero) 59)
  have HS := Lib.hid hs; clear hs
  have hz0 : (8 : Int) ≤ (s.size : Int) := by rw [HS.out]; decide
  have hz1 : (248 : Int) ≤ (s.size : Int) := by rw [HS.out]; decide
  have hz2 : 8 ≤ s.size := by omega
  have hz3 : 248 ≤ s.size := by omega
  have hz4 : (244 : Int) ≤ (s.size : Int) := by omega
  have hz5 : 244 ≤ s.size := by omega
  have hz6 : s.size ≤ 256 := by rw [HS.out]; decide
  have hq : s.extract 0 8 = s.extract 248 s.size := by rw [HS.out]; exact hp
  have he1 : ((s.extract 0 8).toList == (s.extract 248 s.size).toList) = true := (Lib.bytes_beq_iff _ _).2 hq
  have he2 : ((s.extract 0 8).toList != (s.extract 248 s.size).toList) = false := by rw [bne, he1]; rfl
  have hg : getV s 244 4 = (leN s 244 4 : Int) := getV_small s 244 4 (by omega)
  have hsw := wrap_sum (s.extract 0 244)
  have hne : (getV s 244 4 != (sumN (s.extract 0 244) : Int)) = false := by rw [bne_eq_false_iff_eq, hg, hsum]
  clear hp hq hb0 hsum hg
  have henc := Lib.hid (fun W => encode_calls (rdRes s) W)
  have htl := Lib.hid (show tailP s = if rdAll s = true ∧ pageErr (rdRes s) = 0 ∧ encP (rdRes s) = s then (rdRes s, 0) else (Page.zero, 4) from rfl)
  obtain ⟨q, hq_⟩ : ∃ q, rdRes s = q := ⟨_, rfl⟩
  obtain ⟨n, hn_⟩ : ∃ n, pageErr q = n := ⟨_, rfl⟩
  obtain ⟨x, hx_⟩ : ∃ x, encP q = x := ⟨_, rfl⟩
  obtain ⟨b, hb_⟩ : ∃ b, rdAll s = b := ⟨_, rfl⟩
  rw [hq_] at hread henc htl
  rw [hn_, hx_] at henc htl
  rw [hb_] at hread htl
  clear hq_ hn_ hx_ hb_
  go_enter Try.func48, Try.ntmps48
  go_wp2_with (first
    | (refine wpList_alloc_row rfl 59 rfl (pageC Page.zero) zero59 ?_)
    | fail)
  refine (blank_calls _).mono ?_
  rintro e w2 ⟨rfl, hb⟩
  have hP2 : PgAt w2.drew w.heap.size Page.zero := hP.below hb.drew hP.lt
  have hB2 : Below w.heap.size w w2.drew := (hB.trans (hb.mono (by simp))).drew
  clear hP hB hb
  go_wp2_with fail
  go_region
  go_wp2_with fail
  have mk := Lib.hid (show ∀ w', Kp (w.heap.size + 1) w2.drew w' → Kp (w.heap.size + 1) w2.drew w' from fun w' hk => hk)
  have hq := hP2.lt
  go_region_held3 (fun w' => Kp (w.heap.size + 1) w2.drew w')
    (first
      | exact mk.out _ (Kp.start w2.drew (w.heap.size + 1) (by omega))
      | assumption
      | exact mk.out _ (Kp.step (by assumption) hb))
    (first
      | (go_at_call 77; refine (sumC _ _ (by rw [ByteArray.size_extract]; omega)).mono ?_; rintro e w6 ⟨rfl, hb⟩)
      | (go_at_call 84; refine (number_calls _ _ _ _ (by omega) (by omega) (by omega) (by omega) (by omega)).mono ?_; rintro e w6 ⟨rfl, rfl⟩))
  rename_i hHeld
  have hP6 : PgAt w6 w.heap.size Page.zero := hP2.below hHeld.below (by omega)
  have hB6 : Below w.heap.size w w6 := hB2.trans (hHeld.below.mono (by omega))
  clear hHeld mk hb hP2 hB2
  go_wp2_with fail
  refine (hread.out _).mono ?_
  rintro e w7 ⟨rfl, hb7⟩
  have hP7 := hP6.below hb7 hP6.lt
  have hB7 := hB6.trans (hb7.mono hB6.size)
  clear hP6 hB6 hb7 hread
  go_wp2_with (first
    | (refine wpList_alloc_row rfl 59 rfl (pageC Page.zero) zero59 ?_)
    | (refine wpList_store_row rfl 59 (.tmp 4) (.tmp 37) rfl _ (pageC q) rfl rfl _ _ (heap_alloc_new _ _) (page_size _) (by rw [pageC_size, pageC_size]) (pageC_oneCell _) ?_; rw [World.setRow_alloc_new])
    | (refine wpList_load_row rfl 59 (.tmp 4) rfl w7.heap.size rfl _ _ _ _ (PgAt.new w7 q).out Try.underlying59 rfl (page_size _) ?_))
  refine (henc.out _).mono ?_
  rintro e w8 ⟨rfl, hb8⟩
  have hPq := (PgAt.new w7 q).below hb8 (by simp)
  have hP8 := (hP7.alloc (.cells (pageC q) 59)).below hb8 (by have := hP7.lt; simp; omega)
  have hB8 := (hB7.alloc hB7.size (.cells (pageC q) 59)).trans (hb8.mono (by have := hB7.size; simp; omega))
  clear hP7 hB7 hb8 henc hd hd2 he1 he2 hsw hne
  by_cases hok : b = true ∧ n = 0 ∧ x = s
  · obtain ⟨rfl, rfl, hxs⟩ := hok
    have hx1 : (x.toList == s.toList) = true := (Lib.bytes_beq_iff _ _).2 hxs
    have hx2 : (x.toList != s.toList) = false := by rw [bne, hx1]; rfl
    have ht : tailP s = (q, 0) := by rw [htl.out, if_pos ⟨rfl, rfl, hxs⟩]
    have HT := Lib.hid ht
    clear ht htl hxs
    go_wp2_with (first
      | (refine wpList_load_row rfl 59 (.tmp 4) rfl w7.heap.size rfl _ _ _ _ hPq.out Try.underlying59 rfl (page_size _) ?_)
      | (refine wpList_store_row rfl 59 (.tmp 2) (.tmp 56) rfl w.heap.size (pageC q) rfl rfl _ _ hP8.out (page_size _) (by rw [pageC_size, pageC_size]) (pageC_oneCell _) ?_))
    exact end59 rfl rfl hP8.row rfl rfl ⟨by rw [HT.out], below_setRow hB8 (Nat.le_refl _) _⟩
  · have ht : tailP s = (Page.zero, 4) := by rw [htl.out, if_neg hok]
    have HT := Lib.hid ht
    clear ht htl
    cases b
    · go_wp2_with (refine wpList_store_row rfl 59 (.tmp 2) (.tmp 55) rfl w.heap.size (pageC Page.zero) rfl rfl _ _ hP8.out (page_size _) rfl (pageC_oneCell _) ?_)
      exact end59 rfl rfl hP8.row rfl rfl ⟨by rw [HT.out], below_setRow hB8 (Nat.le_refl _) _⟩
    · by_cases hn : n = 0
      · have hxs : x ≠ s := fun h => hok ⟨rfl, hn, h⟩
        have hx1 : (x.toList == s.toList) = false := (Lib.bytes_beq_false_iff _ _).2 hxs
        have hx2 : (x.toList != s.toList) = true := by rw [bne, hx1]; rfl
        have hn1 : (n != 0) = false := by rw [bne_eq_false_iff_eq]; exact hn
        clear hxs hok hn
        go_wp2_with (refine wpList_store_row rfl 59 (.tmp 2) (.tmp 55) rfl w.heap.size (pageC Page.zero) rfl rfl _ _ hP8.out (page_size _) rfl (pageC_oneCell _) ?_)
        exact end59 rfl rfl hP8.row rfl rfl ⟨by rw [HT.out], below_setRow hB8 (Nat.le_refl _) _⟩
      · have hn1 : (n != 0) = true := by rw [bne_iff_ne]; exact hn
        clear hok hn
        go_wp2_with (refine wpList_store_row rfl 59 (.tmp 2) (.tmp 55) rfl w.heap.size (pageC Page.zero) rfl rfl _ _ hP8.out (page_size _) rfl (pageC_oneCell _) ?_)
        exact end59 rfl rfl hP8.row rfl rfl ⟨by rw [HT.out], below_setRow hB8 (Nat.le_refl _) _⟩
theorem tailP_eq (s : ByteArray) : tailP s = if rdAll s = true ∧ pageOk (rdPage s 16) = true ∧ encBytes (rdPage s 16) = s then (rdPage s 16, 0) else (Page.zero, 4) := by
  unfold tailP
  by_cases ha : rdAll s = true
  · have hr : rdRes s = rdPage s 16 := by unfold rdRes; rw [ha]; rfl
    rw [hr]
    by_cases hk : pageOk (rdPage s 16) = true
    · have hp : placed (rdPage s 16) = true ∧ cellsOk (rdPage s 16) = true := by simpa [pageOk] using hk
      have he : pageErr (rdPage s 16) = 0 := by unfold pageErr; rw [hp.1, hp.2]; rfl
      have hx : encP (rdPage s 16) = encBytes (rdPage s 16) := by unfold encP; rw [hk]; rfl
      rw [he, hx]
      simp [ha, hk]
    · have hk' : pageOk (rdPage s 16) = false := by simpa using hk
      have he : pageErr (rdPage s 16) ≠ 0 := by
        unfold pageErr
        unfold pageOk at hk'
        cases hp : placed (rdPage s 16)
        · simp
        · rw [hp] at hk'
          have hc : cellsOk (rdPage s 16) = false := by simpa using hk'
          rw [hc]
          simp
      rw [if_neg (fun h => he h.2.1), if_neg (fun h => hk h.2.1)]
  · rw [if_neg (fun h => ha h.1), if_neg (fun h => ha h.1)]
/-- page.Decode: the page with these bytes, or the error. -/
theorem decode_calls (s : ByteArray) (w : World) (hs : s.size ≤ 1000000000000) :
    Calls Try.prog 48 #[.string s] w fun e w' => e = .returned (ansP (decP s)) ∧ Below w.heap.size w w' := by
  unfold decP
  by_cases h1 : s.size ≠ 256
  · rw [if_pos h1]; exact decode_size s w h1 hs
  · rw [if_neg h1]
    have h1' : s.size = 256 := by omega
    by_cases h2 : s = zeros 256
    · rw [if_pos h2]
      subst h2
      exact decode_blank w
    · rw [if_neg h2]
      by_cases h3 : s.extract 0 8 ≠ s.extract 248 256
      · rw [if_pos h3]; exact decode_position s w h1' h2 h3
      · rw [if_neg h3]
        have h3' : s.extract 0 8 = s.extract 248 256 := by simpa using h3
        by_cases h4 : leN s 244 4 ≠ sumN (s.extract 0 244)
        · rw [if_pos h4]; exact decode_sum s w h1' h2 h3' h4
        · rw [if_neg h4]
          have h4' : leN s 244 4 = sumN (s.extract 0 244) := by simpa using h4
          rw [← tailP_eq]
          exact decode_tail s w h1' h2 h3' h4'
end Go.Proofs.Ytldkgmodmpnclaa
