import Derived.Test.YtldkgmodmpnclaaEq
import Derived.Test.YtldkgmodmpnclaaArgs
namespace Go.Proofs.Ytldkgmodmpnclaa
open Go.RowKit Go.Proofs
set_option linter.unusedVariables false
set_option linter.unusedSimpArgs false
set_option maxHeartbeats 1000000 in
set_option maxRecDepth 100000 in
theorem returns_calls (a : Option Addr) (n c : Nat) (v : Int) (w : World) (h : Ls w a n c) (h0 : 0 ≤ v) (h1 : v < 256) :
    Calls Try.prog 12 #[.slice a n c, .int .u8 v] w fun e w' => e = .returned (.bool true) ∧ Below w.heap.size w w' := by
  go_enter Try.func12, Try.ntmps12
  go_wp2_with fail
  refine (awake_calls _).mono ?_
  rintro e w1 ⟨rfl, hb1⟩
  go_wp2_with fail
  refine (newCodes_calls a n c 100 _ (h.keep hb1) (by omega)).mono ?_
  rintro e w2 ⟨g, rfl, hg, hb2, hc2⟩
  go_wp2_with fail
  refine (next_calls g 64 _ hc2 (by omega) (by omega)).mono ?_
  rintro e w3 ⟨id, rfl, hi0, hi1, hk3, hc3⟩
  go_wp2_with fail
  refine (cpage_calls g id _ hc3).mono ?_
  rintro e w4 ⟨p, rfl, hpid, hpl, hpc, hk4, hc4⟩
  have hok : pageOk p = true := by
    unfold pageOk placed named
    rw [hpid, hpl, hpc]
    simp [hi0, hi1]
  have hs1 := hb1.size
  have hB4 : Below w.heap.size w w4 := (hb1.trans (hb2.mono hs1)).trans ((hk3.trans hk4).below (Nat.le_trans hs1 hb2.size) (Nat.le_trans hs1 hg))
  clear hk3 hk4 hb1 hb2 hc2 hc3 hc4 hg
  subst hpid
  have hP := PgAt.new w4 p
  have HE := Lib.hid (fun W => encode_calls p W)
  have hsz := encP_size hok
  rw [pageErr_ok hok] at HE
  have hdec := decP_enc hok
  rw [← encP_ok hok] at hdec
  obtain ⟨s, hs⟩ : ∃ s, encP p = s := ⟨_, rfl⟩
  rw [hs] at HE hsz hdec
  have hn : named p.id = true := by unfold named; simp [hi0, hi1]
  have hid0 : idP s p.id = (p, 0) := by rw [← hs, encP_ok hok, idP_enc hok _ hn, if_pos rfl]
  have hidk : ∀ k, named k = true → idP s k = if k = p.id then (p, 0) else (Page.zero, 6) := fun k hk => by rw [← hs, encP_ok hok, idP_enc hok k hk]
  have hk0 : 0 ≤ v % 64 := by omega
  have hk1 : v % 64 < 64 := by omega
  have hnk : named (v % 64) = true := by unfold named; simp [hk0, hk1]
  have HI := Lib.hid (fun W => identify_calls s p.id W (by omega))
  have HK := Lib.hid (fun W => identify_calls s (v % 64) W (by omega))
  have HB := Lib.hid (fun W => identify_calls (zeros 256) (v % 64) W (by rw [zeros_size]; omega))
  rw [hid0] at HI
  rw [hidk _ hnk] at HK
  rw [idP_blank _ hnk] at HB
  unfold ansP at HI HK HB
  dsimp only at HI HB
  clear hid0 hidk hn hnk
  have HS := Lib.hid hs; clear hs
  have HOK := Lib.hid hok; clear hok
  have HPC := Lib.hid hpc; have HPL := Lib.hid hpl; clear hpc hpl
  go_wp2_with (first
    | (refine wpList_alloc_row rfl 59 rfl (pageC Page.zero) zero59 ?_)
    | (refine wpList_store_row rfl 59 (.tmp 6) (.tmp 25) rfl _ (pageC p) rfl rfl _ _ (heap_alloc_new _ _) (page_size _) (by rw [pageC_size, pageC_size]) (pageC_oneCell _) ?_; rw [World.setRow_alloc_new])
    | (refine wpList_load_row rfl 59 (.tmp 6) rfl _ rfl _ _ _ _ hP.out Try.underlying59 rfl (page_size _) ?_))
  refine (HE.out _).mono ?_
  rintro e w5 ⟨rfl, hb5⟩
  have hB5 := (hB4.alloc hB4.size (.cells (pageC p) 59)).trans (hb5.mono (by have := hB4.size; simp; omega))
  have hP5 := hP.below hb5 hP.lt
  obtain ⟨A, hA⟩ : ∃ A, w4.heap.size = A := ⟨_, rfl⟩
  have hAw : w.heap.size ≤ A := by rw [← hA]; exact hB4.size
  rw [hA] at hP5
  clear hP hb5 hB4
  have HD := Lib.hid (fun W => decode_calls s W (by omega))
  rw [hdec] at HD
  unfold ansP at HD
  dsimp only at HD
  go_wp2_with fail
  refine (HD.out _).mono ?_
  rintro e w6 ⟨rfl, hb6⟩
  have hB6 := hB5.trans (hb6.mono hB5.size)
  have hP6 := hP5.below hb6 hP5.lt
  have hQ6 := PgAt.new w6 p
  have hP6 := hP6.alloc (.cells (pageC p) 59)
  have hid6 := hP6.id
  have hB6 := hB6.alloc hB6.size (.cells (pageC p) 59)
  clear hB5 hP5 hb6
  go_wp2_with (first
    | (refine wpList_alloc_row rfl 59 rfl (pageC Page.zero) zero59 ?_)
    | (refine wpList_store_row rfl 59 (.tmp 9) (.tmp 34) rfl _ (pageC p) rfl rfl _ _ (heap_alloc_new _ _) (page_size _) (by rw [pageC_size, pageC_size]) (pageC_oneCell _) ?_; rw [World.setRow_alloc_new]))
  refine (HI.out _).mono ?_
  rintro e w7 ⟨rfl, hb7⟩
  have hB7 := (hB6.trans (hb7.mono hB6.size)).alloc (hB6.trans (hb7.mono hB6.size)).size (.cells (pageC p) 59)
  have hP7 := (hP6.below hb7 hP6.lt).alloc (.cells (pageC p) 59)
  have hQ7 := (hQ6.below hb7 hQ6.lt).alloc (.cells (pageC p) 59)
  have hR7 := PgAt.new w7 p
  obtain ⟨B, hBe⟩ : ∃ B, w6.heap.size = B := ⟨_, rfl⟩
  rw [hBe] at hQ7
  clear hB6 hb7 hP6 hQ6 hid6
  go_wp2_with (first
    | (refine wpList_alloc_row rfl 59 rfl (pageC Page.zero) zero59 ?_)
    | (refine wpList_store_row rfl 59 (.tmp 11) (.tmp 41) rfl _ (pageC p) rfl rfl _ _ (heap_alloc_new _ _) (page_size _) (by rw [pageC_size, pageC_size]) (pageC_oneCell _) ?_; rw [World.setRow_alloc_new]))
  by_cases e : v % 64 = p.id
  · have HK2 := HK.out
    rw [if_pos e] at HK2
    dsimp only at HK2
    have EE := Lib.hid e; clear e
    have HK3 := Lib.hid HK2
    clear HK HK2
    refine (HK3.out _).mono ?_
    rintro e_ w8 ⟨rfl, hb8⟩
    have hB8 := (hB7.trans (hb8.mono hB7.size)).alloc (hB7.trans (hb8.mono hB7.size)).size (.cells (pageC p) 59)
    have hP8 := (hP7.below hb8 hP7.lt).alloc (.cells (pageC p) 59)
    have hQ8 := (hQ7.below hb8 hQ7.lt).alloc (.cells (pageC p) 59)
    have hR8 := (hR7.below hb8 hR7.lt).alloc (.cells (pageC p) 59)
    obtain ⟨C, hCe⟩ : ∃ C, w7.heap.size = C := ⟨_, rfl⟩
    rw [hCe] at hR8
    clear hB7 hb8 hP7 hQ7 hR7
    go_wp2_with (first
      | (refine wpList_alloc_row rfl 59 rfl (pageC Page.zero) zero59 ?_)
      | (refine wpList_store_row rfl 59 (.tmp 14) (.tmp 50) rfl _ (pageC p) rfl rfl _ _ (heap_alloc_new _ _) (page_size _) (by simp only [pageC_size]) (pageC_oneCell _) ?_; rw [World.setRow_alloc_new]))
    refine (blank_calls _).mono ?_
    rintro e_ w9 ⟨rfl, hb9⟩
    go_wp2_with fail
    refine (HB.out _).mono ?_
    rintro e_ w10 ⟨rfl, hb10⟩
    have hbb := hb9.trans (hb10.mono hb9.size)
    have hB10 := (hB8.trans (hbb.mono hB8.size)).alloc (hB8.trans (hbb.mono hB8.size)).size (.cells (pageC (Page.new (v % 64))) 59)
    have hP10 := (hP8.below hbb hP8.lt).alloc (.cells (pageC (Page.new (v % 64))) 59)
    have hQ10 := (hQ8.below hbb hQ8.lt).alloc (.cells (pageC (Page.new (v % 64))) 59)
    have hR10 := (hR8.below hbb hR8.lt).alloc (.cells (pageC (Page.new (v % 64))) 59)
    have hD10 := PgAt.new w10 (Page.new (v % 64))
    obtain ⟨D, hDe⟩ : ∃ D, w10.heap.size = D := ⟨_, rfl⟩
    rw [hDe] at hD10
    clear hB8 hbb hb9 hb10 hP8 hQ8 hR8
    go_wp2_with (first
      | (refine wpList_alloc_row rfl 59 rfl (pageC Page.zero) zero59 ?_)
      | (refine wpList_store_row rfl 59 (.tmp 16) (.tmp 56) rfl _ (pageC (Page.new (v % 64))) rfl rfl _ _ (heap_alloc_new _ _) (page_size _) (by simp only [pageC_size]) (pageC_oneCell _) ?_; rw [World.setRow_alloc_new]))
    obtain ⟨W, hW⟩ : ∃ W, w10.alloc (.cells (pageC (Page.new (v % 64))) 59) = W := ⟨_, rfl⟩
    rw [hW] at hB10 hP10 hQ10 hR10 hD10 ⊢
    clear hW
    have hSA : ∀ w', Kp W.heap.size W w' → PgAt w' A p := fun w' h => hP10.below h.below hP10.lt
    have hSB : ∀ w', Kp W.heap.size W w' → PgAt w' B p := fun w' h => hQ10.below h.below hQ10.lt
    have hSC : ∀ w', Kp W.heap.size W w' → PgAt w' C p := fun w' h => hR10.below h.below hR10.lt
    have hSD : ∀ w', Kp W.heap.size W w' → PgAt w' D (Page.new (v % 64)) := fun w' h => hD10.below h.below hD10.lt
    have hwp := PgWf.ok HOK.out
    have hwk : PgWf (Page.new (v % 64)) := PgWf.new (WalkArith.wf_i64 (by omega))
    have hde : (v % 64 == p.id) = true := by simp [EE.out]
    refine wp_region_held_drew (S := Kp W.heap.size W) (by kernel_rfl) (Kp.start W _ (Nat.le_refl _)) (fun hHeld => ?_)
    refine wpAnyH_take (i := 0) (oi := { dst := some 58, op := Op.move (Operand.tmp 8), type := 41, pos := "law.go:102", after := #[], guard := none }) (v := ?_) rfl (by kernel_rfl) (by kernel_rfl) (by kernel_rfl) (fun _ _ _ h => h) (.inl ⟨by kernel_rfl, ?_⟩) (by assumption) ?_
    rotate_left
    · (intro w_ hSw; go_simp; first | done | with_reducible rfl)
    try simp only [Act.put, List.setIfInBounds_toArray, List.set_cons_zero, List.set_cons_succ]
    refine wpAnyH_take (i := 1) (oi := { dst := some 59, op := Op.binOp BinOp.eql 41 (Operand.tmp 58) (Operand.const (Value.int IntKind.i64 0)) 41, type := 4, pos := "law.go:102", after := #[{ on := 0, ground := Ground.data }], guard := none }) (v := ?_) rfl (by kernel_rfl) (by kernel_rfl) (by kernel_rfl) (fun _ _ _ h => h) (.inl ⟨by kernel_rfl, ?_⟩) (by assumption) ?_
    rotate_left
    · (intro w_ hSw; go_simp; first | done | with_reducible rfl)
    try simp only [Act.put, List.setIfInBounds_toArray, List.set_cons_zero, List.set_cons_succ]
    refine wpAnyH_take (i := 2) (oi := { dst := some 60, op := Op.move (Operand.tmp 59), type := 4, pos := "law.go:102", after := #[{ on := 1, ground := Ground.data }], guard := none }) (v := ?_) rfl (by kernel_rfl) (by kernel_rfl) (by kernel_rfl) (fun _ _ _ h => h) (.inl ⟨by kernel_rfl, ?_⟩) (by assumption) ?_
    rotate_left
    · (intro w_ hSw; go_simp; first | done | with_reducible rfl)
    try simp only [Act.put, List.setIfInBounds_toArray, List.set_cons_zero, List.set_cons_succ]
    refine wpAnyH_take (i := 3) (oi := { dst := some 61, op := Op.move (Operand.tmp 10), type := 41, pos := "law.go:102", after := #[{ on := 2, ground := Ground.guard }], guard := some (2, true) }) (v := ?_) rfl (by kernel_rfl) (by kernel_rfl) (by kernel_rfl) (fun _ _ _ h => h) (.inl ⟨by kernel_rfl, ?_⟩) (by assumption) ?_
    rotate_left
    · (intro w_ hSw; go_simp; first | done | with_reducible rfl)
    try simp only [Act.put, List.setIfInBounds_toArray, List.set_cons_zero, List.set_cons_succ]
    refine wpAnyH_take (i := 4) (oi := { dst := some 62, op := Op.binOp BinOp.eql 41 (Operand.tmp 61) (Operand.const (Value.int IntKind.i64 0)) 41, type := 4, pos := "law.go:102", after := #[{ on := 3, ground := Ground.data }, { on := 2, ground := Ground.guard }], guard := some (2, true) }) (v := ?_) rfl (by kernel_rfl) (by kernel_rfl) (by kernel_rfl) (fun _ _ _ h => h) (.inl ⟨by kernel_rfl, ?_⟩) (by assumption) ?_
    rotate_left
    · (intro w_ hSw; go_simp; first | done | with_reducible rfl)
    try simp only [Act.put, List.setIfInBounds_toArray, List.set_cons_zero, List.set_cons_succ]
    refine wpAnyH_take (i := 5) (oi := { dst := some 63, op := Op.pick (Operand.tmp 60) (Operand.tmp 62) (Operand.const (Value.bool false)), type := 4, pos := "law.go:102", after := #[{ on := 2, ground := Ground.data }, { on := 4, ground := Ground.data }], guard := none }) (v := ?_) rfl (by kernel_rfl) (by kernel_rfl) (by kernel_rfl) (fun _ _ _ h => h) (.inl ⟨by kernel_rfl, ?_⟩) (by assumption) ?_
    rotate_left
    · (intro w_ hSw; go_simp; first | done | with_reducible rfl)
    try simp only [Act.put, List.setIfInBounds_toArray, List.set_cons_zero, List.set_cons_succ]
    refine wpAnyH_take (i := 6) (oi := { dst := some 64, op := Op.move (Operand.tmp 63), type := 4, pos := "law.go:102", after := #[{ on := 5, ground := Ground.data }, { on := 2, ground := Ground.chain }], guard := none }) (v := ?_) rfl (by kernel_rfl) (by kernel_rfl) (by kernel_rfl) (fun _ _ _ h => h) (.inl ⟨by kernel_rfl, ?_⟩) (by assumption) ?_
    rotate_left
    · (intro w_ hSw; go_simp; first | done | with_reducible rfl)
    try simp only [Act.put, List.setIfInBounds_toArray, List.set_cons_zero, List.set_cons_succ]
    refine wpAnyH_take (i := 7) (oi := { dst := some 65, op := Op.move (Operand.tmp 12), type := 41, pos := "law.go:102", after := #[{ on := 6, ground := Ground.guard }], guard := some (6, true) }) (v := ?_) rfl (by kernel_rfl) (by kernel_rfl) (by kernel_rfl) (fun _ _ _ h => h) (.inl ⟨by kernel_rfl, ?_⟩) (by assumption) ?_
    rotate_left
    · (intro w_ hSw; go_simp; first | done | with_reducible rfl)
    try simp only [Act.put, List.setIfInBounds_toArray, List.set_cons_zero, List.set_cons_succ]
    refine wpAnyH_take (i := 8) (oi := { dst := some 66, op := Op.binOp BinOp.eql 41 (Operand.tmp 65) (Operand.const (Value.int IntKind.i64 0)) 41, type := 4, pos := "law.go:102", after := #[{ on := 7, ground := Ground.data }, { on := 6, ground := Ground.guard }], guard := some (6, true) }) (v := ?_) rfl (by kernel_rfl) (by kernel_rfl) (by kernel_rfl) (fun _ _ _ h => h) (.inl ⟨by kernel_rfl, ?_⟩) (by assumption) ?_
    rotate_left
    · (intro w_ hSw; go_simp; first | done | with_reducible rfl)
    try simp only [Act.put, List.setIfInBounds_toArray, List.set_cons_zero, List.set_cons_succ]
    refine wpAnyH_take (i := 9) (oi := { dst := some 67, op := Op.pick (Operand.tmp 64) (Operand.tmp 66) (Operand.const (Value.bool false)), type := 4, pos := "law.go:102", after := #[{ on := 6, ground := Ground.data }, { on := 8, ground := Ground.data }], guard := none }) (v := ?_) rfl (by kernel_rfl) (by kernel_rfl) (by kernel_rfl) (fun _ _ _ h => h) (.inl ⟨by kernel_rfl, ?_⟩) (by assumption) ?_
    rotate_left
    · (intro w_ hSw; go_simp; first | done | with_reducible rfl)
    try simp only [Act.put, List.setIfInBounds_toArray, List.set_cons_zero, List.set_cons_succ]
    refine wpAnyH_take (i := 10) (oi := { dst := some 68, op := Op.move (Operand.tmp 67), type := 4, pos := "law.go:102", after := #[{ on := 9, ground := Ground.data }, { on := 6, ground := Ground.chain }], guard := none }) (v := ?_) rfl (by kernel_rfl) (by kernel_rfl) (by kernel_rfl) (fun _ _ _ h => h) (.inl ⟨by kernel_rfl, ?_⟩) (by assumption) ?_
    rotate_left
    · (intro w_ hSw; go_simp; first | done | with_reducible rfl)
    try simp only [Act.put, List.setIfInBounds_toArray, List.set_cons_zero, List.set_cons_succ]
    refine wpAnyH_take (i := 11) (oi := { dst := some 69, op := Op.load 59 (Operand.tmp 6), type := 59, pos := "law.go:102", after := #[{ on := 10, ground := Ground.guard }], guard := some (10, true) }) (v := .agg (pageC p)) rfl (by kernel_rfl) (by kernel_rfl) (by kernel_rfl) (fun _ _ _ h => h) ?_ (by assumption) ?_
    · exact yields_page (by kernel_rfl) (.tmp 6) (by kernel_rfl) A (by kernel_rfl) p hSA
    try simp only [Act.put, List.setIfInBounds_toArray, List.set_cons_zero, List.set_cons_succ]
    refine wpAnyH_take (i := 12) (oi := { dst := some 70, op := Op.load 59 (Operand.tmp 9), type := 59, pos := "law.go:102", after := #[{ on := 10, ground := Ground.guard }], guard := some (10, true) }) (v := .agg (pageC p)) rfl (by kernel_rfl) (by kernel_rfl) (by kernel_rfl) (fun _ _ _ h => h) ?_ (by assumption) ?_
    · exact yields_page (by kernel_rfl) (.tmp 9) (by kernel_rfl) B (by kernel_rfl) p hSB
    try simp only [Act.put, List.setIfInBounds_toArray, List.set_cons_zero, List.set_cons_succ]
    refine wpAnyH_take (i := 13) (oi := { dst := some 71, op := Op.binOp BinOp.eql 59 (Operand.tmp 69) (Operand.tmp 70) 59, type := 4, pos := "law.go:102", after := #[{ on := 11, ground := Ground.data }, { on := 12, ground := Ground.data }, { on := 10, ground := Ground.guard }], guard := some (10, true) }) (v := .bool true) rfl (by kernel_rfl) (by kernel_rfl) (by kernel_rfl) (fun _ _ _ h => h) ?_ (by assumption) ?_
    · exact yields_eq59 (by kernel_rfl) (.tmp 69) (.tmp 70) 59 (by kernel_rfl) p p (by kernel_rfl) (by kernel_rfl) hwp hwp (decide_eq_true rfl)
    try simp only [Act.put, List.setIfInBounds_toArray, List.set_cons_zero, List.set_cons_succ]
    refine wpAnyH_take (i := 14) (oi := { dst := some 72, op := Op.pick (Operand.tmp 68) (Operand.tmp 71) (Operand.const (Value.bool false)), type := 4, pos := "law.go:102", after := #[{ on := 10, ground := Ground.data }, { on := 13, ground := Ground.data }], guard := none }) (v := ?_) rfl (by kernel_rfl) (by kernel_rfl) (by kernel_rfl) (fun _ _ _ h => h) (.inl ⟨by kernel_rfl, ?_⟩) (by assumption) ?_
    rotate_left
    · (intro w_ hSw; go_simp; first | done | with_reducible rfl)
    try simp only [Act.put, List.setIfInBounds_toArray, List.set_cons_zero, List.set_cons_succ]
    refine wpAnyH_take (i := 15) (oi := { dst := some 73, op := Op.move (Operand.tmp 72), type := 4, pos := "law.go:102", after := #[{ on := 14, ground := Ground.data }, { on := 10, ground := Ground.chain }], guard := none }) (v := ?_) rfl (by kernel_rfl) (by kernel_rfl) (by kernel_rfl) (fun _ _ _ h => h) (.inl ⟨by kernel_rfl, ?_⟩) (by assumption) ?_
    rotate_left
    · (intro w_ hSw; go_simp; first | done | with_reducible rfl)
    try simp only [Act.put, List.setIfInBounds_toArray, List.set_cons_zero, List.set_cons_succ]
    refine wpAnyH_take (i := 16) (oi := { dst := some 74, op := Op.load 59 (Operand.tmp 6), type := 59, pos := "law.go:102", after := #[{ on := 15, ground := Ground.guard }], guard := some (15, true) }) (v := .agg (pageC p)) rfl (by kernel_rfl) (by kernel_rfl) (by kernel_rfl) (fun _ _ _ h => h) ?_ (by assumption) ?_
    · exact yields_page (by kernel_rfl) (.tmp 6) (by kernel_rfl) A (by kernel_rfl) p hSA
    try simp only [Act.put, List.setIfInBounds_toArray, List.set_cons_zero, List.set_cons_succ]
    refine wpAnyH_take (i := 17) (oi := { dst := some 75, op := Op.load 59 (Operand.tmp 11), type := 59, pos := "law.go:102", after := #[{ on := 15, ground := Ground.guard }], guard := some (15, true) }) (v := .agg (pageC p)) rfl (by kernel_rfl) (by kernel_rfl) (by kernel_rfl) (fun _ _ _ h => h) ?_ (by assumption) ?_
    · exact yields_page (by kernel_rfl) (.tmp 11) (by kernel_rfl) C (by kernel_rfl) p hSC
    try simp only [Act.put, List.setIfInBounds_toArray, List.set_cons_zero, List.set_cons_succ]
    refine wpAnyH_take (i := 18) (oi := { dst := some 76, op := Op.binOp BinOp.eql 59 (Operand.tmp 74) (Operand.tmp 75) 59, type := 4, pos := "law.go:102", after := #[{ on := 16, ground := Ground.data }, { on := 17, ground := Ground.data }, { on := 15, ground := Ground.guard }], guard := some (15, true) }) (v := .bool true) rfl (by kernel_rfl) (by kernel_rfl) (by kernel_rfl) (fun _ _ _ h => h) ?_ (by assumption) ?_
    · exact yields_eq59 (by kernel_rfl) (.tmp 74) (.tmp 75) 59 (by kernel_rfl) p p (by kernel_rfl) (by kernel_rfl) hwp hwp (decide_eq_true rfl)
    try simp only [Act.put, List.setIfInBounds_toArray, List.set_cons_zero, List.set_cons_succ]
    refine wpAnyH_take (i := 19) (oi := { dst := some 77, op := Op.pick (Operand.tmp 73) (Operand.tmp 76) (Operand.const (Value.bool false)), type := 4, pos := "law.go:102", after := #[{ on := 15, ground := Ground.data }, { on := 18, ground := Ground.data }], guard := none }) (v := ?_) rfl (by kernel_rfl) (by kernel_rfl) (by kernel_rfl) (fun _ _ _ h => h) (.inl ⟨by kernel_rfl, ?_⟩) (by assumption) ?_
    rotate_left
    · (intro w_ hSw; go_simp; first | done | with_reducible rfl)
    try simp only [Act.put, List.setIfInBounds_toArray, List.set_cons_zero, List.set_cons_succ]
    refine wpAnyH_take (i := 20) (oi := { dst := some 78, op := Op.move (Operand.tmp 77), type := 4, pos := "law.go:102", after := #[{ on := 19, ground := Ground.data }, { on := 15, ground := Ground.chain }], guard := none }) (v := ?_) rfl (by kernel_rfl) (by kernel_rfl) (by kernel_rfl) (fun _ _ _ h => h) (.inl ⟨by kernel_rfl, ?_⟩) (by assumption) ?_
    rotate_left
    · (intro w_ hSw; go_simp; first | done | with_reducible rfl)
    try simp only [Act.put, List.setIfInBounds_toArray, List.set_cons_zero, List.set_cons_succ]
    refine wpAnyH_take (i := 21) (oi := { dst := some 79, op := Op.move (Operand.tmp 15), type := 41, pos := "law.go:102", after := #[{ on := 20, ground := Ground.guard }], guard := some (20, true) }) (v := ?_) rfl (by kernel_rfl) (by kernel_rfl) (by kernel_rfl) (fun _ _ _ h => h) (.inl ⟨by kernel_rfl, ?_⟩) (by assumption) ?_
    rotate_left
    · (intro w_ hSw; go_simp; first | done | with_reducible rfl)
    try simp only [Act.put, List.setIfInBounds_toArray, List.set_cons_zero, List.set_cons_succ]
    refine wpAnyH_take (i := 22) (oi := { dst := some 80, op := Op.binOp BinOp.eql 41 (Operand.tmp 79) (Operand.const (Value.int IntKind.i64 0)) 41, type := 4, pos := "law.go:102", after := #[{ on := 21, ground := Ground.data }, { on := 20, ground := Ground.guard }], guard := some (20, true) }) (v := ?_) rfl (by kernel_rfl) (by kernel_rfl) (by kernel_rfl) (fun _ _ _ h => h) (.inl ⟨by kernel_rfl, ?_⟩) (by assumption) ?_
    rotate_left
    · (intro w_ hSw; go_simp; first | done | with_reducible rfl)
    try simp only [Act.put, List.setIfInBounds_toArray, List.set_cons_zero, List.set_cons_succ]
    refine wpAnyH_take (i := 23) (oi := { dst := some 81, op := Op.move (Operand.tmp 13), type := 3, pos := "law.go:102", after := #[{ on := 20, ground := Ground.guard }], guard := some (20, true) }) (v := ?_) rfl (by kernel_rfl) (by kernel_rfl) (by kernel_rfl) (fun _ _ _ h => h) (.inl ⟨by kernel_rfl, ?_⟩) (by assumption) ?_
    rotate_left
    · (intro w_ hSw; go_simp; first | done | with_reducible rfl)
    try simp only [Act.put, List.setIfInBounds_toArray, List.set_cons_zero, List.set_cons_succ]
    refine wpAnyH_take (i := 24) (oi := { dst := some 82, op := Op.fieldAddr 59 (Operand.tmp 6) 0, type := 0, pos := "law.go:102", after := #[{ on := 20, ground := Ground.guard }], guard := some (20, true) }) (v := ?_) rfl (by kernel_rfl) (by kernel_rfl) (by kernel_rfl) (fun _ _ _ h => h) (.inl ⟨by kernel_rfl, ?_⟩) (by assumption) ?_
    rotate_left
    · (intro w_ hSw; go_simp; first | done | with_reducible rfl)
    try simp only [Act.put, List.setIfInBounds_toArray, List.set_cons_zero, List.set_cons_succ]
    refine wpAnyH_take (i := 25) (oi := { dst := some 83, op := Op.load 3 (Operand.tmp 82), type := 3, pos := "law.go:102", after := #[{ on := 24, ground := Ground.data }, { on := 20, ground := Ground.guard }], guard := some (20, true) }) (v := ?_) rfl (by kernel_rfl) (by kernel_rfl) (by kernel_rfl) (fun _ _ _ h => h) (.inl ⟨by kernel_rfl, ?_⟩) (by assumption) ?_
    rotate_left
    · (intro w_ hSw; have hcid := (hSA w_ hSw).id; go_simp; first | done | with_reducible rfl)
    try simp only [Act.put, List.setIfInBounds_toArray, List.set_cons_zero, List.set_cons_succ]
    refine wpAnyH_take (i := 26) (oi := { dst := some 84, op := Op.binOp BinOp.eql 3 (Operand.tmp 81) (Operand.tmp 83) 3, type := 4, pos := "law.go:102", after := #[{ on := 23, ground := Ground.data }, { on := 25, ground := Ground.data }, { on := 20, ground := Ground.guard }], guard := some (20, true) }) (v := ?_) rfl (by kernel_rfl) (by kernel_rfl) (by kernel_rfl) (fun _ _ _ h => h) (.inl ⟨by kernel_rfl, ?_⟩) (by assumption) ?_
    rotate_left
    · (intro w_ hSw; go_simp; first | done | with_reducible rfl)
    try simp only [Act.put, List.setIfInBounds_toArray, List.set_cons_zero, List.set_cons_succ]
    refine wpAnyH_take (i := 27) (oi := { dst := some 85, op := Op.binOp BinOp.eql 4 (Operand.tmp 80) (Operand.tmp 84) 4, type := 4, pos := "law.go:102", after := #[{ on := 22, ground := Ground.data }, { on := 26, ground := Ground.data }, { on := 20, ground := Ground.guard }], guard := some (20, true) }) (v := ?_) rfl (by kernel_rfl) (by kernel_rfl) (by kernel_rfl) (fun _ _ _ h => h) (.inl ⟨by kernel_rfl, ?_⟩) (by assumption) ?_
    rotate_left
    · (intro w_ hSw; go_simp; first | done | with_reducible rfl)
    try simp only [Act.put, List.setIfInBounds_toArray, List.set_cons_zero, List.set_cons_succ]
    refine wpAnyH_take (i := 28) (oi := { dst := some 86, op := Op.pick (Operand.tmp 78) (Operand.tmp 85) (Operand.const (Value.bool false)), type := 4, pos := "law.go:102", after := #[{ on := 20, ground := Ground.data }, { on := 27, ground := Ground.data }], guard := none }) (v := ?_) rfl (by kernel_rfl) (by kernel_rfl) (by kernel_rfl) (fun _ _ _ h => h) (.inl ⟨by kernel_rfl, ?_⟩) (by assumption) ?_
    rotate_left
    · (intro w_ hSw; go_simp; first | done | with_reducible rfl)
    try simp only [Act.put, List.setIfInBounds_toArray, List.set_cons_zero, List.set_cons_succ]
    refine wpAnyH_take (i := 29) (oi := { dst := some 87, op := Op.move (Operand.tmp 86), type := 4, pos := "law.go:102", after := #[{ on := 28, ground := Ground.data }, { on := 20, ground := Ground.chain }], guard := none }) (v := ?_) rfl (by kernel_rfl) (by kernel_rfl) (by kernel_rfl) (fun _ _ _ h => h) (.inl ⟨by kernel_rfl, ?_⟩) (by assumption) ?_
    rotate_left
    · (intro w_ hSw; go_simp; first | done | with_reducible rfl)
    try simp only [Act.put, List.setIfInBounds_toArray, List.set_cons_zero, List.set_cons_succ]
    refine wpAnyH_take (i := 30) (oi := { dst := some 88, op := Op.move (Operand.tmp 13), type := 3, pos := "law.go:102", after := #[{ on := 29, ground := Ground.guard }], guard := some (29, true) }) (v := ?_) rfl (by kernel_rfl) (by kernel_rfl) (by kernel_rfl) (fun _ _ _ h => h) (.inl ⟨by kernel_rfl, ?_⟩) (by assumption) ?_
    rotate_left
    · (intro w_ hSw; go_simp; first | done | with_reducible rfl)
    try simp only [Act.put, List.setIfInBounds_toArray, List.set_cons_zero, List.set_cons_succ]
    refine wpAnyH_take (i := 31) (oi := { dst := some 89, op := Op.fieldAddr 59 (Operand.tmp 6) 0, type := 0, pos := "law.go:102", after := #[{ on := 29, ground := Ground.guard }], guard := some (29, true) }) (v := ?_) rfl (by kernel_rfl) (by kernel_rfl) (by kernel_rfl) (fun _ _ _ h => h) (.inl ⟨by kernel_rfl, ?_⟩) (by assumption) ?_
    rotate_left
    · (intro w_ hSw; go_simp; first | done | with_reducible rfl)
    try simp only [Act.put, List.setIfInBounds_toArray, List.set_cons_zero, List.set_cons_succ]
    refine wpAnyH_take (i := 32) (oi := { dst := some 90, op := Op.load 3 (Operand.tmp 89), type := 3, pos := "law.go:102", after := #[{ on := 31, ground := Ground.data }, { on := 29, ground := Ground.guard }], guard := some (29, true) }) (v := ?_) rfl (by kernel_rfl) (by kernel_rfl) (by kernel_rfl) (fun _ _ _ h => h) (.inl ⟨by kernel_rfl, ?_⟩) (by assumption) ?_
    rotate_left
    · (intro w_ hSw; have hcid := (hSA w_ hSw).id; go_simp; first | done | with_reducible rfl)
    try simp only [Act.put, List.setIfInBounds_toArray, List.set_cons_zero, List.set_cons_succ]
    refine wpAnyH_take (i := 33) (oi := { dst := some 91, op := Op.binOp BinOp.eql 3 (Operand.tmp 88) (Operand.tmp 90) 3, type := 4, pos := "law.go:102", after := #[{ on := 30, ground := Ground.data }, { on := 32, ground := Ground.data }, { on := 29, ground := Ground.guard }], guard := some (29, true) }) (v := ?_) rfl (by kernel_rfl) (by kernel_rfl) (by kernel_rfl) (fun _ _ _ h => h) (.inl ⟨by kernel_rfl, ?_⟩) (by assumption) ?_
    rotate_left
    · (intro w_ hSw; go_simp; first | done | with_reducible rfl)
    try simp only [Act.put, List.setIfInBounds_toArray, List.set_cons_zero, List.set_cons_succ]
    refine wpAnyH_take (i := 34) (oi := { dst := some 92, op := Op.move (Operand.tmp 91), type := 4, pos := "law.go:102", after := #[{ on := 33, ground := Ground.data }, { on := 29, ground := Ground.chain }, { on := 29, ground := Ground.guard }], guard := some (29, true) }) (v := ?_) rfl (by kernel_rfl) (by kernel_rfl) (by kernel_rfl) (fun _ _ _ h => h) (.inl ⟨by kernel_rfl, ?_⟩) (by assumption) ?_
    rotate_left
    · (intro w_ hSw; go_simp; first | done | with_reducible rfl)
    try simp only [Act.put, List.setIfInBounds_toArray, List.set_cons_zero, List.set_cons_succ]
    refine wpAnyH_take (i := 35) (oi := { dst := some 93, op := Op.move (Operand.tmp 15), type := 41, pos := "law.go:102", after := #[{ on := 34, ground := Ground.guard }], guard := some (34, false) }) (v := undef) rfl (by kernel_rfl) (by kernel_rfl) (by kernel_rfl) (fun _ _ _ h => h) (.inr ⟨by kernel_rfl, rfl⟩) (by assumption) ?_
    try simp only [Act.put, List.setIfInBounds_toArray, List.set_cons_zero, List.set_cons_succ]
    refine wpAnyH_take (i := 36) (oi := { dst := some 94, op := Op.binOp BinOp.eql 41 (Operand.tmp 93) (Operand.const (Value.int IntKind.i64 6)) 41, type := 4, pos := "law.go:102", after := #[{ on := 35, ground := Ground.data }, { on := 34, ground := Ground.guard }], guard := some (34, false) }) (v := undef) rfl (by kernel_rfl) (by kernel_rfl) (by kernel_rfl) (fun _ _ _ h => h) (.inr ⟨by kernel_rfl, rfl⟩) (by assumption) ?_
    try simp only [Act.put, List.setIfInBounds_toArray, List.set_cons_zero, List.set_cons_succ]
    refine wpAnyH_take (i := 37) (oi := { dst := some 95, op := Op.pick (Operand.tmp 92) (Operand.const (Value.bool true)) (Operand.tmp 94), type := 4, pos := "law.go:102", after := #[{ on := 34, ground := Ground.data }, { on := 36, ground := Ground.data }, { on := 29, ground := Ground.guard }], guard := some (29, true) }) (v := ?_) rfl (by kernel_rfl) (by kernel_rfl) (by kernel_rfl) (fun _ _ _ h => h) (.inl ⟨by kernel_rfl, ?_⟩) (by assumption) ?_
    rotate_left
    · (intro w_ hSw; go_simp; first | done | with_reducible rfl)
    try simp only [Act.put, List.setIfInBounds_toArray, List.set_cons_zero, List.set_cons_succ]
    refine wpAnyH_take (i := 38) (oi := { dst := some 96, op := Op.pick (Operand.tmp 87) (Operand.tmp 95) (Operand.const (Value.bool false)), type := 4, pos := "law.go:102", after := #[{ on := 29, ground := Ground.data }, { on := 37, ground := Ground.data }], guard := none }) (v := ?_) rfl (by kernel_rfl) (by kernel_rfl) (by kernel_rfl) (fun _ _ _ h => h) (.inl ⟨by kernel_rfl, ?_⟩) (by assumption) ?_
    rotate_left
    · (intro w_ hSw; go_simp; first | done | with_reducible rfl)
    try simp only [Act.put, List.setIfInBounds_toArray, List.set_cons_zero, List.set_cons_succ]
    refine wpAnyH_take (i := 39) (oi := { dst := some 97, op := Op.move (Operand.tmp 96), type := 4, pos := "law.go:102", after := #[{ on := 38, ground := Ground.data }, { on := 34, ground := Ground.chain }], guard := none }) (v := ?_) rfl (by kernel_rfl) (by kernel_rfl) (by kernel_rfl) (fun _ _ _ h => h) (.inl ⟨by kernel_rfl, ?_⟩) (by assumption) ?_
    rotate_left
    · (intro w_ hSw; go_simp; first | done | with_reducible rfl)
    try simp only [Act.put, List.setIfInBounds_toArray, List.set_cons_zero, List.set_cons_succ]
    refine wpAnyH_take (i := 40) (oi := { dst := some 98, op := Op.move (Operand.tmp 17), type := 41, pos := "law.go:102", after := #[{ on := 39, ground := Ground.guard }], guard := some (39, true) }) (v := ?_) rfl (by kernel_rfl) (by kernel_rfl) (by kernel_rfl) (fun _ _ _ h => h) (.inl ⟨by kernel_rfl, ?_⟩) (by assumption) ?_
    rotate_left
    · (intro w_ hSw; go_simp; first | done | with_reducible rfl)
    try simp only [Act.put, List.setIfInBounds_toArray, List.set_cons_zero, List.set_cons_succ]
    refine wpAnyH_take (i := 41) (oi := { dst := some 99, op := Op.binOp BinOp.eql 41 (Operand.tmp 98) (Operand.const (Value.int IntKind.i64 0)) 41, type := 4, pos := "law.go:102", after := #[{ on := 40, ground := Ground.data }, { on := 39, ground := Ground.guard }], guard := some (39, true) }) (v := ?_) rfl (by kernel_rfl) (by kernel_rfl) (by kernel_rfl) (fun _ _ _ h => h) (.inl ⟨by kernel_rfl, ?_⟩) (by assumption) ?_
    rotate_left
    · (intro w_ hSw; go_simp; first | done | with_reducible rfl)
    try simp only [Act.put, List.setIfInBounds_toArray, List.set_cons_zero, List.set_cons_succ]
    refine wpAnyH_take (i := 42) (oi := { dst := some 100, op := Op.pick (Operand.tmp 97) (Operand.tmp 99) (Operand.const (Value.bool false)), type := 4, pos := "law.go:102", after := #[{ on := 39, ground := Ground.data }, { on := 41, ground := Ground.data }], guard := none }) (v := ?_) rfl (by kernel_rfl) (by kernel_rfl) (by kernel_rfl) (fun _ _ _ h => h) (.inl ⟨by kernel_rfl, ?_⟩) (by assumption) ?_
    rotate_left
    · (intro w_ hSw; go_simp; first | done | with_reducible rfl)
    try simp only [Act.put, List.setIfInBounds_toArray, List.set_cons_zero, List.set_cons_succ]
    refine wpAnyH_take (i := 43) (oi := { dst := some 101, op := Op.move (Operand.tmp 100), type := 4, pos := "law.go:102", after := #[{ on := 42, ground := Ground.data }, { on := 39, ground := Ground.chain }], guard := none }) (v := ?_) rfl (by kernel_rfl) (by kernel_rfl) (by kernel_rfl) (fun _ _ _ h => h) (.inl ⟨by kernel_rfl, ?_⟩) (by assumption) ?_
    rotate_left
    · (intro w_ hSw; go_simp; first | done | with_reducible rfl)
    try simp only [Act.put, List.setIfInBounds_toArray, List.set_cons_zero, List.set_cons_succ]
    refine wpAnyH_take (i := 44) (oi := { dst := some 102, op := Op.load 59 (Operand.tmp 16), type := 59, pos := "law.go:102", after := #[{ on := 43, ground := Ground.guard }], guard := some (43, true) }) (v := .agg (pageC (Page.new (v % 64)))) rfl (by kernel_rfl) (by kernel_rfl) (by kernel_rfl) (fun _ _ _ h => h) ?_ (by assumption) ?_
    · exact yields_page (by kernel_rfl) (.tmp 16) (by kernel_rfl) D (by kernel_rfl) (Page.new (v % 64)) hSD
    try simp only [Act.put, List.setIfInBounds_toArray, List.set_cons_zero, List.set_cons_succ]
    refine wpAnyH_take (i := 45) (oi := { dst := some 103, op := Op.move (Operand.tmp 13), type := 3, pos := "law.go:102", after := #[{ on := 43, ground := Ground.guard }], guard := some (43, true) }) (v := ?_) rfl (by kernel_rfl) (by kernel_rfl) (by kernel_rfl) (fun _ _ _ h => h) (.inl ⟨by kernel_rfl, ?_⟩) (by assumption) ?_
    rotate_left
    · (intro w_ hSw; go_simp; first | done | with_reducible rfl)
    try simp only [Act.put, List.setIfInBounds_toArray, List.set_cons_zero, List.set_cons_succ]
    refine wpAnyH_ready (rs := [46]) (by kernel_rfl) (by simp) ?_
    refine AllReadyH.cons (o := { dst := some 104, op := Op.call { callee := Callee.value (Operand.func 44), args := #[Operand.tmp 103], argTypes := #[3] }, type := 59, pos := "law.go:102", after := #[{ on := 45, ground := Ground.data }, { on := 43, ground := Ground.chain }, { on := 43, ground := Ground.guard }], guard := some (43, true) }) rfl (fun K hK => ?_) AllReadyH.nil
    go_simp
    refine (new_calls _ _).mono ?_
    rintro e_ w11 ⟨rfl, hb11⟩
    have hk11 := hHeld.step hb11
    refine hK.out _ _ hk11 (fun hHeld => ?_)
    clear hK K
    try simp only [Act.put, List.setIfInBounds_toArray, List.set_cons_zero, List.set_cons_succ]
    refine wpAnyH_take (i := 47) (oi := { dst := some 105, op := Op.binOp BinOp.eql 59 (Operand.tmp 102) (Operand.tmp 104) 59, type := 4, pos := "law.go:102", after := #[{ on := 44, ground := Ground.data }, { on := 46, ground := Ground.data }, { on := 43, ground := Ground.guard }], guard := some (43, true) }) (v := .bool true) rfl (by kernel_rfl) (by kernel_rfl) (by kernel_rfl) (fun _ _ _ h => h) ?_ (by assumption) ?_
    · exact yields_eq59 (by kernel_rfl) (.tmp 102) (.tmp 104) 59 (by kernel_rfl) (Page.new (v % 64)) (Page.new (v % 64)) (by kernel_rfl) (by kernel_rfl) hwk hwk (decide_eq_true rfl)
    try simp only [Act.put, List.setIfInBounds_toArray, List.set_cons_zero, List.set_cons_succ]
    refine wpAnyH_take (i := 48) (oi := { dst := some 106, op := Op.pick (Operand.tmp 101) (Operand.tmp 105) (Operand.const (Value.bool false)), type := 4, pos := "law.go:102", after := #[{ on := 43, ground := Ground.data }, { on := 47, ground := Ground.data }], guard := none }) (v := ?_) rfl (by kernel_rfl) (by kernel_rfl) (by kernel_rfl) (fun _ _ _ h => h) (.inl ⟨by kernel_rfl, ?_⟩) (by assumption) ?_
    rotate_left
    · (intro w_ hSw; go_simp; first | done | with_reducible rfl)
    try simp only [Act.put, List.setIfInBounds_toArray, List.set_cons_zero, List.set_cons_succ]
    refine wpAnyH_take (i := 49) (oi := { dst := some 4, op := Op.assign (Operand.tmp 106), type := 4, pos := "law.go:102", after := #[{ on := 48, ground := Ground.data }, { on := 46, ground := Ground.chain }, { on := 0, ground := Ground.phase }, { on := 1, ground := Ground.phase }, { on := 2, ground := Ground.phase }, { on := 3, ground := Ground.phase }, { on := 4, ground := Ground.phase }, { on := 5, ground := Ground.phase }, { on := 6, ground := Ground.phase }, { on := 7, ground := Ground.phase }, { on := 8, ground := Ground.phase }, { on := 9, ground := Ground.phase }, { on := 10, ground := Ground.phase }, { on := 11, ground := Ground.phase }, { on := 12, ground := Ground.phase }, { on := 13, ground := Ground.phase }, { on := 14, ground := Ground.phase }, { on := 15, ground := Ground.phase }, { on := 16, ground := Ground.phase }, { on := 17, ground := Ground.phase }, { on := 18, ground := Ground.phase }, { on := 19, ground := Ground.phase }, { on := 20, ground := Ground.phase }, { on := 21, ground := Ground.phase }, { on := 22, ground := Ground.phase }, { on := 23, ground := Ground.phase }, { on := 24, ground := Ground.phase }, { on := 25, ground := Ground.phase }, { on := 26, ground := Ground.phase }, { on := 27, ground := Ground.phase }, { on := 28, ground := Ground.phase }, { on := 29, ground := Ground.phase }, { on := 30, ground := Ground.phase }, { on := 31, ground := Ground.phase }, { on := 32, ground := Ground.phase }, { on := 33, ground := Ground.phase }, { on := 34, ground := Ground.phase }, { on := 35, ground := Ground.phase }, { on := 36, ground := Ground.phase }, { on := 37, ground := Ground.phase }, { on := 38, ground := Ground.phase }, { on := 39, ground := Ground.phase }, { on := 40, ground := Ground.phase }, { on := 41, ground := Ground.phase }, { on := 42, ground := Ground.phase }, { on := 43, ground := Ground.phase }, { on := 44, ground := Ground.phase }, { on := 45, ground := Ground.phase }, { on := 46, ground := Ground.phase }, { on := 47, ground := Ground.phase }, { on := 48, ground := Ground.phase }], guard := none }) (v := ?_) rfl (by kernel_rfl) (by kernel_rfl) (by kernel_rfl) (fun _ _ _ h => h) (.inl ⟨by kernel_rfl, ?_⟩) (by assumption) ?_
    rotate_left
    · (intro w_ hSw; go_simp; first | done | with_reducible rfl)
    try simp only [Act.put, List.setIfInBounds_toArray, List.set_cons_zero, List.set_cons_succ]
    refine wpAnyH_done (by kernel_rfl) ?_ _
    go_wp2
    go_ret
    exact ⟨rfl, hB10.trans (hk11.below.mono hB10.size)⟩
  · have HK2 := HK.out
    rw [if_neg e] at HK2
    dsimp only at HK2
    have EE := Lib.hid e; clear e
    have HK3 := Lib.hid HK2
    clear HK HK2
    refine (HK3.out _).mono ?_
    rintro e_ w8 ⟨rfl, hb8⟩
    have hB8 := (hB7.trans (hb8.mono hB7.size)).alloc (hB7.trans (hb8.mono hB7.size)).size (.cells (pageC Page.zero) 59)
    have hP8 := (hP7.below hb8 hP7.lt).alloc (.cells (pageC Page.zero) 59)
    have hQ8 := (hQ7.below hb8 hQ7.lt).alloc (.cells (pageC Page.zero) 59)
    have hR8 := (hR7.below hb8 hR7.lt).alloc (.cells (pageC Page.zero) 59)
    obtain ⟨C, hCe⟩ : ∃ C, w7.heap.size = C := ⟨_, rfl⟩
    rw [hCe] at hR8
    clear hB7 hb8 hP7 hQ7 hR7
    go_wp2_with (first
      | (refine wpList_alloc_row rfl 59 rfl (pageC Page.zero) zero59 ?_)
      | (refine wpList_store_row rfl 59 (.tmp 14) (.tmp 50) rfl _ (pageC Page.zero) rfl rfl _ _ (heap_alloc_new _ _) (page_size _) (by simp only [pageC_size]) (pageC_oneCell _) ?_; rw [World.setRow_alloc_new]))
    refine (blank_calls _).mono ?_
    rintro e_ w9 ⟨rfl, hb9⟩
    go_wp2_with fail
    refine (HB.out _).mono ?_
    rintro e_ w10 ⟨rfl, hb10⟩
    have hbb := hb9.trans (hb10.mono hb9.size)
    have hB10 := (hB8.trans (hbb.mono hB8.size)).alloc (hB8.trans (hbb.mono hB8.size)).size (.cells (pageC (Page.new (v % 64))) 59)
    have hP10 := (hP8.below hbb hP8.lt).alloc (.cells (pageC (Page.new (v % 64))) 59)
    have hQ10 := (hQ8.below hbb hQ8.lt).alloc (.cells (pageC (Page.new (v % 64))) 59)
    have hR10 := (hR8.below hbb hR8.lt).alloc (.cells (pageC (Page.new (v % 64))) 59)
    have hD10 := PgAt.new w10 (Page.new (v % 64))
    obtain ⟨D, hDe⟩ : ∃ D, w10.heap.size = D := ⟨_, rfl⟩
    rw [hDe] at hD10
    clear hB8 hbb hb9 hb10 hP8 hQ8 hR8
    go_wp2_with (first
      | (refine wpList_alloc_row rfl 59 rfl (pageC Page.zero) zero59 ?_)
      | (refine wpList_store_row rfl 59 (.tmp 16) (.tmp 56) rfl _ (pageC (Page.new (v % 64))) rfl rfl _ _ (heap_alloc_new _ _) (page_size _) (by simp only [pageC_size]) (pageC_oneCell _) ?_; rw [World.setRow_alloc_new]))
    obtain ⟨W, hW⟩ : ∃ W, w10.alloc (.cells (pageC (Page.new (v % 64))) 59) = W := ⟨_, rfl⟩
    rw [hW] at hB10 hP10 hQ10 hR10 hD10 ⊢
    clear hW
    have hSA : ∀ w', Kp W.heap.size W w' → PgAt w' A p := fun w' h => hP10.below h.below hP10.lt
    have hSB : ∀ w', Kp W.heap.size W w' → PgAt w' B p := fun w' h => hQ10.below h.below hQ10.lt
    have hSC : ∀ w', Kp W.heap.size W w' → PgAt w' C p := fun w' h => hR10.below h.below hR10.lt
    have hSD : ∀ w', Kp W.heap.size W w' → PgAt w' D (Page.new (v % 64)) := fun w' h => hD10.below h.below hD10.lt
    have hwp := PgWf.ok HOK.out
    have hwk : PgWf (Page.new (v % 64)) := PgWf.new (WalkArith.wf_i64 (by omega))
    have hde : (v % 64 == p.id) = false := by simp [EE.out]
    refine wp_region_held_drew (S := Kp W.heap.size W) (by kernel_rfl) (Kp.start W _ (Nat.le_refl _)) (fun hHeld => ?_)
    refine wpAnyH_take (i := 0) (oi := { dst := some 58, op := Op.move (Operand.tmp 8), type := 41, pos := "law.go:102", after := #[], guard := none }) (v := ?_) rfl (by kernel_rfl) (by kernel_rfl) (by kernel_rfl) (fun _ _ _ h => h) (.inl ⟨by kernel_rfl, ?_⟩) (by assumption) ?_
    rotate_left
    · (intro w_ hSw; go_simp; first | done | with_reducible rfl)
    try simp only [Act.put, List.setIfInBounds_toArray, List.set_cons_zero, List.set_cons_succ]
    refine wpAnyH_take (i := 1) (oi := { dst := some 59, op := Op.binOp BinOp.eql 41 (Operand.tmp 58) (Operand.const (Value.int IntKind.i64 0)) 41, type := 4, pos := "law.go:102", after := #[{ on := 0, ground := Ground.data }], guard := none }) (v := ?_) rfl (by kernel_rfl) (by kernel_rfl) (by kernel_rfl) (fun _ _ _ h => h) (.inl ⟨by kernel_rfl, ?_⟩) (by assumption) ?_
    rotate_left
    · (intro w_ hSw; go_simp; first | done | with_reducible rfl)
    try simp only [Act.put, List.setIfInBounds_toArray, List.set_cons_zero, List.set_cons_succ]
    refine wpAnyH_take (i := 2) (oi := { dst := some 60, op := Op.move (Operand.tmp 59), type := 4, pos := "law.go:102", after := #[{ on := 1, ground := Ground.data }], guard := none }) (v := ?_) rfl (by kernel_rfl) (by kernel_rfl) (by kernel_rfl) (fun _ _ _ h => h) (.inl ⟨by kernel_rfl, ?_⟩) (by assumption) ?_
    rotate_left
    · (intro w_ hSw; go_simp; first | done | with_reducible rfl)
    try simp only [Act.put, List.setIfInBounds_toArray, List.set_cons_zero, List.set_cons_succ]
    refine wpAnyH_take (i := 3) (oi := { dst := some 61, op := Op.move (Operand.tmp 10), type := 41, pos := "law.go:102", after := #[{ on := 2, ground := Ground.guard }], guard := some (2, true) }) (v := ?_) rfl (by kernel_rfl) (by kernel_rfl) (by kernel_rfl) (fun _ _ _ h => h) (.inl ⟨by kernel_rfl, ?_⟩) (by assumption) ?_
    rotate_left
    · (intro w_ hSw; go_simp; first | done | with_reducible rfl)
    try simp only [Act.put, List.setIfInBounds_toArray, List.set_cons_zero, List.set_cons_succ]
    refine wpAnyH_take (i := 4) (oi := { dst := some 62, op := Op.binOp BinOp.eql 41 (Operand.tmp 61) (Operand.const (Value.int IntKind.i64 0)) 41, type := 4, pos := "law.go:102", after := #[{ on := 3, ground := Ground.data }, { on := 2, ground := Ground.guard }], guard := some (2, true) }) (v := ?_) rfl (by kernel_rfl) (by kernel_rfl) (by kernel_rfl) (fun _ _ _ h => h) (.inl ⟨by kernel_rfl, ?_⟩) (by assumption) ?_
    rotate_left
    · (intro w_ hSw; go_simp; first | done | with_reducible rfl)
    try simp only [Act.put, List.setIfInBounds_toArray, List.set_cons_zero, List.set_cons_succ]
    refine wpAnyH_take (i := 5) (oi := { dst := some 63, op := Op.pick (Operand.tmp 60) (Operand.tmp 62) (Operand.const (Value.bool false)), type := 4, pos := "law.go:102", after := #[{ on := 2, ground := Ground.data }, { on := 4, ground := Ground.data }], guard := none }) (v := ?_) rfl (by kernel_rfl) (by kernel_rfl) (by kernel_rfl) (fun _ _ _ h => h) (.inl ⟨by kernel_rfl, ?_⟩) (by assumption) ?_
    rotate_left
    · (intro w_ hSw; go_simp; first | done | with_reducible rfl)
    try simp only [Act.put, List.setIfInBounds_toArray, List.set_cons_zero, List.set_cons_succ]
    refine wpAnyH_take (i := 6) (oi := { dst := some 64, op := Op.move (Operand.tmp 63), type := 4, pos := "law.go:102", after := #[{ on := 5, ground := Ground.data }, { on := 2, ground := Ground.chain }], guard := none }) (v := ?_) rfl (by kernel_rfl) (by kernel_rfl) (by kernel_rfl) (fun _ _ _ h => h) (.inl ⟨by kernel_rfl, ?_⟩) (by assumption) ?_
    rotate_left
    · (intro w_ hSw; go_simp; first | done | with_reducible rfl)
    try simp only [Act.put, List.setIfInBounds_toArray, List.set_cons_zero, List.set_cons_succ]
    refine wpAnyH_take (i := 7) (oi := { dst := some 65, op := Op.move (Operand.tmp 12), type := 41, pos := "law.go:102", after := #[{ on := 6, ground := Ground.guard }], guard := some (6, true) }) (v := ?_) rfl (by kernel_rfl) (by kernel_rfl) (by kernel_rfl) (fun _ _ _ h => h) (.inl ⟨by kernel_rfl, ?_⟩) (by assumption) ?_
    rotate_left
    · (intro w_ hSw; go_simp; first | done | with_reducible rfl)
    try simp only [Act.put, List.setIfInBounds_toArray, List.set_cons_zero, List.set_cons_succ]
    refine wpAnyH_take (i := 8) (oi := { dst := some 66, op := Op.binOp BinOp.eql 41 (Operand.tmp 65) (Operand.const (Value.int IntKind.i64 0)) 41, type := 4, pos := "law.go:102", after := #[{ on := 7, ground := Ground.data }, { on := 6, ground := Ground.guard }], guard := some (6, true) }) (v := ?_) rfl (by kernel_rfl) (by kernel_rfl) (by kernel_rfl) (fun _ _ _ h => h) (.inl ⟨by kernel_rfl, ?_⟩) (by assumption) ?_
    rotate_left
    · (intro w_ hSw; go_simp; first | done | with_reducible rfl)
    try simp only [Act.put, List.setIfInBounds_toArray, List.set_cons_zero, List.set_cons_succ]
    refine wpAnyH_take (i := 9) (oi := { dst := some 67, op := Op.pick (Operand.tmp 64) (Operand.tmp 66) (Operand.const (Value.bool false)), type := 4, pos := "law.go:102", after := #[{ on := 6, ground := Ground.data }, { on := 8, ground := Ground.data }], guard := none }) (v := ?_) rfl (by kernel_rfl) (by kernel_rfl) (by kernel_rfl) (fun _ _ _ h => h) (.inl ⟨by kernel_rfl, ?_⟩) (by assumption) ?_
    rotate_left
    · (intro w_ hSw; go_simp; first | done | with_reducible rfl)
    try simp only [Act.put, List.setIfInBounds_toArray, List.set_cons_zero, List.set_cons_succ]
    refine wpAnyH_take (i := 10) (oi := { dst := some 68, op := Op.move (Operand.tmp 67), type := 4, pos := "law.go:102", after := #[{ on := 9, ground := Ground.data }, { on := 6, ground := Ground.chain }], guard := none }) (v := ?_) rfl (by kernel_rfl) (by kernel_rfl) (by kernel_rfl) (fun _ _ _ h => h) (.inl ⟨by kernel_rfl, ?_⟩) (by assumption) ?_
    rotate_left
    · (intro w_ hSw; go_simp; first | done | with_reducible rfl)
    try simp only [Act.put, List.setIfInBounds_toArray, List.set_cons_zero, List.set_cons_succ]
    refine wpAnyH_take (i := 11) (oi := { dst := some 69, op := Op.load 59 (Operand.tmp 6), type := 59, pos := "law.go:102", after := #[{ on := 10, ground := Ground.guard }], guard := some (10, true) }) (v := .agg (pageC p)) rfl (by kernel_rfl) (by kernel_rfl) (by kernel_rfl) (fun _ _ _ h => h) ?_ (by assumption) ?_
    · exact yields_page (by kernel_rfl) (.tmp 6) (by kernel_rfl) A (by kernel_rfl) p hSA
    try simp only [Act.put, List.setIfInBounds_toArray, List.set_cons_zero, List.set_cons_succ]
    refine wpAnyH_take (i := 12) (oi := { dst := some 70, op := Op.load 59 (Operand.tmp 9), type := 59, pos := "law.go:102", after := #[{ on := 10, ground := Ground.guard }], guard := some (10, true) }) (v := .agg (pageC p)) rfl (by kernel_rfl) (by kernel_rfl) (by kernel_rfl) (fun _ _ _ h => h) ?_ (by assumption) ?_
    · exact yields_page (by kernel_rfl) (.tmp 9) (by kernel_rfl) B (by kernel_rfl) p hSB
    try simp only [Act.put, List.setIfInBounds_toArray, List.set_cons_zero, List.set_cons_succ]
    refine wpAnyH_take (i := 13) (oi := { dst := some 71, op := Op.binOp BinOp.eql 59 (Operand.tmp 69) (Operand.tmp 70) 59, type := 4, pos := "law.go:102", after := #[{ on := 11, ground := Ground.data }, { on := 12, ground := Ground.data }, { on := 10, ground := Ground.guard }], guard := some (10, true) }) (v := .bool true) rfl (by kernel_rfl) (by kernel_rfl) (by kernel_rfl) (fun _ _ _ h => h) ?_ (by assumption) ?_
    · exact yields_eq59 (by kernel_rfl) (.tmp 69) (.tmp 70) 59 (by kernel_rfl) p p (by kernel_rfl) (by kernel_rfl) hwp hwp (decide_eq_true rfl)
    try simp only [Act.put, List.setIfInBounds_toArray, List.set_cons_zero, List.set_cons_succ]
    refine wpAnyH_take (i := 14) (oi := { dst := some 72, op := Op.pick (Operand.tmp 68) (Operand.tmp 71) (Operand.const (Value.bool false)), type := 4, pos := "law.go:102", after := #[{ on := 10, ground := Ground.data }, { on := 13, ground := Ground.data }], guard := none }) (v := ?_) rfl (by kernel_rfl) (by kernel_rfl) (by kernel_rfl) (fun _ _ _ h => h) (.inl ⟨by kernel_rfl, ?_⟩) (by assumption) ?_
    rotate_left
    · (intro w_ hSw; go_simp; first | done | with_reducible rfl)
    try simp only [Act.put, List.setIfInBounds_toArray, List.set_cons_zero, List.set_cons_succ]
    refine wpAnyH_take (i := 15) (oi := { dst := some 73, op := Op.move (Operand.tmp 72), type := 4, pos := "law.go:102", after := #[{ on := 14, ground := Ground.data }, { on := 10, ground := Ground.chain }], guard := none }) (v := ?_) rfl (by kernel_rfl) (by kernel_rfl) (by kernel_rfl) (fun _ _ _ h => h) (.inl ⟨by kernel_rfl, ?_⟩) (by assumption) ?_
    rotate_left
    · (intro w_ hSw; go_simp; first | done | with_reducible rfl)
    try simp only [Act.put, List.setIfInBounds_toArray, List.set_cons_zero, List.set_cons_succ]
    refine wpAnyH_take (i := 16) (oi := { dst := some 74, op := Op.load 59 (Operand.tmp 6), type := 59, pos := "law.go:102", after := #[{ on := 15, ground := Ground.guard }], guard := some (15, true) }) (v := .agg (pageC p)) rfl (by kernel_rfl) (by kernel_rfl) (by kernel_rfl) (fun _ _ _ h => h) ?_ (by assumption) ?_
    · exact yields_page (by kernel_rfl) (.tmp 6) (by kernel_rfl) A (by kernel_rfl) p hSA
    try simp only [Act.put, List.setIfInBounds_toArray, List.set_cons_zero, List.set_cons_succ]
    refine wpAnyH_take (i := 17) (oi := { dst := some 75, op := Op.load 59 (Operand.tmp 11), type := 59, pos := "law.go:102", after := #[{ on := 15, ground := Ground.guard }], guard := some (15, true) }) (v := .agg (pageC p)) rfl (by kernel_rfl) (by kernel_rfl) (by kernel_rfl) (fun _ _ _ h => h) ?_ (by assumption) ?_
    · exact yields_page (by kernel_rfl) (.tmp 11) (by kernel_rfl) C (by kernel_rfl) p hSC
    try simp only [Act.put, List.setIfInBounds_toArray, List.set_cons_zero, List.set_cons_succ]
    refine wpAnyH_take (i := 18) (oi := { dst := some 76, op := Op.binOp BinOp.eql 59 (Operand.tmp 74) (Operand.tmp 75) 59, type := 4, pos := "law.go:102", after := #[{ on := 16, ground := Ground.data }, { on := 17, ground := Ground.data }, { on := 15, ground := Ground.guard }], guard := some (15, true) }) (v := .bool true) rfl (by kernel_rfl) (by kernel_rfl) (by kernel_rfl) (fun _ _ _ h => h) ?_ (by assumption) ?_
    · exact yields_eq59 (by kernel_rfl) (.tmp 74) (.tmp 75) 59 (by kernel_rfl) p p (by kernel_rfl) (by kernel_rfl) hwp hwp (decide_eq_true rfl)
    try simp only [Act.put, List.setIfInBounds_toArray, List.set_cons_zero, List.set_cons_succ]
    refine wpAnyH_take (i := 19) (oi := { dst := some 77, op := Op.pick (Operand.tmp 73) (Operand.tmp 76) (Operand.const (Value.bool false)), type := 4, pos := "law.go:102", after := #[{ on := 15, ground := Ground.data }, { on := 18, ground := Ground.data }], guard := none }) (v := ?_) rfl (by kernel_rfl) (by kernel_rfl) (by kernel_rfl) (fun _ _ _ h => h) (.inl ⟨by kernel_rfl, ?_⟩) (by assumption) ?_
    rotate_left
    · (intro w_ hSw; go_simp; first | done | with_reducible rfl)
    try simp only [Act.put, List.setIfInBounds_toArray, List.set_cons_zero, List.set_cons_succ]
    refine wpAnyH_take (i := 20) (oi := { dst := some 78, op := Op.move (Operand.tmp 77), type := 4, pos := "law.go:102", after := #[{ on := 19, ground := Ground.data }, { on := 15, ground := Ground.chain }], guard := none }) (v := ?_) rfl (by kernel_rfl) (by kernel_rfl) (by kernel_rfl) (fun _ _ _ h => h) (.inl ⟨by kernel_rfl, ?_⟩) (by assumption) ?_
    rotate_left
    · (intro w_ hSw; go_simp; first | done | with_reducible rfl)
    try simp only [Act.put, List.setIfInBounds_toArray, List.set_cons_zero, List.set_cons_succ]
    refine wpAnyH_take (i := 21) (oi := { dst := some 79, op := Op.move (Operand.tmp 15), type := 41, pos := "law.go:102", after := #[{ on := 20, ground := Ground.guard }], guard := some (20, true) }) (v := ?_) rfl (by kernel_rfl) (by kernel_rfl) (by kernel_rfl) (fun _ _ _ h => h) (.inl ⟨by kernel_rfl, ?_⟩) (by assumption) ?_
    rotate_left
    · (intro w_ hSw; go_simp; first | done | with_reducible rfl)
    try simp only [Act.put, List.setIfInBounds_toArray, List.set_cons_zero, List.set_cons_succ]
    refine wpAnyH_take (i := 22) (oi := { dst := some 80, op := Op.binOp BinOp.eql 41 (Operand.tmp 79) (Operand.const (Value.int IntKind.i64 0)) 41, type := 4, pos := "law.go:102", after := #[{ on := 21, ground := Ground.data }, { on := 20, ground := Ground.guard }], guard := some (20, true) }) (v := ?_) rfl (by kernel_rfl) (by kernel_rfl) (by kernel_rfl) (fun _ _ _ h => h) (.inl ⟨by kernel_rfl, ?_⟩) (by assumption) ?_
    rotate_left
    · (intro w_ hSw; go_simp; first | done | with_reducible rfl)
    try simp only [Act.put, List.setIfInBounds_toArray, List.set_cons_zero, List.set_cons_succ]
    refine wpAnyH_take (i := 23) (oi := { dst := some 81, op := Op.move (Operand.tmp 13), type := 3, pos := "law.go:102", after := #[{ on := 20, ground := Ground.guard }], guard := some (20, true) }) (v := ?_) rfl (by kernel_rfl) (by kernel_rfl) (by kernel_rfl) (fun _ _ _ h => h) (.inl ⟨by kernel_rfl, ?_⟩) (by assumption) ?_
    rotate_left
    · (intro w_ hSw; go_simp; first | done | with_reducible rfl)
    try simp only [Act.put, List.setIfInBounds_toArray, List.set_cons_zero, List.set_cons_succ]
    refine wpAnyH_take (i := 24) (oi := { dst := some 82, op := Op.fieldAddr 59 (Operand.tmp 6) 0, type := 0, pos := "law.go:102", after := #[{ on := 20, ground := Ground.guard }], guard := some (20, true) }) (v := ?_) rfl (by kernel_rfl) (by kernel_rfl) (by kernel_rfl) (fun _ _ _ h => h) (.inl ⟨by kernel_rfl, ?_⟩) (by assumption) ?_
    rotate_left
    · (intro w_ hSw; go_simp; first | done | with_reducible rfl)
    try simp only [Act.put, List.setIfInBounds_toArray, List.set_cons_zero, List.set_cons_succ]
    refine wpAnyH_take (i := 25) (oi := { dst := some 83, op := Op.load 3 (Operand.tmp 82), type := 3, pos := "law.go:102", after := #[{ on := 24, ground := Ground.data }, { on := 20, ground := Ground.guard }], guard := some (20, true) }) (v := ?_) rfl (by kernel_rfl) (by kernel_rfl) (by kernel_rfl) (fun _ _ _ h => h) (.inl ⟨by kernel_rfl, ?_⟩) (by assumption) ?_
    rotate_left
    · (intro w_ hSw; have hcid := (hSA w_ hSw).id; go_simp; first | done | with_reducible rfl)
    try simp only [Act.put, List.setIfInBounds_toArray, List.set_cons_zero, List.set_cons_succ]
    refine wpAnyH_take (i := 26) (oi := { dst := some 84, op := Op.binOp BinOp.eql 3 (Operand.tmp 81) (Operand.tmp 83) 3, type := 4, pos := "law.go:102", after := #[{ on := 23, ground := Ground.data }, { on := 25, ground := Ground.data }, { on := 20, ground := Ground.guard }], guard := some (20, true) }) (v := ?_) rfl (by kernel_rfl) (by kernel_rfl) (by kernel_rfl) (fun _ _ _ h => h) (.inl ⟨by kernel_rfl, ?_⟩) (by assumption) ?_
    rotate_left
    · (intro w_ hSw; go_simp; first | done | with_reducible rfl)
    try simp only [Act.put, List.setIfInBounds_toArray, List.set_cons_zero, List.set_cons_succ]
    refine wpAnyH_take (i := 27) (oi := { dst := some 85, op := Op.binOp BinOp.eql 4 (Operand.tmp 80) (Operand.tmp 84) 4, type := 4, pos := "law.go:102", after := #[{ on := 22, ground := Ground.data }, { on := 26, ground := Ground.data }, { on := 20, ground := Ground.guard }], guard := some (20, true) }) (v := ?_) rfl (by kernel_rfl) (by kernel_rfl) (by kernel_rfl) (fun _ _ _ h => h) (.inl ⟨by kernel_rfl, ?_⟩) (by assumption) ?_
    rotate_left
    · (intro w_ hSw; go_simp; first | done | with_reducible rfl)
    try simp only [Act.put, List.setIfInBounds_toArray, List.set_cons_zero, List.set_cons_succ]
    refine wpAnyH_take (i := 28) (oi := { dst := some 86, op := Op.pick (Operand.tmp 78) (Operand.tmp 85) (Operand.const (Value.bool false)), type := 4, pos := "law.go:102", after := #[{ on := 20, ground := Ground.data }, { on := 27, ground := Ground.data }], guard := none }) (v := ?_) rfl (by kernel_rfl) (by kernel_rfl) (by kernel_rfl) (fun _ _ _ h => h) (.inl ⟨by kernel_rfl, ?_⟩) (by assumption) ?_
    rotate_left
    · (intro w_ hSw; go_simp; first | done | with_reducible rfl)
    try simp only [Act.put, List.setIfInBounds_toArray, List.set_cons_zero, List.set_cons_succ]
    refine wpAnyH_take (i := 29) (oi := { dst := some 87, op := Op.move (Operand.tmp 86), type := 4, pos := "law.go:102", after := #[{ on := 28, ground := Ground.data }, { on := 20, ground := Ground.chain }], guard := none }) (v := ?_) rfl (by kernel_rfl) (by kernel_rfl) (by kernel_rfl) (fun _ _ _ h => h) (.inl ⟨by kernel_rfl, ?_⟩) (by assumption) ?_
    rotate_left
    · (intro w_ hSw; go_simp; first | done | with_reducible rfl)
    try simp only [Act.put, List.setIfInBounds_toArray, List.set_cons_zero, List.set_cons_succ]
    refine wpAnyH_take (i := 30) (oi := { dst := some 88, op := Op.move (Operand.tmp 13), type := 3, pos := "law.go:102", after := #[{ on := 29, ground := Ground.guard }], guard := some (29, true) }) (v := ?_) rfl (by kernel_rfl) (by kernel_rfl) (by kernel_rfl) (fun _ _ _ h => h) (.inl ⟨by kernel_rfl, ?_⟩) (by assumption) ?_
    rotate_left
    · (intro w_ hSw; go_simp; first | done | with_reducible rfl)
    try simp only [Act.put, List.setIfInBounds_toArray, List.set_cons_zero, List.set_cons_succ]
    refine wpAnyH_take (i := 31) (oi := { dst := some 89, op := Op.fieldAddr 59 (Operand.tmp 6) 0, type := 0, pos := "law.go:102", after := #[{ on := 29, ground := Ground.guard }], guard := some (29, true) }) (v := ?_) rfl (by kernel_rfl) (by kernel_rfl) (by kernel_rfl) (fun _ _ _ h => h) (.inl ⟨by kernel_rfl, ?_⟩) (by assumption) ?_
    rotate_left
    · (intro w_ hSw; go_simp; first | done | with_reducible rfl)
    try simp only [Act.put, List.setIfInBounds_toArray, List.set_cons_zero, List.set_cons_succ]
    refine wpAnyH_take (i := 32) (oi := { dst := some 90, op := Op.load 3 (Operand.tmp 89), type := 3, pos := "law.go:102", after := #[{ on := 31, ground := Ground.data }, { on := 29, ground := Ground.guard }], guard := some (29, true) }) (v := ?_) rfl (by kernel_rfl) (by kernel_rfl) (by kernel_rfl) (fun _ _ _ h => h) (.inl ⟨by kernel_rfl, ?_⟩) (by assumption) ?_
    rotate_left
    · (intro w_ hSw; have hcid := (hSA w_ hSw).id; go_simp; first | done | with_reducible rfl)
    try simp only [Act.put, List.setIfInBounds_toArray, List.set_cons_zero, List.set_cons_succ]
    refine wpAnyH_take (i := 33) (oi := { dst := some 91, op := Op.binOp BinOp.eql 3 (Operand.tmp 88) (Operand.tmp 90) 3, type := 4, pos := "law.go:102", after := #[{ on := 30, ground := Ground.data }, { on := 32, ground := Ground.data }, { on := 29, ground := Ground.guard }], guard := some (29, true) }) (v := ?_) rfl (by kernel_rfl) (by kernel_rfl) (by kernel_rfl) (fun _ _ _ h => h) (.inl ⟨by kernel_rfl, ?_⟩) (by assumption) ?_
    rotate_left
    · (intro w_ hSw; go_simp; first | done | with_reducible rfl)
    try simp only [Act.put, List.setIfInBounds_toArray, List.set_cons_zero, List.set_cons_succ]
    refine wpAnyH_take (i := 34) (oi := { dst := some 92, op := Op.move (Operand.tmp 91), type := 4, pos := "law.go:102", after := #[{ on := 33, ground := Ground.data }, { on := 29, ground := Ground.chain }, { on := 29, ground := Ground.guard }], guard := some (29, true) }) (v := ?_) rfl (by kernel_rfl) (by kernel_rfl) (by kernel_rfl) (fun _ _ _ h => h) (.inl ⟨by kernel_rfl, ?_⟩) (by assumption) ?_
    rotate_left
    · (intro w_ hSw; go_simp; first | done | with_reducible rfl)
    try simp only [Act.put, List.setIfInBounds_toArray, List.set_cons_zero, List.set_cons_succ]
    refine wpAnyH_take (i := 35) (oi := { dst := some 93, op := Op.move (Operand.tmp 15), type := 41, pos := "law.go:102", after := #[{ on := 34, ground := Ground.guard }], guard := some (34, false) }) (v := ?_) rfl (by kernel_rfl) (by kernel_rfl) (by kernel_rfl) (fun _ _ _ h => h) (.inl ⟨by kernel_rfl, ?_⟩) (by assumption) ?_
    rotate_left
    · (intro w_ hSw; go_simp; first | done | with_reducible rfl)
    try simp only [Act.put, List.setIfInBounds_toArray, List.set_cons_zero, List.set_cons_succ]
    refine wpAnyH_take (i := 36) (oi := { dst := some 94, op := Op.binOp BinOp.eql 41 (Operand.tmp 93) (Operand.const (Value.int IntKind.i64 6)) 41, type := 4, pos := "law.go:102", after := #[{ on := 35, ground := Ground.data }, { on := 34, ground := Ground.guard }], guard := some (34, false) }) (v := ?_) rfl (by kernel_rfl) (by kernel_rfl) (by kernel_rfl) (fun _ _ _ h => h) (.inl ⟨by kernel_rfl, ?_⟩) (by assumption) ?_
    rotate_left
    · (intro w_ hSw; go_simp; first | done | with_reducible rfl)
    try simp only [Act.put, List.setIfInBounds_toArray, List.set_cons_zero, List.set_cons_succ]
    refine wpAnyH_take (i := 37) (oi := { dst := some 95, op := Op.pick (Operand.tmp 92) (Operand.const (Value.bool true)) (Operand.tmp 94), type := 4, pos := "law.go:102", after := #[{ on := 34, ground := Ground.data }, { on := 36, ground := Ground.data }, { on := 29, ground := Ground.guard }], guard := some (29, true) }) (v := ?_) rfl (by kernel_rfl) (by kernel_rfl) (by kernel_rfl) (fun _ _ _ h => h) (.inl ⟨by kernel_rfl, ?_⟩) (by assumption) ?_
    rotate_left
    · (intro w_ hSw; go_simp; first | done | with_reducible rfl)
    try simp only [Act.put, List.setIfInBounds_toArray, List.set_cons_zero, List.set_cons_succ]
    refine wpAnyH_take (i := 38) (oi := { dst := some 96, op := Op.pick (Operand.tmp 87) (Operand.tmp 95) (Operand.const (Value.bool false)), type := 4, pos := "law.go:102", after := #[{ on := 29, ground := Ground.data }, { on := 37, ground := Ground.data }], guard := none }) (v := ?_) rfl (by kernel_rfl) (by kernel_rfl) (by kernel_rfl) (fun _ _ _ h => h) (.inl ⟨by kernel_rfl, ?_⟩) (by assumption) ?_
    rotate_left
    · (intro w_ hSw; go_simp; first | done | with_reducible rfl)
    try simp only [Act.put, List.setIfInBounds_toArray, List.set_cons_zero, List.set_cons_succ]
    refine wpAnyH_take (i := 39) (oi := { dst := some 97, op := Op.move (Operand.tmp 96), type := 4, pos := "law.go:102", after := #[{ on := 38, ground := Ground.data }, { on := 34, ground := Ground.chain }], guard := none }) (v := ?_) rfl (by kernel_rfl) (by kernel_rfl) (by kernel_rfl) (fun _ _ _ h => h) (.inl ⟨by kernel_rfl, ?_⟩) (by assumption) ?_
    rotate_left
    · (intro w_ hSw; go_simp; first | done | with_reducible rfl)
    try simp only [Act.put, List.setIfInBounds_toArray, List.set_cons_zero, List.set_cons_succ]
    refine wpAnyH_take (i := 40) (oi := { dst := some 98, op := Op.move (Operand.tmp 17), type := 41, pos := "law.go:102", after := #[{ on := 39, ground := Ground.guard }], guard := some (39, true) }) (v := ?_) rfl (by kernel_rfl) (by kernel_rfl) (by kernel_rfl) (fun _ _ _ h => h) (.inl ⟨by kernel_rfl, ?_⟩) (by assumption) ?_
    rotate_left
    · (intro w_ hSw; go_simp; first | done | with_reducible rfl)
    try simp only [Act.put, List.setIfInBounds_toArray, List.set_cons_zero, List.set_cons_succ]
    refine wpAnyH_take (i := 41) (oi := { dst := some 99, op := Op.binOp BinOp.eql 41 (Operand.tmp 98) (Operand.const (Value.int IntKind.i64 0)) 41, type := 4, pos := "law.go:102", after := #[{ on := 40, ground := Ground.data }, { on := 39, ground := Ground.guard }], guard := some (39, true) }) (v := ?_) rfl (by kernel_rfl) (by kernel_rfl) (by kernel_rfl) (fun _ _ _ h => h) (.inl ⟨by kernel_rfl, ?_⟩) (by assumption) ?_
    rotate_left
    · (intro w_ hSw; go_simp; first | done | with_reducible rfl)
    try simp only [Act.put, List.setIfInBounds_toArray, List.set_cons_zero, List.set_cons_succ]
    refine wpAnyH_take (i := 42) (oi := { dst := some 100, op := Op.pick (Operand.tmp 97) (Operand.tmp 99) (Operand.const (Value.bool false)), type := 4, pos := "law.go:102", after := #[{ on := 39, ground := Ground.data }, { on := 41, ground := Ground.data }], guard := none }) (v := ?_) rfl (by kernel_rfl) (by kernel_rfl) (by kernel_rfl) (fun _ _ _ h => h) (.inl ⟨by kernel_rfl, ?_⟩) (by assumption) ?_
    rotate_left
    · (intro w_ hSw; go_simp; first | done | with_reducible rfl)
    try simp only [Act.put, List.setIfInBounds_toArray, List.set_cons_zero, List.set_cons_succ]
    refine wpAnyH_take (i := 43) (oi := { dst := some 101, op := Op.move (Operand.tmp 100), type := 4, pos := "law.go:102", after := #[{ on := 42, ground := Ground.data }, { on := 39, ground := Ground.chain }], guard := none }) (v := ?_) rfl (by kernel_rfl) (by kernel_rfl) (by kernel_rfl) (fun _ _ _ h => h) (.inl ⟨by kernel_rfl, ?_⟩) (by assumption) ?_
    rotate_left
    · (intro w_ hSw; go_simp; first | done | with_reducible rfl)
    try simp only [Act.put, List.setIfInBounds_toArray, List.set_cons_zero, List.set_cons_succ]
    refine wpAnyH_take (i := 44) (oi := { dst := some 102, op := Op.load 59 (Operand.tmp 16), type := 59, pos := "law.go:102", after := #[{ on := 43, ground := Ground.guard }], guard := some (43, true) }) (v := .agg (pageC (Page.new (v % 64)))) rfl (by kernel_rfl) (by kernel_rfl) (by kernel_rfl) (fun _ _ _ h => h) ?_ (by assumption) ?_
    · exact yields_page (by kernel_rfl) (.tmp 16) (by kernel_rfl) D (by kernel_rfl) (Page.new (v % 64)) hSD
    try simp only [Act.put, List.setIfInBounds_toArray, List.set_cons_zero, List.set_cons_succ]
    refine wpAnyH_take (i := 45) (oi := { dst := some 103, op := Op.move (Operand.tmp 13), type := 3, pos := "law.go:102", after := #[{ on := 43, ground := Ground.guard }], guard := some (43, true) }) (v := ?_) rfl (by kernel_rfl) (by kernel_rfl) (by kernel_rfl) (fun _ _ _ h => h) (.inl ⟨by kernel_rfl, ?_⟩) (by assumption) ?_
    rotate_left
    · (intro w_ hSw; go_simp; first | done | with_reducible rfl)
    try simp only [Act.put, List.setIfInBounds_toArray, List.set_cons_zero, List.set_cons_succ]
    refine wpAnyH_ready (rs := [46]) (by kernel_rfl) (by simp) ?_
    refine AllReadyH.cons (o := { dst := some 104, op := Op.call { callee := Callee.value (Operand.func 44), args := #[Operand.tmp 103], argTypes := #[3] }, type := 59, pos := "law.go:102", after := #[{ on := 45, ground := Ground.data }, { on := 43, ground := Ground.chain }, { on := 43, ground := Ground.guard }], guard := some (43, true) }) rfl (fun K hK => ?_) AllReadyH.nil
    go_simp
    refine (new_calls _ _).mono ?_
    rintro e_ w11 ⟨rfl, hb11⟩
    have hk11 := hHeld.step hb11
    refine hK.out _ _ hk11 (fun hHeld => ?_)
    clear hK K
    try simp only [Act.put, List.setIfInBounds_toArray, List.set_cons_zero, List.set_cons_succ]
    refine wpAnyH_take (i := 47) (oi := { dst := some 105, op := Op.binOp BinOp.eql 59 (Operand.tmp 102) (Operand.tmp 104) 59, type := 4, pos := "law.go:102", after := #[{ on := 44, ground := Ground.data }, { on := 46, ground := Ground.data }, { on := 43, ground := Ground.guard }], guard := some (43, true) }) (v := .bool true) rfl (by kernel_rfl) (by kernel_rfl) (by kernel_rfl) (fun _ _ _ h => h) ?_ (by assumption) ?_
    · exact yields_eq59 (by kernel_rfl) (.tmp 102) (.tmp 104) 59 (by kernel_rfl) (Page.new (v % 64)) (Page.new (v % 64)) (by kernel_rfl) (by kernel_rfl) hwk hwk (decide_eq_true rfl)
    try simp only [Act.put, List.setIfInBounds_toArray, List.set_cons_zero, List.set_cons_succ]
    refine wpAnyH_take (i := 48) (oi := { dst := some 106, op := Op.pick (Operand.tmp 101) (Operand.tmp 105) (Operand.const (Value.bool false)), type := 4, pos := "law.go:102", after := #[{ on := 43, ground := Ground.data }, { on := 47, ground := Ground.data }], guard := none }) (v := ?_) rfl (by kernel_rfl) (by kernel_rfl) (by kernel_rfl) (fun _ _ _ h => h) (.inl ⟨by kernel_rfl, ?_⟩) (by assumption) ?_
    rotate_left
    · (intro w_ hSw; go_simp; first | done | with_reducible rfl)
    try simp only [Act.put, List.setIfInBounds_toArray, List.set_cons_zero, List.set_cons_succ]
    refine wpAnyH_take (i := 49) (oi := { dst := some 4, op := Op.assign (Operand.tmp 106), type := 4, pos := "law.go:102", after := #[{ on := 48, ground := Ground.data }, { on := 46, ground := Ground.chain }, { on := 0, ground := Ground.phase }, { on := 1, ground := Ground.phase }, { on := 2, ground := Ground.phase }, { on := 3, ground := Ground.phase }, { on := 4, ground := Ground.phase }, { on := 5, ground := Ground.phase }, { on := 6, ground := Ground.phase }, { on := 7, ground := Ground.phase }, { on := 8, ground := Ground.phase }, { on := 9, ground := Ground.phase }, { on := 10, ground := Ground.phase }, { on := 11, ground := Ground.phase }, { on := 12, ground := Ground.phase }, { on := 13, ground := Ground.phase }, { on := 14, ground := Ground.phase }, { on := 15, ground := Ground.phase }, { on := 16, ground := Ground.phase }, { on := 17, ground := Ground.phase }, { on := 18, ground := Ground.phase }, { on := 19, ground := Ground.phase }, { on := 20, ground := Ground.phase }, { on := 21, ground := Ground.phase }, { on := 22, ground := Ground.phase }, { on := 23, ground := Ground.phase }, { on := 24, ground := Ground.phase }, { on := 25, ground := Ground.phase }, { on := 26, ground := Ground.phase }, { on := 27, ground := Ground.phase }, { on := 28, ground := Ground.phase }, { on := 29, ground := Ground.phase }, { on := 30, ground := Ground.phase }, { on := 31, ground := Ground.phase }, { on := 32, ground := Ground.phase }, { on := 33, ground := Ground.phase }, { on := 34, ground := Ground.phase }, { on := 35, ground := Ground.phase }, { on := 36, ground := Ground.phase }, { on := 37, ground := Ground.phase }, { on := 38, ground := Ground.phase }, { on := 39, ground := Ground.phase }, { on := 40, ground := Ground.phase }, { on := 41, ground := Ground.phase }, { on := 42, ground := Ground.phase }, { on := 43, ground := Ground.phase }, { on := 44, ground := Ground.phase }, { on := 45, ground := Ground.phase }, { on := 46, ground := Ground.phase }, { on := 47, ground := Ground.phase }, { on := 48, ground := Ground.phase }], guard := none }) (v := ?_) rfl (by kernel_rfl) (by kernel_rfl) (by kernel_rfl) (fun _ _ _ h => h) (.inl ⟨by kernel_rfl, ?_⟩) (by assumption) ?_
    rotate_left
    · (intro w_ hSw; go_simp; first | done | with_reducible rfl)
    try simp only [Act.put, List.setIfInBounds_toArray, List.set_cons_zero, List.set_cons_succ]
    refine wpAnyH_done (by kernel_rfl) ?_ _
    go_wp2
    go_ret
    exact ⟨rfl, hB10.trans (hk11.below.mono hB10.size)⟩
/-- .. as the row asks it. -/
theorem returns_wf (a : Option Addr) (n c : Nat) (v : Int) (w : World) (h : Ls w a n c) (hv : (Lit.int .u8 v).wf = true) :
    Calls Try.prog 12 #[.slice a n c, .int .u8 v] w fun e w' => e = .returned (.bool true) ∧ Below w.heap.size w w' := by
  simp only [Lit.wf, Bool.and_eq_true, decide_eq_true_eq, show IntKind.u8.min = 0 from rfl, show IntKind.u8.max = 255 from rfl] at hv
  exact returns_calls a n c v w h (by omega) (by omega)
end Go.Proofs.Ytldkgmodmpnclaa
