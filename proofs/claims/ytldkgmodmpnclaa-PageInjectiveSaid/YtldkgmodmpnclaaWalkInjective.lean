import Derived.Test.YtldkgmodmpnclaaEq
import Derived.Test.YtldkgmodmpnclaaArgs
namespace Go.Proofs.Ytldkgmodmpnclaa
open Go.RowKit Go.Proofs
set_option linter.unusedVariables false
set_option linter.unusedSimpArgs false
/-- A row of bytes that lies below block B. -/
def LsB (w : World) (a : Option Addr) (n c B : Nat) : Prop := Ls w a n c ∧ (n = 0 ∨ ∀ b off, a = some ⟨b, off, none⟩ → b < B)
theorem Ls.lsB {w : World} {a : Option Addr} {n c : Nat} (h : Ls w a n c) : LsB w a n c w.heap.size := by
  refine ⟨h, ?_⟩
  obtain ⟨h1, h2, h3 | ⟨b, off, rfl, hi⟩⟩ := h
  · exact .inl h3
  · by_cases hn : n = 0
    · exact .inl hn
    · refine .inr fun b' off' e => ?_
      cases e
      obtain ⟨v, hv, hc⟩ := hi 0 (by omega)
      exact World.block_lt_of_cell? w _ hc
theorem LsB.keep {w w' : World} {a : Option Addr} {n c B : Nat} (h : LsB w a n c B) (hb : Below w.heap.size w w') : LsB w' a n c B := ⟨h.1.keep hb, h.2⟩
/-- Choices in block g whose bytes lie below block B. -/
def CsL (w : World) (g B : Nat) : Prop := (∃ b off n c p, CsAt w g b off n c p ∧ b < B) ∨ (∃ a c, w.heap[g]? = some (.cells #[.slice a 0 c, .int .i64 0] 86 (0, 0)))
theorem CsL.cs {w : World} {g B : Nat} (h : CsL w g B) : Cs w g := h.imp (fun ⟨b, off, n, c, p, h, _⟩ => ⟨b, off, n, c, p, h⟩) id
theorem CsL.lt {w : World} {g B : Nat} (h : CsL w g B) : g < w.heap.size := h.cs.lt
theorem CsL.kb {w w' : World} {g g' B : Nat} (h : CsL w g' B) (hk : KB g w w') (hne : g' ≠ g) (hB : B ≤ g) : CsL w' g' B := by
  have hlt := h.lt
  rcases h with ⟨b, off, n, c, p, h, hb⟩ | ⟨a, c, h⟩
  · refine .inl ⟨b, off, n, c, p, ⟨(hk.block g' hlt hne).trans h.blk, h.le, h.top, h.ne, fun i hi => ?_⟩, hb⟩
    obtain ⟨v, hv, hc⟩ := h.byte i hi
    exact ⟨v, hv, (World.cell?_of_block (w := w) (a := ⟨b, off + i, none⟩) (hk.block b (World.block_lt_of_cell? w _ hc) (by omega))).trans hc⟩
  · exact .inr ⟨a, c, (hk.block g' hlt hne).trans h⟩
theorem Cs.kbUp {w w' : World} {g g' : Nat} (h : Cs w g) (hk : KB g' w w') (hlt : g < g') : Cs w' g := h.keepG (hk.below h.lt hlt)
theorem CsL.new {w : World} {a : Option Addr} {n c B : Nat} (h : LsB w a n c B) (ht : n ≤ 1000) : CsL (w.alloc (.cells #[.slice a n c, .int .i64 0] 86 (0, 0))) w.heap.size B := by
  obtain ⟨⟨h1, h2, h | ⟨b, off, rfl, hi⟩⟩, hB⟩ := h
  · subst h
    exact .inr ⟨a, c, heap_alloc_new _ _⟩
  · by_cases hn : n = 0
    · subst hn
      exact .inr ⟨_, c, heap_alloc_new _ _⟩
    · obtain ⟨v, hv, hc⟩ := hi 0 (by omega)
      have hlt : b < w.heap.size := World.block_lt_of_cell? w _ hc
      have hbB : b < B := by
        rcases hB with hB | hB
        · exact absurd hB hn
        · exact hB b off rfl
      refine .inl ⟨b, off, n, c, 0, ⟨heap_alloc_new _ _, by omega, ht, by omega, fun i hlt' => ?_⟩, hbB⟩
      obtain ⟨v, hv, hc⟩ := hi i hlt'
      exact ⟨v, hv, (World.cell?_of_block (w := w) (a := ⟨b, off + i, none⟩) (Below.heap_alloc _ _ _ hlt)).trans hc⟩
theorem LsB.take {w : World} {a n c B} (h : LsB w a n c B) {m : Nat} (hm : m ≤ n) : LsB w a m c B := by
  refine ⟨Ls.take h.1 hm, ?_⟩
  rcases h.2 with h | h
  · exact .inl (by omega)
  · exact .inr h
set_option maxHeartbeats 1000000 in
set_option maxRecDepth 100000 in
/-- New, and where the bytes lie. -/
theorem newCodesL_calls (a : Option Addr) (n c : Nat) (m B : Nat) (w : World) (h : LsB w a n c B) (hm : m ≤ 1000) :
    Calls Try.prog 15 #[.slice a n c, .int .i64 m] w fun e w' => ∃ g, e = .returned (.pointer (some ⟨g, 0, none⟩)) ∧ w.heap.size ≤ g ∧ Below w.heap.size w w' ∧ CsL w' g B := by
  obtain ⟨⟨h1, h2, _⟩, _⟩ := id h
  have H := Lib.hid h; clear h
  by_cases hn : m < n
  · have hd : decide (m < n) = true := by simp; omega
    go_enter Try.func15, Try.ntmps15
    go_wp2_with fail
    go_ret
    exact ⟨_, rfl, Nat.le_refl _, (Below.refl _ _).alloc (Nat.le_refl _) _, CsL.new (LsB.take H.out (m := m) (by omega)) hm⟩
  · have hd : decide (m < n) = false := by simp; omega
    go_enter Try.func15, Try.ntmps15
    go_wp2_with fail
    go_ret
    exact ⟨_, rfl, Nat.le_refl _, (Below.refl _ _).alloc (Nat.le_refl _) _, CsL.new H.out (by omega)⟩
theorem pageErr_bad {p : Page} (h : pageOk p = false) : (pageErr p == 0) = false := by
  unfold pageOk at h
  unfold pageErr
  cases h1 : placed p
  · simp
  · rw [h1] at h
    have h2 : cellsOk p = false := by simpa using h
    rw [h2]
    simp
theorem encP_inj {p q : Page} (hp : pageOk p = true) (hq : pageOk q = true) (h : encP p = encP q) : p = q := by
  have h1 := decP_enc hp
  have h2 := decP_enc hq
  rw [← encP_ok hp, h, encP_ok hq, h2] at h1
  exact (congrArg Prod.fst h1).symm
theorem enc_same {p q : Page} (hp : pageOk p = true) (hq : pageOk q = true) : ((encP p).toList == (encP q).toList) = decide (p = q) := by
  by_cases e : p = q
  · rw [decide_eq_true e, e]
    simp
  · rw [decide_eq_false e]
    exact (Lib.bytes_beq_false_iff _ _).2 fun h => e (encP_inj hp hq h)
theorem PgAt.rowNe {w : World} {g b : Nat} {p : Page} (h : PgAt w g p) (hne : g ≠ b) (cs : Array Value) : PgAt (w.setRow b cs) g p := (setRow_other w b g cs hne).trans h
set_option maxHeartbeats 4000000 in
set_option maxRecDepth 100000 in
theorem injective_calls (a : Option Addr) (n c : Nat) (a' : Option Addr) (n' c' : Nat) (w : World) (h : Ls w a n c) (h' : Ls w a' n' c') :
    Calls Try.prog 5 #[.slice a n c, .slice a' n' c'] w fun e w' => e = .returned (.bool true) ∧ Below w.heap.size w w' := by
  have hl' := h'.lsB
  obtain ⟨B0, hB0⟩ : ∃ B, w.heap.size = B := ⟨_, rfl⟩
  rw [hB0] at hl' ⊢
  go_enter Try.func5, Try.ntmps5
  go_wp2_with fail
  refine (awake_calls _).mono ?_
  rintro e w1 ⟨rfl, hb1⟩
  go_wp2_with fail
  refine (newCodes_calls a n c 100 _ (h.keep hb1) (by omega)).mono ?_
  rintro e w2 ⟨g, rfl, hg, hb2, hc2⟩
  go_wp2_with fail
  refine (newCodesL_calls a' n' c' 100 B0 _ ((hl'.keep hb1).keep hb2) (by omega)).mono ?_
  rintro e w3 ⟨g', rfl, hg', hb3, hd3⟩
  have hs1 := hb1.size
  have hs2 := hb2.size
  have hgg : g < g' := by have := hc2.lt; omega
  have hBg : B0 ≤ g := by omega
  have hB3 : Below B0 w w3 := ((hb1.mono (by omega)).trans (hb2.mono (by omega))).trans (hb3.mono (by omega))
  have hs3 := hB3.size
  have hc3 := hc2.keep hb3
  clear hb1 hb2 hb3 hc2 hg hg' hl' h h'
  go_wp2_with fail
  refine (next_calls g 3 _ hc3 (by omega) (by omega)).mono ?_
  rintro e w4 ⟨id, rfl, hi0, hi1, hk4, hc4⟩
  have hd4 := hd3.kb hk4 (by omega) hBg
  have hB4 := hB3.trans (hk4.below (by omega) hBg)
  have hs4 := hB4.size
  clear hk4 hc3 hd3 hB3
  go_wp2_with fail
  refine (cpage_calls g id _ hc4).mono ?_
  rintro e w5 ⟨p, rfl, hpid, hpl, hpc, hk5, hc5⟩
  have hd5 := hd4.kb hk5 (by omega) hBg
  have hB5 := hB4.trans (hk5.below (by omega) hBg)
  have hs5 := hB5.size
  clear hk5 hc4 hd4 hB4
  go_wp2_with fail
  refine (next_calls g' 3 _ hd5.cs (by omega) (by omega)).mono ?_
  rintro e w6 ⟨id', rfl, hj0, hj1, hk6, hd6⟩
  have hc6 := hc5.kbUp hk6 hgg
  have hB6 := hB5.trans (hk6.below (by omega) (by omega))
  have hs6 := hB6.size
  clear hk6 hc5 hd5 hB5
  go_wp2_with fail
  refine (cpage_calls g' id' _ hd6).mono ?_
  rintro e w7 ⟨q, rfl, hqid, hql, hqc, hk7, hd7⟩
  have hc7 := hc6.kbUp hk7 hgg
  have hB7 := hB6.trans (hk7.below (by omega) (by omega))
  have hs7 := hB7.size
  have hglt := hc7.lt
  have hok : pageOk p = true := by
    unfold pageOk placed named
    rw [hpid, hpl, hpc]
    simp [hi0]
    omega
  have hok' : pageOk q = true := by
    unfold pageOk placed named
    rw [hqid, hql, hqc]
    simp [hj0]
    omega
  clear hk7 hc6 hd6 hB6 hd7 hpid hpl hpc hqid hql hqc
  have hP := (PgAt.new w7 Page.zero).alloc (.cells (pageC Page.zero) 59)
  have hQ := PgAt.new (w7.alloc (.cells (pageC Page.zero) 59)) Page.zero
  obtain ⟨A, hA⟩ : ∃ A, w7.heap.size = A := ⟨_, rfl⟩
  have hA1 : (w7.alloc (.cells (pageC Page.zero) 59)).heap.size = A + 1 := by simp [hA]
  rw [hA] at hP hs7 hglt
  rw [hB0] at hs7
  rw [hA1] at hQ
  have hcA := (hc7.alloc (.cells (pageC Page.zero) 59)).alloc (.cells (pageC Page.zero) 59)
  have hBA := (hB7.alloc (by omega) (.cells (pageC Page.zero) 59)).alloc (by omega) (.cells (pageC Page.zero) 59)
  have hP2 : PgAt (((w7.alloc (.cells (pageC Page.zero) 59)).alloc (.cells (pageC Page.zero) 59)).setRow A (pageC p)) A p := hP.row
  have hQ2 := hQ.rowNe (b := A) (by omega) (pageC p)
  have hP3 := hP2.rowNe (b := A + 1) (by omega) (pageC q)
  have hQ3 : PgAt ((((w7.alloc (.cells (pageC Page.zero) 59)).alloc (.cells (pageC Page.zero) 59)).setRow A (pageC p)).setRow (A + 1) (pageC q)) (A + 1) q := hQ2.row
  have hc8 := (hcA.setRowB (B := A) hglt (pageC p)).setRowB (B := A + 1) (by omega) (pageC q)
  have hB8 := below_setRow (below_setRow hBA (g := A) hs7 (pageC p)) (g := A + 1) (by omega) (pageC q)
  clear hcA hBA
  go_wp2_with (first
    | (refine wpList_alloc_row rfl 59 rfl (pageC Page.zero) zero59 ?_)
    | (refine wpList_store_row rfl 59 (.tmp 7) (.tmp 25) rfl _ (pageC p) rfl rfl 59 (pageC Page.zero) (by first | exact hP.out | (rw [hA]; exact hP.out)) (page_size _) (by simp only [pageC_size]) (pageC_oneCell _) ?_)
    | (refine wpList_store_row rfl 59 (.tmp 8) (.tmp 29) rfl _ (pageC q) rfl rfl 59 (pageC Page.zero) (by first | exact hQ2.out | (rw [hA1]; exact hQ2.out) | (rw [hA, hA1]; exact hQ2.out) | (rw [hA1, hA]; exact hQ2.out)) (page_size _) (by simp only [pageC_size]) (pageC_oneCell _) ?_)
    | (refine wpList_load_row rfl 59 (.tmp 7) rfl A rfl _ _ _ _ hP3.out Try.underlying59 rfl (page_size _) ?_))
  refine (oddPage_calls g p _ hc8).mono ?_
  rintro e w9 ⟨r, rfl, hk9, _⟩
  have hA8 : (((((w7.alloc (.cells (pageC Page.zero) 59)).alloc (.cells (pageC Page.zero) 59)).setRow A (pageC p)).setRow (A + 1) (pageC q))).heap.size = A + 2 := by
    have h0 : (((w7.alloc (.cells (pageC Page.zero) 59)).alloc (.cells (pageC Page.zero) 59)).setRow A (pageC p)).heap.size = ((w7.alloc (.cells (pageC Page.zero) 59)).alloc (.cells (pageC Page.zero) 59)).heap.size := by simp [World.setRow]
    have h1 : ((((w7.alloc (.cells (pageC Page.zero) 59)).alloc (.cells (pageC Page.zero) 59)).setRow A (pageC p)).setRow (A + 1) (pageC q)).heap.size = (((w7.alloc (.cells (pageC Page.zero) 59)).alloc (.cells (pageC Page.zero) 59)).setRow A (pageC p)).heap.size := by simp [World.setRow]
    rw [h1, h0]
    simp [hA]
  have hs9 := hk9.size
  have hB9 := hB8.trans (hk9.below (by omega) hBg)
  have hP9 := hP3.kb hk9 hglt
  have hQ9 := hQ3.kb hk9 (by omega)
  clear hP hQ hP2 hQ2 hP3 hQ3 hc8 hB8 hk9 hc7 hB7 hA1
  rw [hA8] at hs9
  clear hA8
  have hPa := hP9.alloc (.cells (pageC r) 59)
  have hQa := hQ9.alloc (.cells (pageC r) 59)
  have hRa := PgAt.new w9 r
  have hBa := hB9.alloc (by omega) (.cells (pageC r) 59)
  have HE1 := Lib.hid (fun W => encode_calls p W)
  have HE2 := Lib.hid (fun W => encode_calls q W)
  have HE3 := Lib.hid (fun W => encode_calls r W)
  rw [pageErr_ok hok] at HE1
  rw [pageErr_ok hok'] at HE2
  have hst := enc_same hok hok'
  have hsu : pageOk r = true → ((encP p).toList == (encP r).toList) = decide (p = r) := fun hr => enc_same hok hr
  have hkr : (pageErr r == 0) = pageOk r := by
    cases hr : pageOk r
    · exact pageErr_bad hr
    · rw [pageErr_ok hr]; rfl
  have hwp := PgWf.ok hok
  have hwq := PgWf.ok hok'
  have hwr : pageOk r = true → PgWf r := PgWf.ok
  have HV := Lib.hid (fun W => valid02_calls r W)
  obtain ⟨s, hs⟩ : ∃ s, encP p = s := ⟨_, rfl⟩
  obtain ⟨t, ht⟩ : ∃ t, encP q = t := ⟨_, rfl⟩
  obtain ⟨u, hu⟩ : ∃ u, encP r = u := ⟨_, rfl⟩
  obtain ⟨k, hk⟩ : ∃ k, pageErr r = k := ⟨_, rfl⟩
  obtain ⟨b, hb⟩ : ∃ b, pageOk r = b := ⟨_, rfl⟩
  obtain ⟨b1, hb1⟩ : ∃ b1, decide (p = q) = b1 := ⟨_, rfl⟩
  obtain ⟨b2, hb2⟩ : ∃ b2, decide (p = r) = b2 := ⟨_, rfl⟩
  rw [hs] at HE1 hst hsu
  rw [ht] at HE2 hst
  rw [hu, hk] at HE3
  rw [hu, hb, hb2] at hsu
  rw [hk, hb] at hkr
  rw [hb1] at hst
  rw [hb] at HV hwr
  have hkn : (k != 0) = !b := by rw [bne, hkr]
  have H1 := Lib.hid hb1; have H2 := Lib.hid hb2; have HWR := Lib.hid hwr; have HSU := Lib.hid hsu
  clear hs ht hu hk hb hb1 hb2 hwr hsu hok hok' hP9 hQ9 hB9
  go_wp2_with (first
    | (refine wpList_alloc_row rfl 59 rfl (pageC Page.zero) zero59 ?_)
    | (refine wpList_store_row rfl 59 (.tmp 9) (.tmp 32) rfl _ (pageC r) rfl rfl _ _ (heap_alloc_new _ _) (page_size _) (by simp only [pageC_size]) (pageC_oneCell _) ?_; rw [World.setRow_alloc_new])
    | (refine wpList_load_row rfl 59 (.tmp 7) rfl A rfl _ _ _ _ hPa.out Try.underlying59 rfl (page_size _) ?_))
  refine (HE1.out _).mono ?_
  rintro e wa ⟨rfl, hba⟩
  have hPb := hPa.below hba hPa.lt
  have hQb := hQa.below hba hQa.lt
  have hRb := hRa.below hba hRa.lt
  have hBb := hBa.trans (hba.mono (Nat.le_trans (by omega) hBa.size))
  obtain ⟨C, hC⟩ : ∃ C, w9.heap.size = C := ⟨_, rfl⟩
  rw [hC] at hRb hs9
  clear hPa hQa hRa hBa hba
  go_wp2_with (refine wpList_load_row rfl 59 (.tmp 8) rfl (A + 1) rfl _ _ _ _ hQb.out Try.underlying59 rfl (page_size _) ?_)
  refine (HE2.out _).mono ?_
  rintro e wb ⟨rfl, hbb⟩
  have hPc := hPb.below hbb hPb.lt
  have hQc := hQb.below hbb hQb.lt
  have hRc := hRb.below hbb hRb.lt
  have hBc := hBb.trans (hbb.mono (Nat.le_trans (by omega) hBb.size))
  clear hPb hQb hRb hBb hbb
  go_wp2_with (refine wpList_load_row rfl 59 (.tmp 9) rfl C rfl _ _ _ _ hRc.out Try.underlying59 rfl (page_size _) ?_)
  refine (HE3.out _).mono ?_
  rintro e wc ⟨rfl, hbc⟩
  have hPd := hPc.below hbc hPc.lt
  have hQd := hQc.below hbc hQc.lt
  have hRd := hRc.below hbc hRc.lt
  have hBd := hBc.trans (hbc.mono (Nat.le_trans (by omega) hBc.size))
  clear hPc hQc hRc hBc hbc
  cases b
  · clear HWR HSU
    go_wp2_with (refine wpList_load_row_g (by rfl) 59 (.tmp 9) rfl C rfl _ _ _ _ hRd.out Try.underlying59 rfl (page_size _) ?_)
    refine (HV.out _).mono ?_
    rintro e wd ⟨rfl, hbd⟩
    have hPe := hPd.below hbd hPd.lt
    have hQe := hQd.below hbd hQd.lt
    have hBe := hBd.trans (hbd.mono (Nat.le_trans (by omega) hBd.size))
    clear hPd hQd hRd hBd hbd
    go_wp2_with (first
      | (refine wpList_load_row_g (by rfl) 59 (.tmp 7) rfl A rfl _ _ _ _ hPe.out Try.underlying59 rfl (page_size _) ?_)
      | (refine wpList_load_row_g (by rfl) 59 (.tmp 8) rfl (A + 1) rfl _ _ _ _ hQe.out Try.underlying59 rfl (page_size _) ?_)
      | (refine wpList_eq59 (by rfl) (.tmp 64) (.tmp 65) 59 rfl p q rfl rfl hwp hwq ?_; rw [H1.out]))
    go_ret
    exact ⟨rfl, hBe⟩
  · have hwr := HWR.out rfl
    have hsu := HSU.out rfl
    clear HWR HSU
    go_wp2_with (refine wpList_load_row_g (by rfl) 59 (.tmp 9) rfl C rfl _ _ _ _ hRd.out Try.underlying59 rfl (page_size _) ?_)
    refine (HV.out _).mono ?_
    rintro e wd ⟨rfl, hbd⟩
    have hPe := hPd.below hbd hPd.lt
    have hQe := hQd.below hbd hQd.lt
    have hRe := hRd.below hbd hRd.lt
    have hBe := hBd.trans (hbd.mono (Nat.le_trans (by omega) hBd.size))
    clear hPd hQd hRd hBd hbd
    go_wp2_with (first
      | (refine wpList_load_row_g (by rfl) 59 (.tmp 7) rfl A rfl _ _ _ _ hPe.out Try.underlying59 rfl (page_size _) ?_)
      | (refine wpList_load_row_g (by rfl) 59 (.tmp 8) rfl (A + 1) rfl _ _ _ _ hQe.out Try.underlying59 rfl (page_size _) ?_)
      | (refine wpList_load_row_g (by rfl) 59 (.tmp 9) rfl C rfl _ _ _ _ hRe.out Try.underlying59 rfl (page_size _) ?_)
      | (refine wpList_eq59 (by rfl) (.tmp 64) (.tmp 65) 59 rfl p q rfl rfl hwp hwq ?_; rw [H1.out])
      | (refine wpList_eq59 (by rfl) (.tmp 75) (.tmp 76) 59 rfl p r rfl rfl hwp hwr ?_; rw [H2.out]))
    go_ret
    exact ⟨rfl, hBe⟩
end Go.Proofs.Ytldkgmodmpnclaa
