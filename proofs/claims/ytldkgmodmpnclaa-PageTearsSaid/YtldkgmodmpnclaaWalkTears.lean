import Derived.Test.YtldkgmodmpnclaaEq
import Derived.Test.YtldkgmodmpnclaaArgs
import Derived.Test.YtldkgmodmpnclaaPlainT
namespace Go.Proofs.Ytldkgmodmpnclaa
open Go.RowKit Go.Proofs
set_option linter.unusedVariables false
set_option linter.unusedSimpArgs false
theorem PgAt.rowOther {w : World} {g b : Nat} {p : Page} (h : PgAt w g p) (hne : g ≠ b) (cs : Array Value) : PgAt (w.setRow b cs) g p := (setRow_other w b g cs hne).trans h
/-- What makes bytes one of two versions. -/
structure Vers (s t : ByteArray) : Prop where
  zs : s.size = 256
  zt : t.size = 256
  es : ends s
  et : ends t
  ne : ¬ ∀ i, i < 8 → bt s i = bt t i
theorem Vers.swap {s t : ByteArray} (h : Vers s t) : Vers t s := ⟨h.zt, h.zs, h.et, h.es, fun e => h.ne fun i hi => (e i hi).symm⟩
theorem vers_pages {p q : Page} (hp : pageOk p = true) (hq : pageOk q = true) (hne : p.lsn ≠ q.lsn) : Vers (encP p) (encP q) := by
  have h1 := encP_size hp
  have h2 := encP_size hq
  rw [encP_ok hp] at h1 ⊢
  rw [encP_ok hq] at h2 ⊢
  have c1 : cellsOk p = true := by unfold pageOk at hp; rw [Bool.and_eq_true] at hp; exact hp.2
  have c2 : cellsOk q = true := by unfold pageOk at hq; rw [Bool.and_eq_true] at hq; exact hq.2
  exact ⟨h1, h2, ends_enc c1, ends_enc c2, fun e => hne (by rw [← lsn_enc hp, ← lsn_enc hq, getV_congr _ _ e])⟩
theorem vers_blank {q : Page} (hq : pageOk q = true) (hne : q.lsn ≠ 0) : Vers (zeros 256) (encP q) := by
  have h2 := encP_size hq
  rw [encP_ok hq] at h2 ⊢
  have c2 : cellsOk q = true := by unfold pageOk at hq; rw [Bool.and_eq_true] at hq; exact hq.2
  exact ⟨zeros_size _, h2, ends_zeros, ends_enc c2, fun e => hne (by rw [← lsn_enc hq, ← getV_congr _ _ e, lsn_zeros])⟩
/-- Of a mix that is found to be a page: one of both, and its ID. -/
theorem mix_ok {s t : ByteArray} (h : Vers s t) {k : Nat} (hk : k ≤ 256) {id : Int} (h0 : (idP (s.extract 0 k ++ t.extract k 256) id).2 = 0) :
    (s.extract 0 k ++ t.extract k 256 = s ∨ s.extract 0 k ++ t.extract k 256 = t) ∧ (idP (s.extract 0 k ++ t.extract k 256) id).1.id = id :=
  ⟨tear h.zs h.zt h.es h.et h.ne hk (ends_ok h0).1, (ends_ok h0).2⟩
set_option maxHeartbeats 4000000 in
set_option maxRecDepth 100000 in
theorem tears_calls (a : Option Addr) (n c : Nat) (v : Int) (bl : Bool) (w : World) (h : Ls w a n c) (hv0 : 0 ≤ v) (hv1 : v < 65536) :
    Calls Try.prog 13 #[.slice a n c, .int .u16 v, .bool bl] w fun e w' => e = .returned (.bool true) ∧ Below w.heap.size w w' := by
  obtain ⟨B0, hB0⟩ : ∃ B, w.heap.size = B := ⟨_, rfl⟩
  rw [hB0]
  go_enter Try.func13, Try.ntmps13
  go_wp2_with fail
  refine (awake_calls _).mono ?_
  rintro e w1 ⟨rfl, hb1⟩
  go_wp2_with fail
  refine (newCodes_calls a n c 200 _ (h.keep hb1) (by omega)).mono ?_
  rintro e w2 ⟨g, rfl, hg, hb2, hc2⟩
  have hs1 := hb1.size
  have hBg : B0 ≤ g := by omega
  have hB2 : Below B0 w w2 := (hb1.mono (by omega)).trans (hb2.mono (by omega))
  have hs2 := hB2.size
  clear hb1 hb2 hg h
  go_wp2_with fail
  refine (next_calls g 64 _ hc2 (by omega) (by omega)).mono ?_
  rintro e w3 ⟨id, rfl, hi0, hi1, hk3, hc3⟩
  have hB3 := hB2.trans (hk3.below (by omega) hBg)
  have hs3 := hB3.size
  clear hk3 hc2 hB2
  go_wp2_with fail
  refine (cpage_calls g id _ hc3).mono ?_
  rintro e w4 ⟨p, rfl, hpid, hpl, hpc, hk4, hc4⟩
  have hB4 := hB3.trans (hk4.below (by omega) hBg)
  have hs4 := hB4.size
  clear hk4 hc3 hB3
  go_wp2_with fail
  refine (cpage_calls g id _ hc4).mono ?_
  rintro e w7 ⟨q, rfl, hqid, hql, hqc, hk7, hc7⟩
  have hB7 := hB4.trans (hk7.below (by omega) hBg)
  have hs7 := hB7.size
  have hglt := hc7.lt
  clear hk7 hc4 hB4
  have hok : pageOk p = true := by
    unfold pageOk placed named
    rw [hpid, hpl, hpc]
    simp [hi0]
    omega
  have hok' : pageOk q = true := by
    unfold pageOk placed named
    rw [hqid, hql, hqc]
    simp [hi0]
    omega
  have hq0 : 0 ≤ q.lsn := by
    simp only [lsnOk, Bool.and_eq_true, decide_eq_true_eq] at hql
    omega
  clear hpl hpc hql hqc
  have hP := (PgAt.new w7 Page.zero).alloc (.cells (pageC Page.zero) 59)
  have hQ := PgAt.new (w7.alloc (.cells (pageC Page.zero) 59)) Page.zero
  obtain ⟨A, hA⟩ : ∃ A, w7.heap.size = A := ⟨_, rfl⟩
  have hA1 : (w7.alloc (.cells (pageC Page.zero) 59)).heap.size = A + 1 := by simp [hA]
  rw [hA] at hP hs7 hglt
  rw [hB0] at hs7
  rw [hA1] at hQ
  have hBA := (hB7.alloc (by omega) (.cells (pageC Page.zero) 59)).alloc (by omega) (.cells (pageC Page.zero) 59)
  have hP2 : PgAt (((w7.alloc (.cells (pageC Page.zero) 59)).alloc (.cells (pageC Page.zero) 59)).setRow A (pageC p)) A p := hP.row
  have hQ2 := hQ.rowOther (b := A) (by omega) (pageC p)
  have hP3 := hP2.rowOther (b := A + 1) (by omega) (pageC q)
  have hQ3 : PgAt ((((w7.alloc (.cells (pageC Page.zero) 59)).alloc (.cells (pageC Page.zero) 59)).setRow A (pageC p)).setRow (A + 1) (pageC q)) (A + 1) q := hQ2.row
  have hB8 := below_setRow (below_setRow hBA (g := A) hs7 (pageC p)) (g := A + 1) (by omega) (pageC q)
  have hlp := hP3.lsn
  have hlq := hQ3.lsn
  have HE1 := Lib.hid (fun W => encode_calls p W)
  have HE2 := Lib.hid (fun W => encode_calls q W)
  rw [pageErr_ok hok] at HE1
  rw [pageErr_ok hok'] at HE2
  by_cases hl : p.lsn = q.lsn
  · have hd : (p.lsn == q.lsn) = true := by rw [hl]; simp
    have HL := Lib.hid hl
    clear hBA hl
    go_wp2_with (first
      | (refine wpList_alloc_row rfl 59 rfl (pageC Page.zero) zero59 ?_)
      | (refine wpList_store_row rfl 59 (.tmp 9) (.tmp 28) rfl _ (pageC p) rfl rfl 59 (pageC Page.zero) (by first | exact hP.out | (rw [hA]; exact hP.out)) (page_size _) (by simp only [pageC_size]) (pageC_oneCell _) ?_)
      | (refine wpList_store_row rfl 59 (.tmp 10) (.tmp 31) rfl _ (pageC q) rfl rfl 59 (pageC Page.zero) (by first | exact hQ2.out | (rw [hA1]; exact hQ2.out) | (rw [hA, hA1]; exact hQ2.out) | (rw [hA1, hA]; exact hQ2.out)) (page_size _) (by simp only [pageC_size]) (pageC_oneCell _) ?_))
    go_ret
    exact ⟨rfl, hB8⟩
  · have hd : (p.lsn == q.lsn) = false := by simpa using hl
    have HL := Lib.hid hl
    clear hBA hl
    go_wp2_with (first
      | (refine wpList_alloc_row rfl 59 rfl (pageC Page.zero) zero59 ?_)
      | (refine wpList_store_row rfl 59 (.tmp 9) (.tmp 28) rfl _ (pageC p) rfl rfl 59 (pageC Page.zero) (by first | exact hP.out | (rw [hA]; exact hP.out)) (page_size _) (by simp only [pageC_size]) (pageC_oneCell _) ?_)
      | (refine wpList_store_row rfl 59 (.tmp 10) (.tmp 31) rfl _ (pageC q) rfl rfl 59 (pageC Page.zero) (by first | exact hQ2.out | (rw [hA1]; exact hQ2.out) | (rw [hA, hA1]; exact hQ2.out) | (rw [hA1, hA]; exact hQ2.out)) (page_size _) (by simp only [pageC_size]) (pageC_oneCell _) ?_)
      | (refine wpList_load_row rfl 59 (.tmp 9) rfl A rfl _ _ _ _ hP3.out Try.underlying59 rfl (page_size _) ?_))
    refine (HE1.out _).mono ?_
    rintro e w9 ⟨rfl, hb9⟩
    have hPa := hP3.below hb9 hP3.lt
    have hQa := hQ3.below hb9 hQ3.lt
    have hB9 := hB8.trans (hb9.mono (Nat.le_trans (by omega) hB8.size))
    clear hP hQ hP2 hQ2 hP3 hQ3 hB8 hb9 hlp hlq
    go_wp2_with (refine wpList_load_row rfl 59 (.tmp 10) rfl (A + 1) rfl _ _ _ _ hQa.out Try.underlying59 rfl (page_size _) ?_)
    refine (HE2.out _).mono ?_
    rintro e wa ⟨rfl, hba⟩
    have hQb := hQa.below hba hQa.lt
    have hlq := hQb.lsn
    have hBa := hB9.trans (hba.mono (Nat.le_trans (by omega) hB9.size))
    clear hPa hQa hB9 hba
    have hz1 := encP_size hok
    have hz2 := encP_size hok'
    have hv := Lib.hid (vers_pages hok hok' HL.out)
    have hvb := Lib.hid (fun h => vers_blank (q := q) hok' h)
    obtain ⟨s, hs⟩ : ∃ s, encP p = s := ⟨_, rfl⟩
    obtain ⟨t, ht⟩ : ∃ t, encP q = t := ⟨_, rfl⟩
    rw [hs] at hv hz1 ⊢
    rw [ht] at hv hvb hz2 ⊢
    clear hs ht HE1 HE2
    cases bl
    · clear hvb
      go_wp2_with fail
      obtain ⟨kn, hkn⟩ : ∃ kn : Nat, v % 257 = kn := ⟨(v % 257).toNat, by omega⟩
      have hk0 : (0 : Int) ≤ kn := by omega
      have hk1 : (kn : Int) ≤ 256 := by omega
      have hk2 : kn ≤ 256 := by omega
      have Hx0 := Lib.hid (fun h0 => mix_ok hv.out hk2 (id := id) h0)
      have Hx1 := Lib.hid (fun h0 => (mix_ok hv.out.swap hk2 (id := id) h0).imp Or.symm (fun h => h))
      have hz3 := mix_size s t kn hz1 hz2 hk2
      have hz4 := mix_size t s kn hz2 hz1 hk2
      go_region
      obtain ⟨x0, hx0⟩ : ∃ x, s.extract 0 kn ++ t.extract kn 256 = x := ⟨_, rfl⟩
      obtain ⟨x1, hx1⟩ : ∃ x, t.extract 0 kn ++ s.extract kn 256 = x := ⟨_, rfl⟩
      rw [hx0] at Hx0 hz3 ⊢
      rw [hx1] at Hx1 hz4 ⊢
      obtain ⟨SB, hSB⟩ : ∃ SB, wa.heap.size = SB := ⟨_, rfl⟩
      have hS0 : (wa.alloc (.cells #[.string x0, .string x1] 9)).drew.heap[SB]? = some (.cells #[.string x0, .string x1] 9 (0, 0)) := by rw [← hSB]; exact heap_alloc_new _ _
      have hBs : Below B0 w (wa.alloc (.cells #[.string x0, .string x1] 9)).drew := (hBa.alloc (Nat.le_trans (by omega) hBa.size) _).drew
      have hB0w : B0 ≤ w.heap.size := by omega
      rw [hSB]
      clear hSB hx0 hx1 hv hBa hkn hk0 hk1 hk2
      go_wp2_with fail
      go_loopw [89] (fun i wr => ∃ j : Nat, j ≤ 2 ∧ i = .int .i64 j ∧ wr.heap[SB]? = some (.cells #[.string x0, .string x1] 9 (0, 0)) ∧ Below B0 w wr) (fun i _ => 2 - (intOf i).toNat)
      case atStart => exact ⟨0, by omega, rfl, hS0, hBs⟩
      case round =>
        clear hS0 hBs
        obtain ⟨j, hj, rfl, hS, hBr⟩ := hrel
        have hsr := hBr.size
        rcases (show j = 0 ∨ j = 1 ∨ j = 2 by omega) with rfl | rfl | rfl
        · have hc0 : wr.cell? ⟨SB, 0, none⟩ = some (.string x0) := by rw [heap_cell hS]; rfl
          have HI := Lib.hid (fun W => identify_calls x0 id W (by omega))
          unfold ansP at HI
          obtain ⟨y, hy⟩ : ∃ y, (idP x0 id).1 = y := ⟨_, rfl⟩
          obtain ⟨er, her⟩ : ∃ er, (idP x0 id).2 = er := ⟨_, rfl⟩
          rw [hy, her] at HI
          have HX : er = 0 → (x0 = s ∨ x0 = t) ∧ y.id = id := by rw [← hy, ← her]; exact Hx0.out
          have HX2 := Lib.hid HX; clear HX hy her
          by_cases er0 : er = 0
          · obtain ⟨hor, hyid⟩ := HX2.out er0
            have he0 : (er == 0) = true := by rw [er0]; rfl
            have hyn : (y.id != id) = false := by rw [hyid]; simp
            have hyn2 : (y.id == id) = true := by rw [hyid]; simp
            have HE := Lib.hid er0; have HYI := Lib.hid hyid; clear er0 hyid HX2
            by_cases hxs : x0 = s
            · have hx1 : (x0.toList != s.toList) = false := by rw [hxs]; simp
              have hx1a : (x0.toList == s.toList) = true := by rw [hxs]; simp
              have HXS := Lib.hid hxs; clear hxs hor
              go_wp2_with fail
              refine (HI.out _).mono ?_
              rintro e wx ⟨rfl, hbx⟩
              have hSx := (hbx.block SB (heap_lt hS)).trans hS
              have hBx := hBr.trans (hbx.mono (Nat.le_trans (by omega) hBr.size))
              have hNx := PgAt.new wx y
              have hidy := hNx.id
              have HSx := Lib.hid hSx
              clear hS hBr hbx HI hSx hc0
              go_wp2_with (first
                | (refine wpList_alloc_row rfl 59 rfl (pageC Page.zero) zero59 ?_)
                | (refine wpList_store_row rfl 59 (.tmp 18) (.tmp 97) rfl _ (pageC y) rfl rfl _ _ (heap_alloc_new _ _) (page_size _) (by simp only [pageC_size]) (pageC_oneCell _) ?_; rw [World.setRow_alloc_new]))
              go_roundw
              case rel => exact ⟨1, by omega, by go_num, (Below.heap_alloc _ _ _ (heap_lt HSx.out)).trans HSx.out, hBx.alloc (Nat.le_trans (by omega) hBx.size) _⟩
              case measure => simp [intOf]
            · have hxt : x0 = t := hor.resolve_left hxs
              have hx1 : (x0.toList != s.toList) = true := by rw [bne, (Lib.bytes_beq_false_iff _ _).2 hxs]; rfl
              have hx1a : (x0.toList == s.toList) = false := (Lib.bytes_beq_false_iff _ _).2 hxs
              have hx2 : (x0.toList != t.toList) = false := by rw [hxt]; simp
              have hx2a : (x0.toList == t.toList) = true := by rw [hxt]; simp
              have HXS := Lib.hid hxs; have HXT := Lib.hid hxt; clear hxs hxt hor
              go_wp2_with fail
              refine (HI.out _).mono ?_
              rintro e wx ⟨rfl, hbx⟩
              have hSx := (hbx.block SB (heap_lt hS)).trans hS
              have hBx := hBr.trans (hbx.mono (Nat.le_trans (by omega) hBr.size))
              have hNx := PgAt.new wx y
              have hidy := hNx.id
              have HSx := Lib.hid hSx
              clear hS hBr hbx HI hSx hc0
              go_wp2_with (first
                | (refine wpList_alloc_row rfl 59 rfl (pageC Page.zero) zero59 ?_)
                | (refine wpList_store_row rfl 59 (.tmp 18) (.tmp 97) rfl _ (pageC y) rfl rfl _ _ (heap_alloc_new _ _) (page_size _) (by simp only [pageC_size]) (pageC_oneCell _) ?_; rw [World.setRow_alloc_new]))
              go_roundw
              case rel => exact ⟨1, by omega, by go_num, (Below.heap_alloc _ _ _ (heap_lt HSx.out)).trans HSx.out, hBx.alloc (Nat.le_trans (by omega) hBx.size) _⟩
              case measure => simp [intOf]
          · have he0 : (er == 0) = false := by simpa using er0
            have HE := Lib.hid er0; clear er0 HX2
            go_wp2_with fail
            refine (HI.out _).mono ?_
            rintro e wx ⟨rfl, hbx⟩
            have hSx := (hbx.block SB (heap_lt hS)).trans hS
            have hBx := hBr.trans (hbx.mono (Nat.le_trans (by omega) hBr.size))
            have hNx := PgAt.new wx y
            have hidy := hNx.id
            have HSx := Lib.hid hSx
            clear hS hBr hbx HI hSx hc0
            go_wp2_with (first
              | (refine wpList_alloc_row rfl 59 rfl (pageC Page.zero) zero59 ?_)
              | (refine wpList_store_row rfl 59 (.tmp 18) (.tmp 97) rfl _ (pageC y) rfl rfl _ _ (heap_alloc_new _ _) (page_size _) (by simp only [pageC_size]) (pageC_oneCell _) ?_; rw [World.setRow_alloc_new]))
            go_roundw
            case rel => exact ⟨1, by omega, by go_num, (Below.heap_alloc _ _ _ (heap_lt HSx.out)).trans HSx.out, hBx.alloc (Nat.le_trans (by omega) hBx.size) _⟩
            case measure => simp [intOf]
        · have hc0 : wr.cell? ⟨SB, 1, none⟩ = some (.string x1) := by rw [heap_cell hS]; rfl
          have HI := Lib.hid (fun W => identify_calls x1 id W (by omega))
          unfold ansP at HI
          obtain ⟨y, hy⟩ : ∃ y, (idP x1 id).1 = y := ⟨_, rfl⟩
          obtain ⟨er, her⟩ : ∃ er, (idP x1 id).2 = er := ⟨_, rfl⟩
          rw [hy, her] at HI
          have HX : er = 0 → (x1 = s ∨ x1 = t) ∧ y.id = id := by rw [← hy, ← her]; exact Hx1.out
          have HX2 := Lib.hid HX; clear HX hy her
          by_cases er0 : er = 0
          · obtain ⟨hor, hyid⟩ := HX2.out er0
            have he0 : (er == 0) = true := by rw [er0]; rfl
            have hyn : (y.id != id) = false := by rw [hyid]; simp
            have hyn2 : (y.id == id) = true := by rw [hyid]; simp
            have HE := Lib.hid er0; have HYI := Lib.hid hyid; clear er0 hyid HX2
            by_cases hxs : x1 = s
            · have hx1 : (x1.toList != s.toList) = false := by rw [hxs]; simp
              have hx1a : (x1.toList == s.toList) = true := by rw [hxs]; simp
              have HXS := Lib.hid hxs; clear hxs hor
              go_wp2_with fail
              refine (HI.out _).mono ?_
              rintro e wx ⟨rfl, hbx⟩
              have hSx := (hbx.block SB (heap_lt hS)).trans hS
              have hBx := hBr.trans (hbx.mono (Nat.le_trans (by omega) hBr.size))
              have hNx := PgAt.new wx y
              have hidy := hNx.id
              have HSx := Lib.hid hSx
              clear hS hBr hbx HI hSx hc0
              go_wp2_with (first
                | (refine wpList_alloc_row rfl 59 rfl (pageC Page.zero) zero59 ?_)
                | (refine wpList_store_row rfl 59 (.tmp 18) (.tmp 97) rfl _ (pageC y) rfl rfl _ _ (heap_alloc_new _ _) (page_size _) (by simp only [pageC_size]) (pageC_oneCell _) ?_; rw [World.setRow_alloc_new]))
              go_roundw
              case rel => exact ⟨2, by omega, by go_num, (Below.heap_alloc _ _ _ (heap_lt HSx.out)).trans HSx.out, hBx.alloc (Nat.le_trans (by omega) hBx.size) _⟩
              case measure => simp [intOf]
            · have hxt : x1 = t := hor.resolve_left hxs
              have hx1 : (x1.toList != s.toList) = true := by rw [bne, (Lib.bytes_beq_false_iff _ _).2 hxs]; rfl
              have hx1a : (x1.toList == s.toList) = false := (Lib.bytes_beq_false_iff _ _).2 hxs
              have hx2 : (x1.toList != t.toList) = false := by rw [hxt]; simp
              have hx2a : (x1.toList == t.toList) = true := by rw [hxt]; simp
              have HXS := Lib.hid hxs; have HXT := Lib.hid hxt; clear hxs hxt hor
              go_wp2_with fail
              refine (HI.out _).mono ?_
              rintro e wx ⟨rfl, hbx⟩
              have hSx := (hbx.block SB (heap_lt hS)).trans hS
              have hBx := hBr.trans (hbx.mono (Nat.le_trans (by omega) hBr.size))
              have hNx := PgAt.new wx y
              have hidy := hNx.id
              have HSx := Lib.hid hSx
              clear hS hBr hbx HI hSx hc0
              go_wp2_with (first
                | (refine wpList_alloc_row rfl 59 rfl (pageC Page.zero) zero59 ?_)
                | (refine wpList_store_row rfl 59 (.tmp 18) (.tmp 97) rfl _ (pageC y) rfl rfl _ _ (heap_alloc_new _ _) (page_size _) (by simp only [pageC_size]) (pageC_oneCell _) ?_; rw [World.setRow_alloc_new]))
              go_roundw
              case rel => exact ⟨2, by omega, by go_num, (Below.heap_alloc _ _ _ (heap_lt HSx.out)).trans HSx.out, hBx.alloc (Nat.le_trans (by omega) hBx.size) _⟩
              case measure => simp [intOf]
          · have he0 : (er == 0) = false := by simpa using er0
            have HE := Lib.hid er0; clear er0 HX2
            go_wp2_with fail
            refine (HI.out _).mono ?_
            rintro e wx ⟨rfl, hbx⟩
            have hSx := (hbx.block SB (heap_lt hS)).trans hS
            have hBx := hBr.trans (hbx.mono (Nat.le_trans (by omega) hBr.size))
            have hNx := PgAt.new wx y
            have hidy := hNx.id
            have HSx := Lib.hid hSx
            clear hS hBr hbx HI hSx hc0
            go_wp2_with (first
              | (refine wpList_alloc_row rfl 59 rfl (pageC Page.zero) zero59 ?_)
              | (refine wpList_store_row rfl 59 (.tmp 18) (.tmp 97) rfl _ (pageC y) rfl rfl _ _ (heap_alloc_new _ _) (page_size _) (by simp only [pageC_size]) (pageC_oneCell _) ?_; rw [World.setRow_alloc_new]))
            go_roundw
            case rel => exact ⟨2, by omega, by go_num, (Below.heap_alloc _ _ _ (heap_lt HSx.out)).trans HSx.out, hBx.alloc (Nat.le_trans (by omega) hBx.size) _⟩
            case measure => simp [intOf]
        · go_wp2_with fail
          go_ret
          exact ⟨rfl, hBr⟩
    · by_cases h0 : 0 < q.lsn
      · have hd0 : decide (0 < q.lsn) = true := by simp; omega
        have hv := Lib.hid (hvb.out (by omega))
        have hz1 := zeros_size 256
        have HBk := Lib.hid (fun W => blank_calls W)
        obtain ⟨z, hz⟩ : ∃ z, zeros 256 = z := ⟨_, rfl⟩
        rw [hz] at hv hz1 HBk
        clear hvb hz
        go_wp2_with fail
        refine (HBk.out _).mono ?_
        rintro e wb ⟨rfl, hbb⟩
        have hBb := hBa.trans (hbb.mono (Nat.le_trans (by omega) hBa.size))
        clear hBa hbb
        go_wp2_with fail
        obtain ⟨kn, hkn⟩ : ∃ kn : Nat, v % 257 = kn := ⟨(v % 257).toNat, by omega⟩
        have hk0 : (0 : Int) ≤ kn := by omega
        have hk1 : (kn : Int) ≤ 256 := by omega
        have hk2 : kn ≤ 256 := by omega
        have Hx0 := Lib.hid (fun h0 => mix_ok hv.out hk2 (id := id) h0)
        have Hx1 := Lib.hid (fun h0 => (mix_ok hv.out.swap hk2 (id := id) h0).imp Or.symm (fun h => h))
        have hz3 := mix_size z t kn hz1 hz2 hk2
        have hz4 := mix_size t z kn hz2 hz1 hk2
        go_region
        obtain ⟨x0, hx0⟩ : ∃ x, z.extract 0 kn ++ t.extract kn 256 = x := ⟨_, rfl⟩
        obtain ⟨x1, hx1⟩ : ∃ x, t.extract 0 kn ++ z.extract kn 256 = x := ⟨_, rfl⟩
        rw [hx0] at Hx0 hz3 ⊢
        rw [hx1] at Hx1 hz4 ⊢
        obtain ⟨SB, hSB⟩ : ∃ SB, wb.heap.size = SB := ⟨_, rfl⟩
        have hS0 : (wb.alloc (.cells #[.string x0, .string x1] 9)).drew.heap[SB]? = some (.cells #[.string x0, .string x1] 9 (0, 0)) := by rw [← hSB]; exact heap_alloc_new _ _
        have hBs : Below B0 w (wb.alloc (.cells #[.string x0, .string x1] 9)).drew := (hBb.alloc (Nat.le_trans (by omega) hBb.size) _).drew
        have hB0w : B0 ≤ w.heap.size := by omega
        rw [hSB]
        clear hSB hx0 hx1 hv hBb hkn hk0 hk1 hk2
        go_wp2_with fail
        go_loopw [89] (fun i wr => ∃ j : Nat, j ≤ 2 ∧ i = .int .i64 j ∧ wr.heap[SB]? = some (.cells #[.string x0, .string x1] 9 (0, 0)) ∧ Below B0 w wr) (fun i _ => 2 - (intOf i).toNat)
        case atStart => exact ⟨0, by omega, rfl, hS0, hBs⟩
        case round =>
          clear hS0 hBs
          obtain ⟨j, hj, rfl, hS, hBr⟩ := hrel
          have hsr := hBr.size
          rcases (show j = 0 ∨ j = 1 ∨ j = 2 by omega) with rfl | rfl | rfl
          · have hc0 : wr.cell? ⟨SB, 0, none⟩ = some (.string x0) := by rw [heap_cell hS]; rfl
            have HI := Lib.hid (fun W => identify_calls x0 id W (by omega))
            unfold ansP at HI
            obtain ⟨y, hy⟩ : ∃ y, (idP x0 id).1 = y := ⟨_, rfl⟩
            obtain ⟨er, her⟩ : ∃ er, (idP x0 id).2 = er := ⟨_, rfl⟩
            rw [hy, her] at HI
            have HX : er = 0 → (x0 = z ∨ x0 = t) ∧ y.id = id := by rw [← hy, ← her]; exact Hx0.out
            have HX2 := Lib.hid HX; clear HX hy her
            by_cases er0 : er = 0
            · obtain ⟨hor, hyid⟩ := HX2.out er0
              have he0 : (er == 0) = true := by rw [er0]; rfl
              have hyn : (y.id != id) = false := by rw [hyid]; simp
              have hyn2 : (y.id == id) = true := by rw [hyid]; simp
              have HE := Lib.hid er0; have HYI := Lib.hid hyid; clear er0 hyid HX2
              by_cases hxs : x0 = z
              · have hx1 : (x0.toList != z.toList) = false := by rw [hxs]; simp
                have hx1a : (x0.toList == z.toList) = true := by rw [hxs]; simp
                have HXS := Lib.hid hxs; clear hxs hor
                go_wp2_with fail
                refine (HI.out _).mono ?_
                rintro e wx ⟨rfl, hbx⟩
                have hSx := (hbx.block SB (heap_lt hS)).trans hS
                have hBx := hBr.trans (hbx.mono (Nat.le_trans (by omega) hBr.size))
                have hNx := PgAt.new wx y
                have hidy := hNx.id
                have HSx := Lib.hid hSx
                clear hS hBr hbx HI hSx hc0
                go_wp2_with (first
                  | (refine wpList_alloc_row rfl 59 rfl (pageC Page.zero) zero59 ?_)
                  | (refine wpList_store_row rfl 59 (.tmp 18) (.tmp 97) rfl _ (pageC y) rfl rfl _ _ (heap_alloc_new _ _) (page_size _) (by simp only [pageC_size]) (pageC_oneCell _) ?_; rw [World.setRow_alloc_new]))
                go_roundw
                case rel => exact ⟨1, by omega, by go_num, (Below.heap_alloc _ _ _ (heap_lt HSx.out)).trans HSx.out, hBx.alloc (Nat.le_trans (by omega) hBx.size) _⟩
                case measure => simp [intOf]
              · have hxt : x0 = t := hor.resolve_left hxs
                have hx1 : (x0.toList != z.toList) = true := by rw [bne, (Lib.bytes_beq_false_iff _ _).2 hxs]; rfl
                have hx1a : (x0.toList == z.toList) = false := (Lib.bytes_beq_false_iff _ _).2 hxs
                have hx2 : (x0.toList != t.toList) = false := by rw [hxt]; simp
                have hx2a : (x0.toList == t.toList) = true := by rw [hxt]; simp
                have HXS := Lib.hid hxs; have HXT := Lib.hid hxt; clear hxs hxt hor
                go_wp2_with fail
                refine (HI.out _).mono ?_
                rintro e wx ⟨rfl, hbx⟩
                have hSx := (hbx.block SB (heap_lt hS)).trans hS
                have hBx := hBr.trans (hbx.mono (Nat.le_trans (by omega) hBr.size))
                have hNx := PgAt.new wx y
                have hidy := hNx.id
                have HSx := Lib.hid hSx
                clear hS hBr hbx HI hSx hc0
                go_wp2_with (first
                  | (refine wpList_alloc_row rfl 59 rfl (pageC Page.zero) zero59 ?_)
                  | (refine wpList_store_row rfl 59 (.tmp 18) (.tmp 97) rfl _ (pageC y) rfl rfl _ _ (heap_alloc_new _ _) (page_size _) (by simp only [pageC_size]) (pageC_oneCell _) ?_; rw [World.setRow_alloc_new]))
                go_roundw
                case rel => exact ⟨1, by omega, by go_num, (Below.heap_alloc _ _ _ (heap_lt HSx.out)).trans HSx.out, hBx.alloc (Nat.le_trans (by omega) hBx.size) _⟩
                case measure => simp [intOf]
            · have he0 : (er == 0) = false := by simpa using er0
              have HE := Lib.hid er0; clear er0 HX2
              go_wp2_with fail
              refine (HI.out _).mono ?_
              rintro e wx ⟨rfl, hbx⟩
              have hSx := (hbx.block SB (heap_lt hS)).trans hS
              have hBx := hBr.trans (hbx.mono (Nat.le_trans (by omega) hBr.size))
              have hNx := PgAt.new wx y
              have hidy := hNx.id
              have HSx := Lib.hid hSx
              clear hS hBr hbx HI hSx hc0
              go_wp2_with (first
                | (refine wpList_alloc_row rfl 59 rfl (pageC Page.zero) zero59 ?_)
                | (refine wpList_store_row rfl 59 (.tmp 18) (.tmp 97) rfl _ (pageC y) rfl rfl _ _ (heap_alloc_new _ _) (page_size _) (by simp only [pageC_size]) (pageC_oneCell _) ?_; rw [World.setRow_alloc_new]))
              go_roundw
              case rel => exact ⟨1, by omega, by go_num, (Below.heap_alloc _ _ _ (heap_lt HSx.out)).trans HSx.out, hBx.alloc (Nat.le_trans (by omega) hBx.size) _⟩
              case measure => simp [intOf]
          · have hc0 : wr.cell? ⟨SB, 1, none⟩ = some (.string x1) := by rw [heap_cell hS]; rfl
            have HI := Lib.hid (fun W => identify_calls x1 id W (by omega))
            unfold ansP at HI
            obtain ⟨y, hy⟩ : ∃ y, (idP x1 id).1 = y := ⟨_, rfl⟩
            obtain ⟨er, her⟩ : ∃ er, (idP x1 id).2 = er := ⟨_, rfl⟩
            rw [hy, her] at HI
            have HX : er = 0 → (x1 = z ∨ x1 = t) ∧ y.id = id := by rw [← hy, ← her]; exact Hx1.out
            have HX2 := Lib.hid HX; clear HX hy her
            by_cases er0 : er = 0
            · obtain ⟨hor, hyid⟩ := HX2.out er0
              have he0 : (er == 0) = true := by rw [er0]; rfl
              have hyn : (y.id != id) = false := by rw [hyid]; simp
              have hyn2 : (y.id == id) = true := by rw [hyid]; simp
              have HE := Lib.hid er0; have HYI := Lib.hid hyid; clear er0 hyid HX2
              by_cases hxs : x1 = z
              · have hx1 : (x1.toList != z.toList) = false := by rw [hxs]; simp
                have hx1a : (x1.toList == z.toList) = true := by rw [hxs]; simp
                have HXS := Lib.hid hxs; clear hxs hor
                go_wp2_with fail
                refine (HI.out _).mono ?_
                rintro e wx ⟨rfl, hbx⟩
                have hSx := (hbx.block SB (heap_lt hS)).trans hS
                have hBx := hBr.trans (hbx.mono (Nat.le_trans (by omega) hBr.size))
                have hNx := PgAt.new wx y
                have hidy := hNx.id
                have HSx := Lib.hid hSx
                clear hS hBr hbx HI hSx hc0
                go_wp2_with (first
                  | (refine wpList_alloc_row rfl 59 rfl (pageC Page.zero) zero59 ?_)
                  | (refine wpList_store_row rfl 59 (.tmp 18) (.tmp 97) rfl _ (pageC y) rfl rfl _ _ (heap_alloc_new _ _) (page_size _) (by simp only [pageC_size]) (pageC_oneCell _) ?_; rw [World.setRow_alloc_new]))
                go_roundw
                case rel => exact ⟨2, by omega, by go_num, (Below.heap_alloc _ _ _ (heap_lt HSx.out)).trans HSx.out, hBx.alloc (Nat.le_trans (by omega) hBx.size) _⟩
                case measure => simp [intOf]
              · have hxt : x1 = t := hor.resolve_left hxs
                have hx1 : (x1.toList != z.toList) = true := by rw [bne, (Lib.bytes_beq_false_iff _ _).2 hxs]; rfl
                have hx1a : (x1.toList == z.toList) = false := (Lib.bytes_beq_false_iff _ _).2 hxs
                have hx2 : (x1.toList != t.toList) = false := by rw [hxt]; simp
                have hx2a : (x1.toList == t.toList) = true := by rw [hxt]; simp
                have HXS := Lib.hid hxs; have HXT := Lib.hid hxt; clear hxs hxt hor
                go_wp2_with fail
                refine (HI.out _).mono ?_
                rintro e wx ⟨rfl, hbx⟩
                have hSx := (hbx.block SB (heap_lt hS)).trans hS
                have hBx := hBr.trans (hbx.mono (Nat.le_trans (by omega) hBr.size))
                have hNx := PgAt.new wx y
                have hidy := hNx.id
                have HSx := Lib.hid hSx
                clear hS hBr hbx HI hSx hc0
                go_wp2_with (first
                  | (refine wpList_alloc_row rfl 59 rfl (pageC Page.zero) zero59 ?_)
                  | (refine wpList_store_row rfl 59 (.tmp 18) (.tmp 97) rfl _ (pageC y) rfl rfl _ _ (heap_alloc_new _ _) (page_size _) (by simp only [pageC_size]) (pageC_oneCell _) ?_; rw [World.setRow_alloc_new]))
                go_roundw
                case rel => exact ⟨2, by omega, by go_num, (Below.heap_alloc _ _ _ (heap_lt HSx.out)).trans HSx.out, hBx.alloc (Nat.le_trans (by omega) hBx.size) _⟩
                case measure => simp [intOf]
            · have he0 : (er == 0) = false := by simpa using er0
              have HE := Lib.hid er0; clear er0 HX2
              go_wp2_with fail
              refine (HI.out _).mono ?_
              rintro e wx ⟨rfl, hbx⟩
              have hSx := (hbx.block SB (heap_lt hS)).trans hS
              have hBx := hBr.trans (hbx.mono (Nat.le_trans (by omega) hBr.size))
              have hNx := PgAt.new wx y
              have hidy := hNx.id
              have HSx := Lib.hid hSx
              clear hS hBr hbx HI hSx hc0
              go_wp2_with (first
                | (refine wpList_alloc_row rfl 59 rfl (pageC Page.zero) zero59 ?_)
                | (refine wpList_store_row rfl 59 (.tmp 18) (.tmp 97) rfl _ (pageC y) rfl rfl _ _ (heap_alloc_new _ _) (page_size _) (by simp only [pageC_size]) (pageC_oneCell _) ?_; rw [World.setRow_alloc_new]))
              go_roundw
              case rel => exact ⟨2, by omega, by go_num, (Below.heap_alloc _ _ _ (heap_lt HSx.out)).trans HSx.out, hBx.alloc (Nat.le_trans (by omega) hBx.size) _⟩
              case measure => simp [intOf]
          · go_wp2_with fail
            go_ret
            exact ⟨rfl, hBr⟩
      · have hd0 : decide (0 < q.lsn) = false := by simp; omega
        clear hvb
        go_wp2_with fail
        obtain ⟨kn, hkn⟩ : ∃ kn : Nat, v % 257 = kn := ⟨(v % 257).toNat, by omega⟩
        have hk0 : (0 : Int) ≤ kn := by omega
        have hk1 : (kn : Int) ≤ 256 := by omega
        have hk2 : kn ≤ 256 := by omega
        have Hx0 := Lib.hid (fun h0 => mix_ok hv.out hk2 (id := id) h0)
        have Hx1 := Lib.hid (fun h0 => (mix_ok hv.out.swap hk2 (id := id) h0).imp Or.symm (fun h => h))
        have hz3 := mix_size s t kn hz1 hz2 hk2
        have hz4 := mix_size t s kn hz2 hz1 hk2
        go_region
        obtain ⟨x0, hx0⟩ : ∃ x, s.extract 0 kn ++ t.extract kn 256 = x := ⟨_, rfl⟩
        obtain ⟨x1, hx1⟩ : ∃ x, t.extract 0 kn ++ s.extract kn 256 = x := ⟨_, rfl⟩
        rw [hx0] at Hx0 hz3 ⊢
        rw [hx1] at Hx1 hz4 ⊢
        obtain ⟨SB, hSB⟩ : ∃ SB, wa.heap.size = SB := ⟨_, rfl⟩
        have hS0 : (wa.alloc (.cells #[.string x0, .string x1] 9)).drew.heap[SB]? = some (.cells #[.string x0, .string x1] 9 (0, 0)) := by rw [← hSB]; exact heap_alloc_new _ _
        have hBs : Below B0 w (wa.alloc (.cells #[.string x0, .string x1] 9)).drew := (hBa.alloc (Nat.le_trans (by omega) hBa.size) _).drew
        have hB0w : B0 ≤ w.heap.size := by omega
        rw [hSB]
        clear hSB hx0 hx1 hv hBa hkn hk0 hk1 hk2
        go_wp2_with fail
        go_loopw [89] (fun i wr => ∃ j : Nat, j ≤ 2 ∧ i = .int .i64 j ∧ wr.heap[SB]? = some (.cells #[.string x0, .string x1] 9 (0, 0)) ∧ Below B0 w wr) (fun i _ => 2 - (intOf i).toNat)
        case atStart => exact ⟨0, by omega, rfl, hS0, hBs⟩
        case round =>
          clear hS0 hBs
          obtain ⟨j, hj, rfl, hS, hBr⟩ := hrel
          have hsr := hBr.size
          rcases (show j = 0 ∨ j = 1 ∨ j = 2 by omega) with rfl | rfl | rfl
          · have hc0 : wr.cell? ⟨SB, 0, none⟩ = some (.string x0) := by rw [heap_cell hS]; rfl
            have HI := Lib.hid (fun W => identify_calls x0 id W (by omega))
            unfold ansP at HI
            obtain ⟨y, hy⟩ : ∃ y, (idP x0 id).1 = y := ⟨_, rfl⟩
            obtain ⟨er, her⟩ : ∃ er, (idP x0 id).2 = er := ⟨_, rfl⟩
            rw [hy, her] at HI
            have HX : er = 0 → (x0 = s ∨ x0 = t) ∧ y.id = id := by rw [← hy, ← her]; exact Hx0.out
            have HX2 := Lib.hid HX; clear HX hy her
            by_cases er0 : er = 0
            · obtain ⟨hor, hyid⟩ := HX2.out er0
              have he0 : (er == 0) = true := by rw [er0]; rfl
              have hyn : (y.id != id) = false := by rw [hyid]; simp
              have hyn2 : (y.id == id) = true := by rw [hyid]; simp
              have HE := Lib.hid er0; have HYI := Lib.hid hyid; clear er0 hyid HX2
              by_cases hxs : x0 = s
              · have hx1 : (x0.toList != s.toList) = false := by rw [hxs]; simp
                have hx1a : (x0.toList == s.toList) = true := by rw [hxs]; simp
                have HXS := Lib.hid hxs; clear hxs hor
                go_wp2_with fail
                refine (HI.out _).mono ?_
                rintro e wx ⟨rfl, hbx⟩
                have hSx := (hbx.block SB (heap_lt hS)).trans hS
                have hBx := hBr.trans (hbx.mono (Nat.le_trans (by omega) hBr.size))
                have hNx := PgAt.new wx y
                have hidy := hNx.id
                have HSx := Lib.hid hSx
                clear hS hBr hbx HI hSx hc0
                go_wp2_with (first
                  | (refine wpList_alloc_row rfl 59 rfl (pageC Page.zero) zero59 ?_)
                  | (refine wpList_store_row rfl 59 (.tmp 18) (.tmp 97) rfl _ (pageC y) rfl rfl _ _ (heap_alloc_new _ _) (page_size _) (by simp only [pageC_size]) (pageC_oneCell _) ?_; rw [World.setRow_alloc_new]))
                go_roundw
                case rel => exact ⟨1, by omega, by go_num, (Below.heap_alloc _ _ _ (heap_lt HSx.out)).trans HSx.out, hBx.alloc (Nat.le_trans (by omega) hBx.size) _⟩
                case measure => simp [intOf]
              · have hxt : x0 = t := hor.resolve_left hxs
                have hx1 : (x0.toList != s.toList) = true := by rw [bne, (Lib.bytes_beq_false_iff _ _).2 hxs]; rfl
                have hx1a : (x0.toList == s.toList) = false := (Lib.bytes_beq_false_iff _ _).2 hxs
                have hx2 : (x0.toList != t.toList) = false := by rw [hxt]; simp
                have hx2a : (x0.toList == t.toList) = true := by rw [hxt]; simp
                have HXS := Lib.hid hxs; have HXT := Lib.hid hxt; clear hxs hxt hor
                go_wp2_with fail
                refine (HI.out _).mono ?_
                rintro e wx ⟨rfl, hbx⟩
                have hSx := (hbx.block SB (heap_lt hS)).trans hS
                have hBx := hBr.trans (hbx.mono (Nat.le_trans (by omega) hBr.size))
                have hNx := PgAt.new wx y
                have hidy := hNx.id
                have HSx := Lib.hid hSx
                clear hS hBr hbx HI hSx hc0
                go_wp2_with (first
                  | (refine wpList_alloc_row rfl 59 rfl (pageC Page.zero) zero59 ?_)
                  | (refine wpList_store_row rfl 59 (.tmp 18) (.tmp 97) rfl _ (pageC y) rfl rfl _ _ (heap_alloc_new _ _) (page_size _) (by simp only [pageC_size]) (pageC_oneCell _) ?_; rw [World.setRow_alloc_new]))
                go_roundw
                case rel => exact ⟨1, by omega, by go_num, (Below.heap_alloc _ _ _ (heap_lt HSx.out)).trans HSx.out, hBx.alloc (Nat.le_trans (by omega) hBx.size) _⟩
                case measure => simp [intOf]
            · have he0 : (er == 0) = false := by simpa using er0
              have HE := Lib.hid er0; clear er0 HX2
              go_wp2_with fail
              refine (HI.out _).mono ?_
              rintro e wx ⟨rfl, hbx⟩
              have hSx := (hbx.block SB (heap_lt hS)).trans hS
              have hBx := hBr.trans (hbx.mono (Nat.le_trans (by omega) hBr.size))
              have hNx := PgAt.new wx y
              have hidy := hNx.id
              have HSx := Lib.hid hSx
              clear hS hBr hbx HI hSx hc0
              go_wp2_with (first
                | (refine wpList_alloc_row rfl 59 rfl (pageC Page.zero) zero59 ?_)
                | (refine wpList_store_row rfl 59 (.tmp 18) (.tmp 97) rfl _ (pageC y) rfl rfl _ _ (heap_alloc_new _ _) (page_size _) (by simp only [pageC_size]) (pageC_oneCell _) ?_; rw [World.setRow_alloc_new]))
              go_roundw
              case rel => exact ⟨1, by omega, by go_num, (Below.heap_alloc _ _ _ (heap_lt HSx.out)).trans HSx.out, hBx.alloc (Nat.le_trans (by omega) hBx.size) _⟩
              case measure => simp [intOf]
          · have hc0 : wr.cell? ⟨SB, 1, none⟩ = some (.string x1) := by rw [heap_cell hS]; rfl
            have HI := Lib.hid (fun W => identify_calls x1 id W (by omega))
            unfold ansP at HI
            obtain ⟨y, hy⟩ : ∃ y, (idP x1 id).1 = y := ⟨_, rfl⟩
            obtain ⟨er, her⟩ : ∃ er, (idP x1 id).2 = er := ⟨_, rfl⟩
            rw [hy, her] at HI
            have HX : er = 0 → (x1 = s ∨ x1 = t) ∧ y.id = id := by rw [← hy, ← her]; exact Hx1.out
            have HX2 := Lib.hid HX; clear HX hy her
            by_cases er0 : er = 0
            · obtain ⟨hor, hyid⟩ := HX2.out er0
              have he0 : (er == 0) = true := by rw [er0]; rfl
              have hyn : (y.id != id) = false := by rw [hyid]; simp
              have hyn2 : (y.id == id) = true := by rw [hyid]; simp
              have HE := Lib.hid er0; have HYI := Lib.hid hyid; clear er0 hyid HX2
              by_cases hxs : x1 = s
              · have hx1 : (x1.toList != s.toList) = false := by rw [hxs]; simp
                have hx1a : (x1.toList == s.toList) = true := by rw [hxs]; simp
                have HXS := Lib.hid hxs; clear hxs hor
                go_wp2_with fail
                refine (HI.out _).mono ?_
                rintro e wx ⟨rfl, hbx⟩
                have hSx := (hbx.block SB (heap_lt hS)).trans hS
                have hBx := hBr.trans (hbx.mono (Nat.le_trans (by omega) hBr.size))
                have hNx := PgAt.new wx y
                have hidy := hNx.id
                have HSx := Lib.hid hSx
                clear hS hBr hbx HI hSx hc0
                go_wp2_with (first
                  | (refine wpList_alloc_row rfl 59 rfl (pageC Page.zero) zero59 ?_)
                  | (refine wpList_store_row rfl 59 (.tmp 18) (.tmp 97) rfl _ (pageC y) rfl rfl _ _ (heap_alloc_new _ _) (page_size _) (by simp only [pageC_size]) (pageC_oneCell _) ?_; rw [World.setRow_alloc_new]))
                go_roundw
                case rel => exact ⟨2, by omega, by go_num, (Below.heap_alloc _ _ _ (heap_lt HSx.out)).trans HSx.out, hBx.alloc (Nat.le_trans (by omega) hBx.size) _⟩
                case measure => simp [intOf]
              · have hxt : x1 = t := hor.resolve_left hxs
                have hx1 : (x1.toList != s.toList) = true := by rw [bne, (Lib.bytes_beq_false_iff _ _).2 hxs]; rfl
                have hx1a : (x1.toList == s.toList) = false := (Lib.bytes_beq_false_iff _ _).2 hxs
                have hx2 : (x1.toList != t.toList) = false := by rw [hxt]; simp
                have hx2a : (x1.toList == t.toList) = true := by rw [hxt]; simp
                have HXS := Lib.hid hxs; have HXT := Lib.hid hxt; clear hxs hxt hor
                go_wp2_with fail
                refine (HI.out _).mono ?_
                rintro e wx ⟨rfl, hbx⟩
                have hSx := (hbx.block SB (heap_lt hS)).trans hS
                have hBx := hBr.trans (hbx.mono (Nat.le_trans (by omega) hBr.size))
                have hNx := PgAt.new wx y
                have hidy := hNx.id
                have HSx := Lib.hid hSx
                clear hS hBr hbx HI hSx hc0
                go_wp2_with (first
                  | (refine wpList_alloc_row rfl 59 rfl (pageC Page.zero) zero59 ?_)
                  | (refine wpList_store_row rfl 59 (.tmp 18) (.tmp 97) rfl _ (pageC y) rfl rfl _ _ (heap_alloc_new _ _) (page_size _) (by simp only [pageC_size]) (pageC_oneCell _) ?_; rw [World.setRow_alloc_new]))
                go_roundw
                case rel => exact ⟨2, by omega, by go_num, (Below.heap_alloc _ _ _ (heap_lt HSx.out)).trans HSx.out, hBx.alloc (Nat.le_trans (by omega) hBx.size) _⟩
                case measure => simp [intOf]
            · have he0 : (er == 0) = false := by simpa using er0
              have HE := Lib.hid er0; clear er0 HX2
              go_wp2_with fail
              refine (HI.out _).mono ?_
              rintro e wx ⟨rfl, hbx⟩
              have hSx := (hbx.block SB (heap_lt hS)).trans hS
              have hBx := hBr.trans (hbx.mono (Nat.le_trans (by omega) hBr.size))
              have hNx := PgAt.new wx y
              have hidy := hNx.id
              have HSx := Lib.hid hSx
              clear hS hBr hbx HI hSx hc0
              go_wp2_with (first
                | (refine wpList_alloc_row rfl 59 rfl (pageC Page.zero) zero59 ?_)
                | (refine wpList_store_row rfl 59 (.tmp 18) (.tmp 97) rfl _ (pageC y) rfl rfl _ _ (heap_alloc_new _ _) (page_size _) (by simp only [pageC_size]) (pageC_oneCell _) ?_; rw [World.setRow_alloc_new]))
              go_roundw
              case rel => exact ⟨2, by omega, by go_num, (Below.heap_alloc _ _ _ (heap_lt HSx.out)).trans HSx.out, hBx.alloc (Nat.le_trans (by omega) hBx.size) _⟩
              case measure => simp [intOf]
          · go_wp2_with fail
            go_ret
            exact ⟨rfl, hBr⟩
/-- .. as the row asks it. -/
theorem tears_wf (a : Option Addr) (n c : Nat) (v : Int) (bl : Bool) (w : World) (h : Ls w a n c) (hv : (Lit.int .u16 v).wf = true) :
    Calls Try.prog 13 #[.slice a n c, .int .u16 v, .bool bl] w fun e w' => e = .returned (.bool true) ∧ Below w.heap.size w w' := by
  simp only [Lit.wf, Bool.and_eq_true, decide_eq_true_eq, show IntKind.u16.min = 0 from rfl, show IntKind.u16.max = 65535 from rfl] at hv
  exact tears_calls a n c v bl w h (by omega) (by omega)
end Go.Proofs.Ytldkgmodmpnclaa
