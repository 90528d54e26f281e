/- PageDecodes' walk: what any bytes mean as a page, and as the page with an ID, or the error. -/
import Derived.Test.YtldkgmodmpnclaaFrameB
namespace Go.Proofs.Ytldkgmodmpnclaa
open Go.RowKit Go.Proofs
set_option linter.unusedVariables false
set_option linter.unusedSimpArgs false
set_option maxHeartbeats 4000000 in
set_option maxRecDepth 100000 in
theorem decodes_calls (a : Option Addr) (n c : Nat) (s : ByteArray) (x0 : Int) (w : World) (h : Ls w a n c) (hs : s.size ≤ 140737488351232) (hx0 : (Lit.int .i64 x0).wf = true) :
    Calls Try.prog 11 #[.slice a n c, .string s, .int .i64 x0] w fun e w' => e = .returned (.bool true) ∧ Below w.heap.size w w' := by
  by_cases h6 : 600 < s.size
  · have hd : decide (600 < (s.size : Int)) = true := by simp; omega
    go_enter Try.func11, Try.ntmps11
    go_wp2_with fail
    refine (awake_calls _).mono ?_
    rintro e w1 ⟨rfl, hb1⟩
    go_wp2_with fail
    go_ret
    exact ⟨rfl, hb1⟩
  have hd : decide (600 < (s.size : Int)) = false := by simp; omega
  have H6 := Lib.hid h6
  clear h6
  obtain ⟨B0, hB0⟩ : ∃ B, w.heap.size = B := ⟨_, rfl⟩
  rw [hB0]
  go_enter Try.func11, Try.ntmps11
  go_wp2_with fail
  refine (awake_calls _).mono ?_
  rintro e w1 ⟨rfl, hb1⟩
  go_wp2_with fail
  refine (newCodes_calls a n c 160 _ (h.keep hb1) (by omega)).mono ?_
  rintro e w2 ⟨g, rfl, hg, hb2, hc2⟩
  have hF2 : Fr B0 g w w2 := Fr.of ((hb1.mono (by omega)).trans (hb2.mono (by have := hb1.size; omega))) hc2 (by have := hb1.size; omega)
  clear hb1 hb2 hg h hc2
  go_wp2_with fail
  refine (next_calls g 5 _ hF2.c (by omega) (by omega)).mono ?_
  rintro e w3 ⟨id, rfl, hi03, hi13, hk, hc⟩
  have hF3 := hF2.kb hk hc
  clear hk hc hF2
  go_wp2_with fail
  refine (cpage_calls g id _ hF3.c).mono ?_
  rintro e w4 ⟨p, rfl, hpidp, hpl, hpc, hk, hc⟩
  have hF4 := hF3.kb hk hc
  clear hk hc hF3
  have hokp : pageOk p = true := by
    unfold pageOk placed named
    rw [hpidp, hpl, hpc]
    simp [hi03]
    omega
  clear hpl hpc
  have HE1 := Lib.hid (fun W => encode02_calls p W)
  rw [pageErr_ok hokp] at HE1
  have hz := encP_size hokp
  obtain ⟨gd, hgd⟩ : ∃ gd, encP p = gd := ⟨_, rfl⟩
  rw [hgd] at HE1 hz
  clear hgd hokp hpidp
  have hF5 := (Fx.of hF4).new (pageC p) 59
  obtain ⟨Q, hQ⟩ : ∃ Q, w4.heap.size = Q := ⟨_, rfl⟩
  have hgQ : g < Q := by rw [← hQ]; exact hF4.lt
  rw [hQ] at hF5
  clear hF4
  have hQ5 := hF5.hd
  go_wp2_with (first
    | (refine wpList_alloc_row rfl 59 rfl (pageC Page.zero) zero59 ?_)
    | (refine wpList_store_row rfl 59 (.tmp 8) (.tmp 34) rfl _ (pageC p) rfl rfl _ _ (heap_alloc_new _ _) (page_size _) (by simp only [pageC_size]) (pageC_oneCell _) ?_; rw [World.setRow_alloc_new])
    | (refine wpList_load_row rfl 59 (.tmp 8) rfl _ rfl _ _ _ _ (by first | exact hQ5 | (rw [hQ]; exact hQ5)) Try.underlying59 rfl (page_size _) ?_))
  refine (HE1.out _).mono ?_
  rintro e w6 ⟨rfl, hb6⟩
  have hF6 := hF5.step hb6
  clear hF5 hQ5 hb6 HE1
  have HZ := Lib.hid hz
  clear hz
  go_wp2_with fail
  try rw [hQ]
  refine (spoilt_calls g gd _ hF6.c (by have := HZ.out; omega)).mono ?_
  rintro e w7 ⟨a1, rfl, hz1, hk, hc⟩
  have hF7 := hF6.kb hk hc
  have HZ1 := Lib.hid hz1
  clear hk hc hF6 hz1
  go_wp2_with fail
  refine (blank02_calls _).mono ?_
  rintro e w8 ⟨rfl, hb8⟩
  have hF8 := hF7.step hb8
  clear hb8 hF7
  have hzz := zeros_size 256
  obtain ⟨z, hz⟩ : ∃ z, zeros 256 = z := ⟨_, rfl⟩
  have hB2 := Lib.hid (fun W => blank02_calls W)
  rw [hz] at hzz hB2 ⊢
  have HZZ := Lib.hid hzz
  clear hz hzz
  go_wp2_with fail
  refine (spoilt_calls g z _ hF8.c (by have := HZZ.out; omega)).mono ?_
  rintro e w9 ⟨a2, rfl, hz2, hk, hc⟩
  have hF9 := hF8.kb hk hc
  have HZ2 := Lib.hid hz2
  clear hk hc hF8 hz2
  go_wp2_with fail
  refine (hB2.out _).mono ?_
  rintro e w10 ⟨rfl, hb10⟩
  have hF10 := hF9.step hb10
  clear hb10 hF9 hB2
  go_wp2_with fail
  refine (bytes_calls g _ hF10.c).mono ?_
  rintro e w11 ⟨a3, rfl, hz3, hk, hc⟩
  have hF11 := hF10.kb hk hc
  have HZ3 := Lib.hid hz3
  clear hk hc hF10 hz3
  go_wp2_with fail
  refine (next_calls g 257 _ hF11.c (by omega) (by omega)).mono ?_
  rintro e w12 ⟨k, rfl, hk0, hk1, hk, hc⟩
  have hF12 := hF11.kb hk hc
  clear hk hc hF11
  obtain ⟨k, rfl⟩ : ∃ m : Nat, k = m := ⟨k.toNat, by omega⟩
  have i1 : (k : Int) ≤ gd.size := by have := HZ.out; omega
  have i2 : k ≤ gd.size := by have := HZ.out; omega
  have hN := hF12.new (strC [s, gd, a1, a2, z, a3, gd.extract 0 k]) 9
  have hall : ∀ x ∈ [s, gd, a1, a2, z, a3, gd.extract 0 k], x.size ≤ 1000 := by
    have := H6.out; have := HZ.out; have := HZ1.out; have := HZZ.out; have := HZ2.out; have := HZ3.out
    have : (gd.extract 0 k).size ≤ 1000 := by rw [ByteArray.size_extract]; omega
    intro x hx
    simp only [List.mem_cons, List.not_mem_nil, or_false] at hx
    rcases hx with rfl | rfl | rfl | rfl | rfl | rfl | rfl <;> omega
  have HALL := Lib.hid hall
  clear hF12 hall
  go_wp2_with fail
  obtain ⟨SB, hSB⟩ : ∃ SB, w12.heap.size = SB := ⟨_, rfl⟩
  obtain ⟨W, hW⟩ : ∃ W, w12.alloc (.cells #[.string s, .string gd, .string a1, .string a2, .string z, .string a3, .string (gd.extract 0 k)] 9) = W := ⟨_, rfl⟩
  have hN2 : Fx B0 g [(SB, strO [s, gd, a1, a2, z, a3, gd.extract 0 k]), (Q, pgO p)] w W := by rw [← hW, ← hSB]; exact hN
  rw [hW]
  try rw [hSB]
  clear hN hW hSB
  obtain ⟨ss, hss⟩ : ∃ ss, [s, gd, a1, a2, z, a3, gd.extract 0 k] = ss := ⟨_, rfl⟩
  have hsl : ss.length = 7 := by rw [← hss]; rfl
  have HSL := Lib.hid hsl
  rw [hss] at hN2 HALL
  clear hss hsl
  go_loopw [57] (fun i wr => ∃ j : Nat, j ≤ 7 ∧ i = .int .i64 j ∧ Fx B0 g [(SB, strO ss), (Q, pgO p)] w wr) (fun i _ => 7 - (intOf i).toNat)
  case atStart => exact ⟨0, by omega, rfl, hN2⟩
  case round =>
    clear hN2
    obtain ⟨j, hj, rfl, hF⟩ := hrel
    by_cases hj7 : j < 7
    · have hdec : decide ((j : Int) < 7) = true := by simp; omega
      obtain ⟨x, hx⟩ : ∃ x, ss[j]? = some x := ⟨ss[j]'(by rw [HSL.out]; exact hj7), by simp [HSL.out, hj7]⟩
      have hcx := str_cell hF.hd j x hx
      have HX := Lib.hid (HALL.out x (List.mem_of_getElem? hx))
      have HD1 := Lib.hid (fun W => decode_calls x W (by have := HX.out; omega))
      have HD2 := Lib.hid (fun W => decode02_calls x W (by have := HX.out; omega))
      have hwf := decP_wf x
      unfold ansP at HD1 HD2
      obtain ⟨d, hd⟩ : ∃ d, (decP x).1 = d := ⟨_, rfl⟩
      obtain ⟨er, her⟩ : ∃ er, (decP x).2 = er := ⟨_, rfl⟩
      rw [hd, her] at HD1 HD2
      rw [hd] at hwf
      clear hd her hx
      go_wp2_with fail
      refine (HD1.out _).mono ?_
      rintro e wa ⟨rfl, hba⟩
      have hFa := (hF.step hba).new (pageC d) 59
      obtain ⟨D, hD⟩ : ∃ D, wa.heap.size = D := ⟨_, rfl⟩
      have hgD : g < D := by rw [← hD]; exact (hF.step hba).f.lt
      have hSD : SB < D := by rw [← hD]; exact heap_lt (hF.step hba).hd
      have hQD : Q < D := by rw [← hD]; exact heap_lt (hF.step hba).hd2
      rw [hD] at hFa
      clear hF hba hcx HD1
      go_wp2_with (first
        | (refine wpList_alloc_row rfl 59 rfl (pageC Page.zero) zero59 ?_)
        | (refine wpList_store_row rfl 59 (.tmp 13) (.tmp 64) rfl _ (pageC d) rfl rfl _ _ (heap_alloc_new _ _) (page_size _) (by simp only [pageC_size]) (pageC_oneCell _) ?_; rw [World.setRow_alloc_new]))
      refine (HD2.out _).mono ?_
      rintro e wb ⟨rfl, hbb⟩
      have hFb := (hFa.step hbb).new (pageC d) 59
      obtain ⟨F, hFe⟩ : ∃ F, wb.heap.size = F := ⟨_, rfl⟩
      have hDF : D < F := by rw [← hFe]; exact heap_lt (hFa.step hbb).hd
      rw [hFe] at hFb
      clear hFa hbb HD2
      have hen : (er != er) = false := by simp
      go_wp2_with (first
        | (refine wpList_alloc_row rfl 59 rfl (pageC Page.zero) zero59 ?_)
        | (refine wpList_store_row rfl 59 (.tmp 15) (.tmp 69) rfl _ (pageC d) rfl rfl _ _ (heap_alloc_new _ _) (page_size _) (by simp only [pageC_size]) (pageC_oneCell _) ?_; rw [World.setRow_alloc_new])
        | (refine wpList_load_row rfl 59 (.tmp 13) rfl _ rfl _ _ _ _ (by first | exact hFb.hd2 | (rw [hD]; exact hFb.hd2)) Try.underlying59 rfl (page_size _) ?_)
        | (refine wpList_load_row rfl 59 (.tmp 15) rfl _ rfl _ _ _ _ (by first | exact hFb.hd | (rw [hFe]; exact hFb.hd)) Try.underlying59 rfl (page_size _) ?_)
        | (refine wpList_same59 (by rfl) (.tmp 71) (.tmp 72) 59 rfl d rfl rfl hwf ?_))
      obtain ⟨W3, hW3⟩ : ∃ W, wb.alloc (.cells (pageC d) 59) = W := ⟨_, rfl⟩
      rw [hW3] at hFb ⊢
      try rw [hD]
      try rw [hFe]
      refine wp_region_held_drew (S := Fx B0 g [(F, pgO d), (D, pgO d), (SB, strO ss), (Q, pgO p)] w) (by kernel_rfl) hFb.drew (fun hHeld => ?_)
      refine Held.takeL (i := 0) (v := ?_) rfl (by kernel_rfl) (by kernel_rfl) (by kernel_rfl) (fun _ _ _ h => h) (.inl ⟨by kernel_rfl, ?_⟩) (by assumption) ?_
      rotate_left
      · (intro w_ hSw; go_simp; first | done | with_reducible rfl)
      try simp only [Act.put, List.setIfInBounds_toArray, List.set_cons_zero, List.set_cons_succ]
      refine Held.takeL (i := 1) (v := ?_) rfl (by kernel_rfl) (by kernel_rfl) (by kernel_rfl) (fun _ _ _ h => h) (.inl ⟨by kernel_rfl, ?_⟩) (by assumption) ?_
      rotate_left
      · (intro w_ hSw; go_simp; first | done | with_reducible rfl)
      try simp only [Act.put, List.setIfInBounds_toArray, List.set_cons_zero, List.set_cons_succ]
      refine Held.takeL (i := 2) (v := ?_) rfl (by kernel_rfl) (by kernel_rfl) (by kernel_rfl) (fun _ _ _ h => h) (.inl ⟨by kernel_rfl, ?_⟩) (by assumption) ?_
      rotate_left
      · (intro w_ hSw; have hcid := PgAt.id (show PgAt w_ Q p from hSw.get (by simp)); go_simp; first | done | with_reducible rfl)
      try simp only [Act.put, List.setIfInBounds_toArray, List.set_cons_zero, List.set_cons_succ]
      refine Held.takeL (i := 3) (v := ?_) rfl (by kernel_rfl) (by kernel_rfl) (by kernel_rfl) (fun _ _ _ h => h) (.inl ⟨by kernel_rfl, ?_⟩) (by assumption) ?_
      rotate_left
      · (intro w_ hSw; go_simp; first | done | with_reducible rfl)
      try simp only [Act.put, List.setIfInBounds_toArray, List.set_cons_zero, List.set_cons_succ]
      refine Held.takeL (i := 7) (v := ?_) rfl (by kernel_rfl) (by kernel_rfl) (by kernel_rfl) (fun _ _ _ h => h) (.inl ⟨by kernel_rfl, ?_⟩) (by assumption) ?_
      rotate_left
      · (intro w_ hSw; go_simp; first | done | with_reducible rfl)
      try simp only [Act.put, List.setIfInBounds_toArray, List.set_cons_zero, List.set_cons_succ]
      refine wpAnyH_ready (rs := [4]) (by kernel_rfl) (by simp) ?_
      refine Held.consL rfl (fun K hK => ?_) AllReadyH.nil
      go_simp
      refine (next_calls g 5 _ hHeld.c (by omega) (by omega)).mono ?_
      rintro e_ w13 ⟨r, rfl, hr0, hr1, hk, hc⟩
      have hH := hHeld.kb hk hc
      clear hk hc
      refine hK.out _ _ hH (fun hHeld => ?_)
      clear hK K
      try simp only [Act.put, List.setIfInBounds_toArray, List.set_cons_zero, List.set_cons_succ]
      clear hH
      refine wpAnyH_ready (rs := [5]) (by kernel_rfl) (by simp) ?_
      refine Held.consL rfl (fun K hK => ?_) AllReadyH.nil
      have hK13 := hHeld
      go_simp
      refine hK.out _ _ (hHeld.alloc _) (fun hHeld => ?_)
      clear hK K
      try simp only [Act.put, List.setIfInBounds_toArray, List.set_cons_zero, List.set_cons_succ]
      refine Held.takeL (i := 6) (v := ?_) rfl (by kernel_rfl) (by kernel_rfl) (by kernel_rfl) (fun _ _ _ h => h) (.inl ⟨by kernel_rfl, ?_⟩) (by assumption) ?_
      rotate_left
      · (intro w_ hSw; go_simp; first | done | with_reducible rfl)
      try simp only [Act.put, List.setIfInBounds_toArray, List.set_cons_zero, List.set_cons_succ]
      refine wpAnyH_done (by kernel_rfl) ?_ _
      have hM := hK13.new (intC [x0, p.id, r]) 3
      obtain ⟨IB, hIB⟩ : ∃ IB, w13.heap.size = IB := ⟨_, rfl⟩
      obtain ⟨W4, hW4⟩ : ∃ W, w13.alloc (.cells #[.int .i64 x0, .int .i64 p.id, .int .i64 r] 3) = W := ⟨_, rfl⟩
      have hM2 : Fx B0 g [(F, pgO d), (D, pgO d), (IB, intO [x0, p.id, r]), (SB, strO ss), (Q, pgO p)] w W4 := by
        have hM3 : Fx B0 g [(IB, intO [x0, p.id, r]), (F, pgO d), (D, pgO d), (SB, strO ss), (Q, pgO p)] w W4 := by rw [← hW4, ← hIB]; exact hM
        exact hM3.sub fun y hy => by simp only [List.mem_cons, List.not_mem_nil, or_false] at hy; rcases hy with rfl | rfl | rfl | rfl | rfl <;> simp
      have hFI : F < IB := by rw [← hIB]; exact heap_lt hK13.hd
      rw [hW4]
      try rw [hIB]
      clear hM hK13 hW4 hIB hHeld hFb
      obtain ⟨is, his⟩ : ∃ is, [x0, p.id, r] = is := ⟨_, rfl⟩
      have hil : is.length = 3 := by rw [← his]; rfl
      have HIL := Lib.hid hil
      rw [his] at hM2
      clear his hil hwf
      go_wp2_with fail
      go_loopw [14, 16, 86] (fun _ _ i wr => ∃ (m : Nat) (d1 d2 : Page), m ≤ 3 ∧ i = .int .i64 m ∧ Fx B0 g [(F, pgO d2), (D, pgO d1), (IB, intO is), (SB, strO ss), (Q, pgO p)] w wr) (fun _ _ i _ => 3 - (intOf i).toNat)
      case atStart => exact ⟨0, d, d, by omega, rfl, hM2⟩
      case round =>
        clear hM2
        obtain ⟨m, d1, d2, hm, rfl, hF⟩ := hrel
        by_cases hm3 : m < 3
        · have hdec : decide ((m : Int) < 3) = true := by simp; omega
          obtain ⟨k, hk⟩ : ∃ k, is[m]? = some k := ⟨is[m]'(by rw [HIL.out]; exact hm3), by simp [HIL.out, hm3]⟩
          have hck := int_cell (hF.get (b := IB) (o := intO is) (by simp)) m k hk
          have HI1 := Lib.hid (fun W => identify_calls x k W (by have := HX.out; omega))
          have HI2 := Lib.hid (fun W => identify02_calls x k W (by have := HX.out; omega))
          have hwf := idP_wf x k
          unfold ansP at HI1 HI2
          obtain ⟨y, hy⟩ : ∃ y, (idP x k).1 = y := ⟨_, rfl⟩
          obtain ⟨ey, hey⟩ : ∃ ey, (idP x k).2 = ey := ⟨_, rfl⟩
          rw [hy, hey] at HI1 HI2
          rw [hy] at hwf
          clear hy hey hk
          go_wp2_with fail
          refine (HI1.out _).mono ?_
          rintro e_ wc ⟨rfl, hbc⟩
          have hFc := (hF.step hbc).swap
          have hFd := (hFc.row (cs := pageC y) hgD (fun z hz => by simp only [List.mem_cons, List.not_mem_nil, or_false] at hz; rcases hz with rfl | rfl | rfl | rfl <;> simp <;> omega)).swap
          clear hF hbc hck HI1
          go_wp2_with (refine wpList_store_row rfl 59 (.tmp 13) (.tmp 94) rfl D (pageC y) rfl rfl _ _ hFc.hd (page_size _) (by simp only [pageC_size]) (pageC_oneCell _) ?_)
          refine (HI2.out _).mono ?_
          rintro e_ we ⟨rfl, hbe⟩
          have hFe2 := hFd.step hbe
          have hFf := hFe2.row (cs := pageC y) (by omega : g < F) (fun z hz => by simp only [List.mem_cons, List.not_mem_nil, or_false] at hz; rcases hz with rfl | rfl | rfl | rfl <;> simp <;> omega)
          have hen : (ey != ey) = false := by simp
          clear hFc hFd hbe HI2
          go_wp2_with (first
            | (refine wpList_store_row rfl 59 (.tmp 15) (.tmp 100) rfl F (pageC y) rfl rfl _ _ hFe2.hd (page_size _) (by simp only [pageC_size]) (pageC_oneCell _) ?_)
            | (refine wpList_load_row rfl 59 (.tmp 13) rfl D rfl _ _ _ _ hFf.hd2 Try.underlying59 rfl (page_size _) ?_)
            | (refine wpList_load_row rfl 59 (.tmp 15) rfl F rfl _ _ _ _ hFf.hd Try.underlying59 rfl (page_size _) ?_)
            | (refine wpList_same59 (by rfl) (.tmp 102) (.tmp 103) 59 rfl y rfl rfl hwf ?_))
          go_roundw
          case rel => exact ⟨m + 1, y, y, by omega, by go_num, hFf⟩
          case measure => simp [intOf]; omega
        · have hdec : decide ((m : Int) < 3) = false := by simp; omega
          go_wp2_with fail
          go_roundw
          case rel => exact ⟨j + 1, by omega, by go_num, hF.sub fun y hy => by simp only [List.mem_cons, List.not_mem_nil, or_false] at hy; rcases hy with rfl | rfl <;> simp⟩
          case measure => simp [intOf]; omega
    · have hdec : decide ((j : Int) < 7) = false := by simp; omega
      go_wp2_with fail
      go_ret
      exact ⟨rfl, hF.out⟩
end Go.Proofs.Ytldkgmodmpnclaa
