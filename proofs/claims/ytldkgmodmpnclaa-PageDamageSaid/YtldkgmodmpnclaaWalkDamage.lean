/- PageDamage's walk: bytes in which one byte was changed are refused. -/
import Derived.Test.YtldkgmodmpnclaaHeldB
import Derived.Test.YtldkgmodmpnclaaPlainD
import Derived.Test.YtldkgmodmpnclaaArgs
namespace Go.Proofs.Ytldkgmodmpnclaa
open Go.RowKit Go.Proofs
set_option linter.unusedVariables false
set_option linter.unusedSimpArgs false
/-- Bytes of a page's length that are refused when one is changed. -/
def Dmg (x : ByteArray) : Prop := x.size = 256 ∧ ∀ k, k < 256 → ∀ y, y ≠ bt x k → refused (decP (dmg x k y)).2
theorem dmg_enc {p : Page} (h : pageOk p = true) : Dmg (encP p) := by
  refine ⟨encP_size h, ?_⟩
  rw [encP_ok h]
  exact fun k hk y hy => enc_damage h hk hy
theorem dmg_blank : Dmg (zeros 256) := ⟨zeros_size _, fun k hk y hy => blank_damage hk hy⟩
theorem bits_xor8 {a b : Nat} (ha : a < 256) (hb : b < 256) : bits .xor .u8 (a : Int) (b : Int) = ((a ^^^ b : Nat) : Int) ∧ a ^^^ b < 256 := by
  have hx : a ^^^ b < 256 := Nat.xor_lt_two_pow (n := 8) ha hb
  refine ⟨?_, hx⟩
  simp only [bits, BitVec.ofInt_natCast, BitVec.toNat_xor, BitVec.toNat_ofNat]
  rw [show IntKind.u8.bits = 8 from rfl, Nat.mod_eq_of_lt (a := a) (by simpa using ha), Nat.mod_eq_of_lt (a := b) (by simpa using hb), IntKind.wrap_u8]
  omega
theorem xor_other {a : UInt8} {b z : Int} (h0 : 0 < b) (h1 : b < 256) (hz : bits .xor .u8 (a.toNat : Int) b = z) : UInt8.ofNat z.toNat ≠ a := by
  obtain ⟨m, rfl⟩ : ∃ m : Nat, b = m := ⟨b.toNat, by omega⟩
  have ha := byte_lt a
  obtain ⟨e, hl⟩ := bits_xor8 ha (b := m) (by omega)
  rw [e] at hz
  subst hz
  intro h
  have h2 : a.toNat ^^^ m = a.toNat := by
    have := congrArg UInt8.toNat h
    rw [UInt8.toNat_ofNat', Int.toNat_natCast, Nat.mod_eq_of_lt (by simpa using hl)] at this
    exact this
  have h3 : a.toNat ^^^ m = a.toNat ^^^ 0 := by rw [h2, Nat.xor_zero]
  have := xor_left_inj h3
  omega
set_option maxHeartbeats 4000000 in
set_option maxRecDepth 100000 in
theorem damage_calls (a : Option Addr) (n c : Nat) (v b : Int) (w : World) (h : Ls w a n c) (hv0 : 0 ≤ v) (hv1 : v < 256) (hb0 : 0 ≤ b) (hb1 : b < 256) :
    Calls Try.prog 10 #[.slice a n c, .int .u8 v, .int .u8 b] w fun e w' => e = .returned (.bool true) ∧ Below w.heap.size w w' := by
  obtain ⟨B0, hB0⟩ : ∃ B, w.heap.size = B := ⟨_, rfl⟩
  rw [hB0]
  obtain ⟨kn, rfl⟩ : ∃ m : Nat, v = m := ⟨v.toNat, by omega⟩
  by_cases hbz : b = 0
  · have hd : (b == 0) = true := by rw [hbz]; rfl
    have H := Lib.hid hbz; clear hbz
    go_enter Try.func10, Try.ntmps10
    go_wp2_with fail
    refine (awake_calls _).mono ?_
    rintro e w1 ⟨rfl, hb1⟩
    go_wp2_with fail
    go_ret
    exact ⟨rfl, by rwa [hB0] at hb1⟩
  · have hd : (b == 0) = false := by simpa using hbz
    have H := Lib.hid hbz; clear hbz
    go_enter Try.func10, Try.ntmps10
    go_wp2_with fail
    refine (awake_calls _).mono ?_
    rintro e w1 ⟨rfl, hb1⟩
    go_wp2_with fail
    refine (newCodes_calls a n c 100 _ (h.keep hb1) (by omega)).mono ?_
    rintro e w2 ⟨g, rfl, hg, hb2, hc2⟩
    have hs1 := hb1.size
    have hBg : B0 ≤ g := by omega
    have hB2 : Below B0 w w2 := (hb1.mono (by omega)).trans (hb2.mono (by omega))
    have hs2 := hB2.size
    clear hb1 hb2 hg h
    go_wp2_with fail
    refine (next_calls g 64 _ hc2 (by omega) (by omega)).mono ?_
    rintro e w3 ⟨id, rfl, hi0, hi1, hk3, hc3⟩
    have hB3 := hB2.trans (hk3.below (by omega) hBg)
    have hs3 := hB3.size
    clear hk3 hc2 hB2
    go_wp2_with fail
    refine (cpage_calls g id _ hc3).mono ?_
    rintro e w4 ⟨p, rfl, hpid, hpl, hpc, hk4, hc4⟩
    have hB4 := hB3.trans (hk4.below (by omega) hBg)
    have hs4 := hB4.size
    clear hk4 hc3 hB3 hc4
    have hok : pageOk p = true := by
      unfold pageOk placed named
      rw [hpid, hpl, hpc]
      simp [hi0]
      omega
    clear hpid hpl hpc hi0 hi1
    have HE1 := Lib.hid (fun W => encode_calls p W)
    rw [pageErr_ok hok] at HE1
    have hD := Lib.hid (dmg_enc hok)
    obtain ⟨s, hs⟩ : ∃ s, encP p = s := ⟨_, rfl⟩
    rw [hs] at HE1 hD
    clear hs hok
    go_wp2_with fail
    refine (HE1.out _).mono ?_
    rintro e w5 ⟨rfl, hb5⟩
    have hB5 := hB4.trans (hb5.mono (by omega))
    have hs5 := hB5.size
    clear hB4 hb5 HE1
    go_wp2_with fail
    refine (blank_calls _).mono ?_
    rintro e w6 ⟨rfl, hb6⟩
    have hB6 := hB5.trans (hb6.mono (by omega))
    have hs6 := hB6.size
    clear hB5 hb6
    have hZ := Lib.hid dmg_blank
    obtain ⟨z, hz⟩ : ∃ z, zeros 256 = z := ⟨_, rfl⟩
    rw [hz] at hZ ⊢
    clear hz
    go_wp2_with fail
    obtain ⟨SB, hSB⟩ : ∃ SB, w6.heap.size = SB := ⟨_, rfl⟩
    have hS0 : (w6.alloc (.cells #[.string s, .string z] 9)).heap[SB]? = some (.cells #[.string s, .string z] 9 (0, 0)) := by rw [← hSB]; exact heap_alloc_new _ _
    have hBs : Below B0 w (w6.alloc (.cells #[.string s, .string z] 9)) := hB6.alloc (by omega) _
    rw [hSB]
    have hB0w : B0 ≤ w.heap.size := by omega
    clear hSB hB6 hs1 hs2 hs3 hs4 hs5 hs6 hBg hB0
    go_loopw [37] (fun i wr => ∃ j : Nat, j ≤ 2 ∧ i = .int .i64 j ∧ wr.heap[SB]? = some (.cells #[.string s, .string z] 9 (0, 0)) ∧ Below B0 w wr) (fun i _ => 2 - (intOf i).toNat)
    case atStart => exact ⟨0, by omega, rfl, hS0, hBs⟩
    case round =>
      clear hS0 hBs
      obtain ⟨j, hj, rfl, hS, hBr⟩ := hrel
      have hsr := hBr.size
      by_cases hj2 : j < 2
      · obtain ⟨x, hcx, HX⟩ : ∃ x, wr.cell? ⟨SB, j, none⟩ = some (.string x) ∧ Hid (Dmg x) := by
          rcases (show j = 0 ∨ j = 1 by omega) with rfl | rfl
          · exact ⟨s, by rw [heap_cell hS]; rfl, hD⟩
          · exact ⟨z, by rw [heap_cell hS]; rfl, hZ⟩
        have HS := Lib.hid hS; clear hS hD hZ
        obtain ⟨hxz, hxd⟩ := HX.out
        have hdec : decide ((j : Int) < 2) = true := by simp; omega
        have hxn : ((x.size : Int) != 256) = false := by rw [hxz]; rfl
        have hkx : kn < x.size := by omega
        obtain ⟨zz, hzz⟩ : ∃ zz, bits .xor .u8 ((bt x kn).toNat : Int) b = zz := ⟨_, rfl⟩
        have hy := xor_other (by have := H.out; omega) hb1 hzz
        have hr := hxd kn (by omega) _ hy
        have HD := Lib.hid (fun W => decode_calls (dmg x kn (UInt8.ofNat zz.toNat)) W (by rw [dmg_size _ _ _ hkx]; omega))
        unfold ansP at HD
        obtain ⟨d, hd'⟩ : ∃ d, (decP (dmg x kn (UInt8.ofNat zz.toNat))).1 = d := ⟨_, rfl⟩
        obtain ⟨er, her⟩ : ∃ er, (decP (dmg x kn (UInt8.ofNat zz.toNat))).2 = er := ⟨_, rfl⟩
        rw [hd', her] at HD
        rw [her] at hr
        unfold dmg at HD
        obtain ⟨hr0, hr7⟩ := hr
        have he0 : (er == 0) = false := by simpa using hr0
        have he7 : (er == 7) = false := by simpa using hr7
        have i0 : (0 : Int) ≤ (kn : Int) := by omega
        have i1 : (kn : Int) ≤ x.size := by omega
        have i2 : kn ≤ x.size := by omega
        have i3 : IntKind.i64.wrap ((kn : Int) + 1) = (kn : Int) + 1 := IntWalk.i64_in _ (by omega)
        have i4 : (0 : Int) ≤ (kn : Int) + 1 := by omega
        have i5 : (kn : Int) + 1 ≤ x.size := by omega
        have i6 : ((kn : Int) + 1).toNat = kn + 1 := by omega
        have i7 : (x.extract 0 kn).size = kn := by rw [ByteArray.size_extract]; omega
        have i8 : (x.extract (kn + 1) x.size).size = x.size - (kn + 1) := by rw [ByteArray.size_extract]; omega
        have n1 : ¬ 9223372036854775807 < kn + 1 := by omega
        have n2 : ¬ 9223372036854775807 < kn + 1 + (x.size - (kn + 1)) := by omega
        have i9 : (kn : Int) < x.size := by omega
        have HZ := Lib.hid hzz
        have HXZ := Lib.hid hxz
        clear hxz HX hxd hy hd' her hr0 hr7 hzz
        go_wp2_with fail
        have hsr' : B0 ≤ wr.heap.size := Nat.le_trans hB0w hsr
        have hKW : ∀ w', Kp wr.heap.size wr w' → w'.heap[SB]? = some (.cells #[.string s, .string z] 9 (0, 0)) := fun w' h => (h.below.block SB (heap_lt HS.out)).trans HS.out
        refine wp_region_held_drew (S := Kp wr.heap.size wr) (by kernel_rfl) (Kp.start wr _ (Nat.le_refl _)) (fun hHeld => ?_)
        refine Held.takeL (i := 0) (v := ?_) rfl (by kernel_rfl) (by kernel_rfl) (by kernel_rfl) (fun _ _ _ h => h) (.inl ⟨by kernel_rfl, ?_⟩) (by assumption) ?_
        rotate_left
        · (intro w_ hSw; go_simp; first | done | with_reducible rfl)
        try simp only [Act.put, List.setIfInBounds_toArray, List.set_cons_zero, List.set_cons_succ]
        refine Held.takeL (i := 1) (v := ?_) rfl (by kernel_rfl) (by kernel_rfl) (by kernel_rfl) (fun _ _ _ h => h) (.inl ⟨by kernel_rfl, ?_⟩) (by assumption) ?_
        rotate_left
        · (intro w_ hSw; go_simp; first | done | with_reducible rfl)
        try simp only [Act.put, List.setIfInBounds_toArray, List.set_cons_zero, List.set_cons_succ]
        refine Held.takeL (i := 2) (v := ?_) rfl (by kernel_rfl) (by kernel_rfl) (by kernel_rfl) (fun _ _ _ h => h) (.inl ⟨by kernel_rfl, ?_⟩) (by assumption) ?_
        rotate_left
        · (intro w_ hSw; go_simp; first | done | with_reducible rfl)
        try simp only [Act.put, List.setIfInBounds_toArray, List.set_cons_zero, List.set_cons_succ]
        refine Held.takeL (i := 3) (v := ?_) rfl (by kernel_rfl) (by kernel_rfl) (by kernel_rfl) (fun _ _ _ h => h) (.inl ⟨by kernel_rfl, ?_⟩) (by assumption) ?_
        rotate_left
        · (intro w_ hSw; go_simp; first | done | with_reducible rfl)
        try simp only [Act.put, List.setIfInBounds_toArray, List.set_cons_zero, List.set_cons_succ]
        refine Held.takeL (i := 4) (v := ?_) rfl (by kernel_rfl) (by kernel_rfl) (by kernel_rfl) (fun _ _ _ h => h) (.inl ⟨by kernel_rfl, ?_⟩) (by assumption) ?_
        rotate_left
        · (intro w_ hSw; go_simp; first | done | with_reducible rfl)
        try simp only [Act.put, List.setIfInBounds_toArray, List.set_cons_zero, List.set_cons_succ]
        refine Held.takeL (i := 5) (v := .int .u8 ((bt x kn).toNat : Int)) rfl (by kernel_rfl) (by kernel_rfl) (by kernel_rfl) (fun _ _ _ h => h) (.inl ⟨by kernel_rfl, ?_⟩) (by assumption) ?_
        · (intro w_ hSw; have hbg := bt_get x kn hkx; go_simp; first | done | (rw [hbg]))
        try simp only [Act.put, List.setIfInBounds_toArray, List.set_cons_zero, List.set_cons_succ]
        refine Held.takeL (i := 6) (v := ?_) rfl (by kernel_rfl) (by kernel_rfl) (by kernel_rfl) (fun _ _ _ h => h) (.inl ⟨by kernel_rfl, ?_⟩) (by assumption) ?_
        rotate_left
        · (intro w_ hSw; go_simp; first | done | with_reducible rfl)
        try simp only [Act.put, List.setIfInBounds_toArray, List.set_cons_zero, List.set_cons_succ]
        refine Held.takeL (i := 7) (v := .int .u8 zz) rfl (by kernel_rfl) (by kernel_rfl) (by kernel_rfl) (fun _ _ _ h => h) (.inl ⟨by kernel_rfl, ?_⟩) (by assumption) ?_
        · (intro w_ hSw; have hzz := HZ.out; go_simp)
        try simp only [Act.put, List.setIfInBounds_toArray, List.set_cons_zero, List.set_cons_succ]
        refine Held.takeL (i := 11) (v := ?_) rfl (by kernel_rfl) (by kernel_rfl) (by kernel_rfl) (fun _ _ _ h => h) (.inl ⟨by kernel_rfl, ?_⟩) (by assumption) ?_
        rotate_left
        · (intro w_ hSw; go_simp; first | done | with_reducible rfl)
        try simp only [Act.put, List.setIfInBounds_toArray, List.set_cons_zero, List.set_cons_succ]
        refine Held.takeL (i := 12) (v := ?_) rfl (by kernel_rfl) (by kernel_rfl) (by kernel_rfl) (fun _ _ _ h => h) (.inl ⟨by kernel_rfl, ?_⟩) (by assumption) ?_
        rotate_left
        · (intro w_ hSw; go_simp; first | done | with_reducible rfl)
        try simp only [Act.put, List.setIfInBounds_toArray, List.set_cons_zero, List.set_cons_succ]
        refine Held.takeL (i := 13) (v := ?_) rfl (by kernel_rfl) (by kernel_rfl) (by kernel_rfl) (fun _ _ _ h => h) (.inl ⟨by kernel_rfl, ?_⟩) (by assumption) ?_
        rotate_left
        · (intro w_ hSw; go_simp; first | done | with_reducible rfl)
        try simp only [Act.put, List.setIfInBounds_toArray, List.set_cons_zero, List.set_cons_succ]
        refine Held.takeL (i := 14) (v := ?_) rfl (by kernel_rfl) (by kernel_rfl) (by kernel_rfl) (fun _ _ _ h => h) (.inl ⟨by kernel_rfl, ?_⟩) (by assumption) ?_
        rotate_left
        · (intro w_ hSw; go_simp; first | done | with_reducible rfl)
        try simp only [Act.put, List.setIfInBounds_toArray, List.set_cons_zero, List.set_cons_succ]
        refine wpAnyH_ready (rs := [8, 20]) (by kernel_rfl) (by simp) ?_
        refine Held.consL rfl (fun K hK => ?_) (Held.consL rfl (fun K hK => ?_) AllReadyH.nil)
        · rw [if_pos (by kernel_rfl)]
          refine wp_byte1 (.tmp 54) rfl zz (by rfl) ?_
          intro N w8 hNl hN hb8
          refine hK.out _ _ (hHeld.step hb8) (fun hHeld => ?_)
          clear hK K
          try simp only [Act.put, List.setIfInBounds_toArray, List.set_cons_zero, List.set_cons_succ]
          refine wpAnyH_ready (rs := [9, 20]) (by kernel_rfl) (by simp) ?_
          refine Held.consL rfl (fun K hK => ?_) (Held.consL rfl (fun K hK => ?_) AllReadyH.nil)
          · have hcv := conv_byte_at _ N zz hN
            go_simp
            refine hK.out _ _ hHeld (fun hHeld => ?_)
            clear hK K
            try simp only [Act.put, List.setIfInBounds_toArray, List.set_cons_zero, List.set_cons_succ]
            refine Held.takeL (i := 10) (v := ?_) rfl (by kernel_rfl) (by kernel_rfl) (by kernel_rfl) (fun _ _ _ h => h) (.inl ⟨by kernel_rfl, ?_⟩) (by assumption) ?_
            rotate_left
            · (intro w_ hSw; go_simp; first | done | with_reducible rfl)
            try simp only [Act.put, List.setIfInBounds_toArray, List.set_cons_zero, List.set_cons_succ]
            refine Held.takeL (i := 15) (v := ?_) rfl (by kernel_rfl) (by kernel_rfl) (by kernel_rfl) (fun _ _ _ h => h) (.inl ⟨by kernel_rfl, ?_⟩) (by assumption) ?_
            rotate_left
            · (intro w_ hSw; go_simp; first | done | with_reducible rfl)
            try simp only [Act.put, List.setIfInBounds_toArray, List.set_cons_zero, List.set_cons_succ]
            refine wpAnyH_ready (rs := [16, 20]) (by kernel_rfl) (by simp) ?_
            refine Held.consL rfl (fun K hK => ?_) (Held.consL rfl (fun K hK => ?_) AllReadyH.nil)
            · go_simp
              refine (HD.out _).mono ?_
              rintro e_ w16 ⟨rfl, hb16⟩
              have hN_16 := (hb16.block _ (heap_lt hN)).trans hN
              refine hK.out _ _ (hHeld.step hb16) (fun hHeld => ?_)
              clear hK K
              try simp only [Act.put, List.setIfInBounds_toArray, List.set_cons_zero, List.set_cons_succ]
              refine Held.takeL (i := 17) (v := ?_) rfl (by kernel_rfl) (by kernel_rfl) (by kernel_rfl) (fun _ _ _ h => h) (.inl ⟨by kernel_rfl, ?_⟩) (by assumption) ?_
              rotate_left
              · (intro w_ hSw; go_simp; first | done | with_reducible rfl)
              try simp only [Act.put, List.setIfInBounds_toArray, List.set_cons_zero, List.set_cons_succ]
              refine Held.takeL (i := 18) (v := ?_) rfl (by kernel_rfl) (by kernel_rfl) (by kernel_rfl) (fun _ _ _ h => h) (.inl ⟨by kernel_rfl, ?_⟩) (by assumption) ?_
              rotate_left
              · (intro w_ hSw; go_simp; first | done | with_reducible rfl)
              try simp only [Act.put, List.setIfInBounds_toArray, List.set_cons_zero, List.set_cons_succ]
              refine Held.takeL (i := 19) (v := ?_) rfl (by kernel_rfl) (by kernel_rfl) (by kernel_rfl) (fun _ _ _ h => h) (.inl ⟨by kernel_rfl, ?_⟩) (by assumption) ?_
              rotate_left
              · (intro w_ hSw; go_simp; first | done | with_reducible rfl)
              try simp only [Act.put, List.setIfInBounds_toArray, List.set_cons_zero, List.set_cons_succ]
              refine wpAnyH_ready (rs := [20]) (by kernel_rfl) (by simp) ?_
              refine Held.consL rfl (fun K hK => ?_) AllReadyH.nil
              rw [if_pos (by kernel_rfl)]
              refine wp_alloc_new 59 rfl (pageC Page.zero) zero59 ?_
              intro D w20 hDl hD hb20
              have hDB : wr.heap.size ≤ D := Nat.le_trans hHeld.size hDl
              have hN_20 := (hb20.block _ (heap_lt hN_16)).trans hN_16
              refine hK.out _ _ (hHeld.step hb20) (fun hHeld => ?_)
              clear hK K
              try simp only [Act.put, List.setIfInBounds_toArray, List.set_cons_zero, List.set_cons_succ]
              refine wpAnyH_ready (rs := [21]) (by kernel_rfl) (by simp) ?_
              refine Held.consL rfl (fun K hK => ?_) AllReadyH.nil
              rw [if_pos (by kernel_rfl)]
              refine wp_store_page (.tmp 13) (.tmp 64) rfl D d Page.zero (by rfl) (by rfl) hD ?_
              intro w21 hD21 hk21
              have hK21 : Kp wr.heap.size wr w21 := Kp.put hHeld hDB hk21
              refine hK.out _ _ hK21 (fun hHeld => ?_)
              clear hK K
              try simp only [Act.put, List.setIfInBounds_toArray, List.set_cons_zero, List.set_cons_succ]
              refine Held.takeL (i := 22) (v := ?_) rfl (by kernel_rfl) (by kernel_rfl) (by kernel_rfl) (fun _ _ _ h => h) (.inl ⟨by kernel_rfl, ?_⟩) (by assumption) ?_
              rotate_left
              · (intro w_ hSw; go_simp; first | done | with_reducible rfl)
              try simp only [Act.put, List.setIfInBounds_toArray, List.set_cons_zero, List.set_cons_succ]
              refine wpAnyH_done (by kernel_rfl) ?_ _
              go_wp2_with fail
              go_roundw
              case rel => exact ⟨j + 1, by omega, by go_num, hKW _ hK21, hBr.trans (hK21.below.mono hsr')⟩
              case measure => simp [intOf]; omega
            · rw [if_pos (by kernel_rfl)]
              refine wp_alloc_new 59 rfl (pageC Page.zero) zero59 ?_
              intro D w20 hDl hD hb20
              have hDB : wr.heap.size ≤ D := Nat.le_trans hHeld.size hDl
              have hN_20 := (hb20.block _ (heap_lt hN)).trans hN
              refine hK.out _ _ (hHeld.step hb20) (fun hHeld => ?_)
              clear hK K
              try simp only [Act.put, List.setIfInBounds_toArray, List.set_cons_zero, List.set_cons_succ]
              refine wpAnyH_ready (rs := [16]) (by kernel_rfl) (by simp) ?_
              refine Held.consL rfl (fun K hK => ?_) AllReadyH.nil
              go_simp
              refine (HD.out _).mono ?_
              rintro e_ w16 ⟨rfl, hb16⟩
              have hN_16 := (hb16.block _ (heap_lt hN_20)).trans hN_20
              have hD_16 := (hb16.block _ (heap_lt hD)).trans hD
              refine hK.out _ _ (hHeld.step hb16) (fun hHeld => ?_)
              clear hK K
              try simp only [Act.put, List.setIfInBounds_toArray, List.set_cons_zero, List.set_cons_succ]
              refine Held.takeL (i := 17) (v := ?_) rfl (by kernel_rfl) (by kernel_rfl) (by kernel_rfl) (fun _ _ _ h => h) (.inl ⟨by kernel_rfl, ?_⟩) (by assumption) ?_
              rotate_left
              · (intro w_ hSw; go_simp; first | done | with_reducible rfl)
              try simp only [Act.put, List.setIfInBounds_toArray, List.set_cons_zero, List.set_cons_succ]
              refine Held.takeL (i := 18) (v := ?_) rfl (by kernel_rfl) (by kernel_rfl) (by kernel_rfl) (fun _ _ _ h => h) (.inl ⟨by kernel_rfl, ?_⟩) (by assumption) ?_
              rotate_left
              · (intro w_ hSw; go_simp; first | done | with_reducible rfl)
              try simp only [Act.put, List.setIfInBounds_toArray, List.set_cons_zero, List.set_cons_succ]
              refine Held.takeL (i := 19) (v := ?_) rfl (by kernel_rfl) (by kernel_rfl) (by kernel_rfl) (fun _ _ _ h => h) (.inl ⟨by kernel_rfl, ?_⟩) (by assumption) ?_
              rotate_left
              · (intro w_ hSw; go_simp; first | done | with_reducible rfl)
              try simp only [Act.put, List.setIfInBounds_toArray, List.set_cons_zero, List.set_cons_succ]
              refine wpAnyH_ready (rs := [21]) (by kernel_rfl) (by simp) ?_
              refine Held.consL rfl (fun K hK => ?_) AllReadyH.nil
              rw [if_pos (by kernel_rfl)]
              refine wp_store_page (.tmp 13) (.tmp 64) rfl D d Page.zero (by rfl) (by rfl) hD_16 ?_
              intro w21 hD21 hk21
              have hK21 : Kp wr.heap.size wr w21 := Kp.put hHeld hDB hk21
              refine hK.out _ _ hK21 (fun hHeld => ?_)
              clear hK K
              try simp only [Act.put, List.setIfInBounds_toArray, List.set_cons_zero, List.set_cons_succ]
              refine Held.takeL (i := 22) (v := ?_) rfl (by kernel_rfl) (by kernel_rfl) (by kernel_rfl) (fun _ _ _ h => h) (.inl ⟨by kernel_rfl, ?_⟩) (by assumption) ?_
              rotate_left
              · (intro w_ hSw; go_simp; first | done | with_reducible rfl)
              try simp only [Act.put, List.setIfInBounds_toArray, List.set_cons_zero, List.set_cons_succ]
              refine wpAnyH_done (by kernel_rfl) ?_ _
              go_wp2_with fail
              go_roundw
              case rel => exact ⟨j + 1, by omega, by go_num, hKW _ hK21, hBr.trans (hK21.below.mono hsr')⟩
              case measure => simp [intOf]; omega
          · rw [if_pos (by kernel_rfl)]
            refine wp_alloc_new 59 rfl (pageC Page.zero) zero59 ?_
            intro D w20 hDl hD hb20
            have hDB : wr.heap.size ≤ D := Nat.le_trans hHeld.size hDl
            have hN_20 := (hb20.block _ (heap_lt hN)).trans hN
            refine hK.out _ _ (hHeld.step hb20) (fun hHeld => ?_)
            clear hK K
            try simp only [Act.put, List.setIfInBounds_toArray, List.set_cons_zero, List.set_cons_succ]
            refine wpAnyH_ready (rs := [9]) (by kernel_rfl) (by simp) ?_
            refine Held.consL rfl (fun K hK => ?_) AllReadyH.nil
            have hcv := conv_byte_at _ N zz hN_20
            go_simp
            refine hK.out _ _ hHeld (fun hHeld => ?_)
            clear hK K
            try simp only [Act.put, List.setIfInBounds_toArray, List.set_cons_zero, List.set_cons_succ]
            refine Held.takeL (i := 10) (v := ?_) rfl (by kernel_rfl) (by kernel_rfl) (by kernel_rfl) (fun _ _ _ h => h) (.inl ⟨by kernel_rfl, ?_⟩) (by assumption) ?_
            rotate_left
            · (intro w_ hSw; go_simp; first | done | with_reducible rfl)
            try simp only [Act.put, List.setIfInBounds_toArray, List.set_cons_zero, List.set_cons_succ]
            refine Held.takeL (i := 15) (v := ?_) rfl (by kernel_rfl) (by kernel_rfl) (by kernel_rfl) (fun _ _ _ h => h) (.inl ⟨by kernel_rfl, ?_⟩) (by assumption) ?_
            rotate_left
            · (intro w_ hSw; go_simp; first | done | with_reducible rfl)
            try simp only [Act.put, List.setIfInBounds_toArray, List.set_cons_zero, List.set_cons_succ]
            refine wpAnyH_ready (rs := [16]) (by kernel_rfl) (by simp) ?_
            refine Held.consL rfl (fun K hK => ?_) AllReadyH.nil
            go_simp
            refine (HD.out _).mono ?_
            rintro e_ w16 ⟨rfl, hb16⟩
            have hN_16 := (hb16.block _ (heap_lt hN_20)).trans hN_20
            have hD_16 := (hb16.block _ (heap_lt hD)).trans hD
            refine hK.out _ _ (hHeld.step hb16) (fun hHeld => ?_)
            clear hK K
            try simp only [Act.put, List.setIfInBounds_toArray, List.set_cons_zero, List.set_cons_succ]
            refine Held.takeL (i := 17) (v := ?_) rfl (by kernel_rfl) (by kernel_rfl) (by kernel_rfl) (fun _ _ _ h => h) (.inl ⟨by kernel_rfl, ?_⟩) (by assumption) ?_
            rotate_left
            · (intro w_ hSw; go_simp; first | done | with_reducible rfl)
            try simp only [Act.put, List.setIfInBounds_toArray, List.set_cons_zero, List.set_cons_succ]
            refine Held.takeL (i := 18) (v := ?_) rfl (by kernel_rfl) (by kernel_rfl) (by kernel_rfl) (fun _ _ _ h => h) (.inl ⟨by kernel_rfl, ?_⟩) (by assumption) ?_
            rotate_left
            · (intro w_ hSw; go_simp; first | done | with_reducible rfl)
            try simp only [Act.put, List.setIfInBounds_toArray, List.set_cons_zero, List.set_cons_succ]
            refine Held.takeL (i := 19) (v := ?_) rfl (by kernel_rfl) (by kernel_rfl) (by kernel_rfl) (fun _ _ _ h => h) (.inl ⟨by kernel_rfl, ?_⟩) (by assumption) ?_
            rotate_left
            · (intro w_ hSw; go_simp; first | done | with_reducible rfl)
            try simp only [Act.put, List.setIfInBounds_toArray, List.set_cons_zero, List.set_cons_succ]
            refine wpAnyH_ready (rs := [21]) (by kernel_rfl) (by simp) ?_
            refine Held.consL rfl (fun K hK => ?_) AllReadyH.nil
            rw [if_pos (by kernel_rfl)]
            refine wp_store_page (.tmp 13) (.tmp 64) rfl D d Page.zero (by rfl) (by rfl) hD_16 ?_
            intro w21 hD21 hk21
            have hK21 : Kp wr.heap.size wr w21 := Kp.put hHeld hDB hk21
            refine hK.out _ _ hK21 (fun hHeld => ?_)
            clear hK K
            try simp only [Act.put, List.setIfInBounds_toArray, List.set_cons_zero, List.set_cons_succ]
            refine Held.takeL (i := 22) (v := ?_) rfl (by kernel_rfl) (by kernel_rfl) (by kernel_rfl) (fun _ _ _ h => h) (.inl ⟨by kernel_rfl, ?_⟩) (by assumption) ?_
            rotate_left
            · (intro w_ hSw; go_simp; first | done | with_reducible rfl)
            try simp only [Act.put, List.setIfInBounds_toArray, List.set_cons_zero, List.set_cons_succ]
            refine wpAnyH_done (by kernel_rfl) ?_ _
            go_wp2_with fail
            go_roundw
            case rel => exact ⟨j + 1, by omega, by go_num, hKW _ hK21, hBr.trans (hK21.below.mono hsr')⟩
            case measure => simp [intOf]; omega
        · rw [if_pos (by kernel_rfl)]
          refine wp_alloc_new 59 rfl (pageC Page.zero) zero59 ?_
          intro D w20 hDl hD hb20
          have hDB : wr.heap.size ≤ D := Nat.le_trans hHeld.size hDl
          refine hK.out _ _ (hHeld.step hb20) (fun hHeld => ?_)
          clear hK K
          try simp only [Act.put, List.setIfInBounds_toArray, List.set_cons_zero, List.set_cons_succ]
          refine wpAnyH_ready (rs := [8]) (by kernel_rfl) (by simp) ?_
          refine Held.consL rfl (fun K hK => ?_) AllReadyH.nil
          rw [if_pos (by kernel_rfl)]
          refine wp_byte1 (.tmp 54) rfl zz (by rfl) ?_
          intro N w8 hNl hN hb8
          have hD_8 := (hb8.block _ (heap_lt hD)).trans hD
          refine hK.out _ _ (hHeld.step hb8) (fun hHeld => ?_)
          clear hK K
          try simp only [Act.put, List.setIfInBounds_toArray, List.set_cons_zero, List.set_cons_succ]
          refine wpAnyH_ready (rs := [9]) (by kernel_rfl) (by simp) ?_
          refine Held.consL rfl (fun K hK => ?_) AllReadyH.nil
          have hcv := conv_byte_at _ N zz hN
          go_simp
          refine hK.out _ _ hHeld (fun hHeld => ?_)
          clear hK K
          try simp only [Act.put, List.setIfInBounds_toArray, List.set_cons_zero, List.set_cons_succ]
          refine Held.takeL (i := 10) (v := ?_) rfl (by kernel_rfl) (by kernel_rfl) (by kernel_rfl) (fun _ _ _ h => h) (.inl ⟨by kernel_rfl, ?_⟩) (by assumption) ?_
          rotate_left
          · (intro w_ hSw; go_simp; first | done | with_reducible rfl)
          try simp only [Act.put, List.setIfInBounds_toArray, List.set_cons_zero, List.set_cons_succ]
          refine Held.takeL (i := 15) (v := ?_) rfl (by kernel_rfl) (by kernel_rfl) (by kernel_rfl) (fun _ _ _ h => h) (.inl ⟨by kernel_rfl, ?_⟩) (by assumption) ?_
          rotate_left
          · (intro w_ hSw; go_simp; first | done | with_reducible rfl)
          try simp only [Act.put, List.setIfInBounds_toArray, List.set_cons_zero, List.set_cons_succ]
          refine wpAnyH_ready (rs := [16]) (by kernel_rfl) (by simp) ?_
          refine Held.consL rfl (fun K hK => ?_) AllReadyH.nil
          go_simp
          refine (HD.out _).mono ?_
          rintro e_ w16 ⟨rfl, hb16⟩
          have hD_16 := (hb16.block _ (heap_lt hD_8)).trans hD_8
          have hN_16 := (hb16.block _ (heap_lt hN)).trans hN
          refine hK.out _ _ (hHeld.step hb16) (fun hHeld => ?_)
          clear hK K
          try simp only [Act.put, List.setIfInBounds_toArray, List.set_cons_zero, List.set_cons_succ]
          refine Held.takeL (i := 17) (v := ?_) rfl (by kernel_rfl) (by kernel_rfl) (by kernel_rfl) (fun _ _ _ h => h) (.inl ⟨by kernel_rfl, ?_⟩) (by assumption) ?_
          rotate_left
          · (intro w_ hSw; go_simp; first | done | with_reducible rfl)
          try simp only [Act.put, List.setIfInBounds_toArray, List.set_cons_zero, List.set_cons_succ]
          refine Held.takeL (i := 18) (v := ?_) rfl (by kernel_rfl) (by kernel_rfl) (by kernel_rfl) (fun _ _ _ h => h) (.inl ⟨by kernel_rfl, ?_⟩) (by assumption) ?_
          rotate_left
          · (intro w_ hSw; go_simp; first | done | with_reducible rfl)
          try simp only [Act.put, List.setIfInBounds_toArray, List.set_cons_zero, List.set_cons_succ]
          refine Held.takeL (i := 19) (v := ?_) rfl (by kernel_rfl) (by kernel_rfl) (by kernel_rfl) (fun _ _ _ h => h) (.inl ⟨by kernel_rfl, ?_⟩) (by assumption) ?_
          rotate_left
          · (intro w_ hSw; go_simp; first | done | with_reducible rfl)
          try simp only [Act.put, List.setIfInBounds_toArray, List.set_cons_zero, List.set_cons_succ]
          refine wpAnyH_ready (rs := [21]) (by kernel_rfl) (by simp) ?_
          refine Held.consL rfl (fun K hK => ?_) AllReadyH.nil
          rw [if_pos (by kernel_rfl)]
          refine wp_store_page (.tmp 13) (.tmp 64) rfl D d Page.zero (by rfl) (by rfl) hD_16 ?_
          intro w21 hD21 hk21
          have hK21 : Kp wr.heap.size wr w21 := Kp.put hHeld hDB hk21
          refine hK.out _ _ hK21 (fun hHeld => ?_)
          clear hK K
          try simp only [Act.put, List.setIfInBounds_toArray, List.set_cons_zero, List.set_cons_succ]
          refine Held.takeL (i := 22) (v := ?_) rfl (by kernel_rfl) (by kernel_rfl) (by kernel_rfl) (fun _ _ _ h => h) (.inl ⟨by kernel_rfl, ?_⟩) (by assumption) ?_
          rotate_left
          · (intro w_ hSw; go_simp; first | done | with_reducible rfl)
          try simp only [Act.put, List.setIfInBounds_toArray, List.set_cons_zero, List.set_cons_succ]
          refine wpAnyH_done (by kernel_rfl) ?_ _
          go_wp2_with fail
          go_roundw
          case rel => exact ⟨j + 1, by omega, by go_num, hKW _ hK21, hBr.trans (hK21.below.mono hsr')⟩
          case measure => simp [intOf]; omega
      · have hdec : decide ((j : Int) < 2) = false := by simp; omega
        go_wp2_with fail
        go_ret
        exact ⟨rfl, hBr⟩
theorem damage_wf (a : Option Addr) (n c : Nat) (v b : Int) (w : World) (h : Ls w a n c) (h1 : (Lit.int .u8 v).wf = true) (h2 : (Lit.int .u8 b).wf = true) :
    Calls Try.prog 10 #[.slice a n c, .int .u8 v, .int .u8 b] w fun e w' => e = .returned (.bool true) ∧ Below w.heap.size w w' := by
  simp only [Lit.wf, Bool.and_eq_true, decide_eq_true_eq, show IntKind.u8.min = 0 from rfl, show IntKind.u8.max = 255 from rfl] at h1 h2
  exact damage_calls a n c v b w h (by omega) (by omega) (by omega) (by omega)
end Go.Proofs.Ytldkgmodmpnclaa
