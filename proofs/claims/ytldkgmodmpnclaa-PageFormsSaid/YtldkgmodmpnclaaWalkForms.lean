/- PageForms' walk: bytes with a right checksum mean the same to both, and what is decoded has these bytes. -/
import Derived.Test.YtldkgmodmpnclaaFrame
namespace Go.Proofs.Ytldkgmodmpnclaa
open Go.RowKit Go.Proofs
set_option linter.unusedVariables false
set_option linter.unusedSimpArgs false
set_option maxHeartbeats 4000000 in
set_option maxRecDepth 100000 in
theorem forms_calls (a : Option Addr) (n c : Nat) (w : World) (h : Ls w a n c) :
    Calls Try.prog 9 #[.slice a n c] w fun e w' => e = .returned (.bool true) ∧ Below w.heap.size w w' := by
  obtain ⟨B0, hB0⟩ : ∃ B, w.heap.size = B := ⟨_, rfl⟩
  rw [hB0]
  go_enter Try.func9, Try.ntmps9
  go_wp2_with fail
  refine (awake_calls _).mono ?_
  rintro e w1 ⟨rfl, hb1⟩
  go_wp2_with fail
  refine (newCodes_calls a n c 160 _ (h.keep hb1) (by omega)).mono ?_
  rintro e w2 ⟨g, rfl, hg, hb2, hc2⟩
  have hF2 : Fr B0 g w w2 := Fr.of ((hb1.mono (by omega)).trans (hb2.mono (by have := hb1.size; omega))) hc2 (by have := hb1.size; omega)
  clear hb1 hb2 hg h hc2
  go_wp2_with fail
  refine (next_calls g 5 _ hF2.c (by omega) (by omega)).mono ?_
  rintro e w3 ⟨id, rfl, hi03, hi13, hk, hc⟩
  have hF3 := hF2.kb hk hc
  clear hk hc hF2
  go_wp2_with fail
  refine (cpage_calls g id _ hF3.c).mono ?_
  rintro e w4 ⟨p, rfl, hpidp, hpl, hpc, hk, hc⟩
  have hF4 := hF3.kb hk hc
  clear hk hc hF3
  have hokp : pageOk p = true := by
    unfold pageOk placed named
    rw [hpidp, hpl, hpc]
    simp [hi03]
    omega
  clear hpl hpc
  have HE1 := Lib.hid (fun W => encode02_calls p W)
  rw [pageErr_ok hokp] at HE1
  have hz := encP_size hokp
  obtain ⟨s, hs⟩ : ∃ s, encP p = s := ⟨_, rfl⟩
  rw [hs] at HE1 hz
  have HZ := Lib.hid hz
  clear hs hokp hz hpidp
  go_wp2_with fail
  refine (HE1.out _).mono ?_
  rintro e w5 ⟨rfl, hb5⟩
  have hF5 := hF4.step hb5
  clear hb5 HE1 hF4
  go_wp2_with fail
  go_loopw [6] (fun i wr => ∃ j : Nat, j ≤ 4 ∧ i = .int .i64 j ∧ Fr B0 g w wr) (fun i _ => 4 - (intOf i).toNat)
  case atStart => exact ⟨0, by omega, rfl, hF5⟩
  case round =>
    clear hF5 w5
    obtain ⟨j, hj, rfl, hF⟩ := hrel
    by_cases hj4 : j < 4
    · have hdec : decide ((j : Int) < 4) = true := by simp; omega
      go_wp2_with fail
      refine (sealed_calls g s _ hF.c HZ.out).mono ?_
      rintro e w6 ⟨x, rfl, hx, hk, hc⟩
      have hF6 := hF.kb hk hc
      clear hF hk hc
      have HD1 := Lib.hid (fun W => decode_calls x W (by omega))
      have HD2 := Lib.hid (fun W => decode02_calls x W (by omega))
      have hwf := decP_wf x
      have hok0 := fun h => decP_ok (s := x) h
      unfold ansP at HD1 HD2
      obtain ⟨d, hd⟩ : ∃ d, (decP x).1 = d := ⟨_, rfl⟩
      obtain ⟨er, her⟩ : ∃ er, (decP x).2 = er := ⟨_, rfl⟩
      rw [hd, her] at HD1 HD2 hok0
      rw [hd] at hwf
      have HOK := Lib.hid hok0
      clear hd her hok0 hx
      go_wp2_with fail
      refine (HD1.out _).mono ?_
      rintro e w7 ⟨rfl, hb7⟩
      have hF7 := (hF6.step hb7).alloc (.cells (pageC d) 59)
      have hP7 := PgAt.new w7 d
      obtain ⟨D, hD⟩ : ∃ D, w7.heap.size = D := ⟨_, rfl⟩
      rw [hD] at hP7
      clear hF6 hb7 HD1
      go_wp2_with (first
        | (refine wpList_alloc_row rfl 59 rfl (pageC Page.zero) zero59 ?_)
        | (refine wpList_store_row rfl 59 (.tmp 8) (.tmp 36) rfl _ (pageC d) rfl rfl _ _ (heap_alloc_new _ _) (page_size _) (by simp only [pageC_size]) (pageC_oneCell _) ?_; rw [World.setRow_alloc_new]))
      refine (HD2.out _).mono ?_
      rintro e w8 ⟨rfl, hb8⟩
      have hF8 := (hF7.step hb8).alloc (.cells (pageC d) 59)
      have hP8 := (hP7.below hb8 hP7.lt).alloc (.cells (pageC d) 59)
      have hQ8 := PgAt.new w8 d
      obtain ⟨F, hF⟩ : ∃ F, w8.heap.size = F := ⟨_, rfl⟩
      rw [hF] at hQ8
      clear hF7 hb8 HD2 hP7
      have HE := Lib.hid (fun W => encode_calls d W)
      obtain ⟨u, hu⟩ : ∃ u, encP d = u := ⟨_, rfl⟩
      obtain ⟨k, hk⟩ : ∃ k, pageErr d = k := ⟨_, rfl⟩
      rw [hu, hk] at HE
      by_cases he : er = 0
      · have he0 : (er == 0) = true := by rw [he]; rfl
        have hen : (er != er) = false := by simp
        obtain ⟨ho, hx⟩ := HOK.out he
        have hk0 : (k != 0) = false := by rw [← hk, pageErr_ok ho]; rfl
        have hux : (u.toList != x.toList) = false := by rw [← hu, encP_ok ho, hx]; simp
        have hux2 : (u.toList == x.toList) = true := by rw [← hu, encP_ok ho, hx]; simp
        have H0 := Lib.hid he
        clear he ho hx hu hk
        go_wp2_with (first
          | (refine wpList_alloc_row rfl 59 rfl (pageC Page.zero) zero59 ?_)
          | (refine wpList_store_row rfl 59 (.tmp 10) (.tmp 41) rfl _ (pageC d) rfl rfl _ _ (heap_alloc_new _ _) (page_size _) (by simp only [pageC_size]) (pageC_oneCell _) ?_; rw [World.setRow_alloc_new])
          | (refine wpList_load_row rfl 59 (.tmp 8) rfl D rfl _ _ _ _ hP8.out Try.underlying59 rfl (page_size _) ?_)
          | (refine wpList_load_row rfl 59 (.tmp 10) rfl F rfl _ _ _ _ (by first | exact hQ8.out | (rw [hF]; exact hQ8.out)) Try.underlying59 rfl (page_size _) ?_)
          | (refine wpList_same59 (by rfl) (.tmp 43) (.tmp 44) 59 rfl d rfl rfl hwf ?_))
        refine (HE.out _).mono ?_
        rintro e w9 ⟨rfl, hb9⟩
        have hF9 := hF8.step hb9
        clear hF8 hb9 hP8 hQ8
        go_wp2_with fail
        go_roundw
        case rel => exact ⟨j + 1, by omega, by go_num, hF9⟩
        case measure => simp [intOf]; omega
      · have he0 : (er == 0) = false := by simpa using he
        have hen : (er != er) = false := by simp
        have H0 := Lib.hid he
        clear he hu hk
        go_wp2_with (first
          | (refine wpList_alloc_row rfl 59 rfl (pageC Page.zero) zero59 ?_)
          | (refine wpList_store_row rfl 59 (.tmp 10) (.tmp 41) rfl _ (pageC d) rfl rfl _ _ (heap_alloc_new _ _) (page_size _) (by simp only [pageC_size]) (pageC_oneCell _) ?_; rw [World.setRow_alloc_new])
          | (refine wpList_load_row rfl 59 (.tmp 8) rfl D rfl _ _ _ _ hP8.out Try.underlying59 rfl (page_size _) ?_)
          | (refine wpList_load_row rfl 59 (.tmp 10) rfl F rfl _ _ _ _ (by first | exact hQ8.out | (rw [hF]; exact hQ8.out)) Try.underlying59 rfl (page_size _) ?_)
          | (refine wpList_same59 (by rfl) (.tmp 43) (.tmp 44) 59 rfl d rfl rfl hwf ?_))
        refine (HE.out _).mono ?_
        rintro e w9 ⟨rfl, hb9⟩
        have hF9 := hF8.step hb9
        clear hF8 hb9 hP8 hQ8
        go_wp2_with fail
        go_roundw
        case rel => exact ⟨j + 1, by omega, by go_num, hF9⟩
        case measure => simp [intOf]; omega
    · have hdec : decide ((j : Int) < 4) = false := by simp; omega
      go_wp2_with fail
      go_ret
      exact ⟨rfl, hF.out⟩
end Go.Proofs.Ytldkgmodmpnclaa
