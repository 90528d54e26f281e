import Derived.Test.YtldkgmodmpnclaaDrawD
namespace Go.Proofs.Ytldkgmodmpnclaa
open Go.RowKit Go.Proofs
set_option linter.unusedVariables false
set_option linter.unusedSimpArgs false
theorem bt_left (a b : ByteArray) (i : Nat) (h : i < a.size) : bt (a ++ b) i = bt a i := by
  unfold bt
  rw [ByteArray.data_append, Array.toList_append, List.getD_eq_getElem?_getD, List.getD_eq_getElem?_getD, List.getElem?_append_left (by simpa using h)]
theorem bt_right (a b : ByteArray) (i : Nat) (h : a.size ≤ i) : bt (a ++ b) i = bt b (i - a.size) := by
  unfold bt
  rw [ByteArray.data_append, Array.toList_append, List.getD_eq_getElem?_getD, List.getD_eq_getElem?_getD, List.getElem?_append_right (by rw [Array.length_toList]; exact h)]
  rw [Array.length_toList]
  rfl
theorem new_ok (n : Int) (h : named n = true) : pageOk (Page.new n) = true := by
  unfold pageOk placed
  rw [show (Page.new n).id = n from rfl, h, show cellsOk (Page.new n) = true from ok_rep _ _]
  rfl
theorem pageErr_ok {p : Page} (h : pageOk p = true) : pageErr p = 0 := by
  unfold pageOk at h
  rw [Bool.and_eq_true] at h
  unfold pageErr
  rw [if_pos h.1, if_pos h.2]
theorem encP_ok {p : Page} (h : pageOk p = true) : encP p = encBytes p := by unfold encP; rw [if_pos h]
theorem encP_size {p : Page} (h : pageOk p = true) : (encP p).size = 256 := by
  rw [encP_ok h]
  unfold pageOk at h
  rw [Bool.and_eq_true] at h
  exact encBytes_size h.2
theorem awake_byte : bt (encP (Page.new 3)) 8 = 3 := by
  rw [encP_ok (new_ok 3 rfl)]
  unfold encBytes encBody
  rw [bt_left _ _ _ (by simp [ByteArray.size_append, encHead_size]; omega), bt_left _ _ _ (by simp [ByteArray.size_append, encHead_size]; omega), bt_left _ _ _ (by simp [ByteArray.size_append, encHead_size]; omega), bt_left _ _ _ (by simp [encHead_size])]
  unfold encHead
  rw [bt_right _ _ _ (by rw [leB_size]; omega), leB_size]
  rfl
set_option maxHeartbeats 1000000 in
set_option maxRecDepth 100000 in
theorem awake_calls (w : World) : Calls Try.prog 34 #[] w fun e w' => e = .returned (.bool true) ∧ Below w.heap.size w w' := by
  have hok := new_ok 3 rfl
  have he := pageErr_ok hok
  have hs := encP_size hok
  have hb := awake_byte
  obtain ⟨s, hS⟩ : ∃ s, encP (Page.new 3) = s := ⟨_, rfl⟩
  rw [hS] at hs hb
  have HE := Lib.hid (fun W => encode_calls (Page.new 3) W)
  rw [he, hS] at HE
  have hb2 : s[8] = 3 := by rw [bt_get, hb]
  go_enter Try.func34, Try.ntmps34
  go_wp2_with fail
  refine (new_calls 3 _).mono ?_
  rintro e w1 ⟨rfl, hb1⟩
  go_wp2_with fail
  refine (HE.out _).mono ?_
  rintro e w2 ⟨rfl, hb2⟩
  go_wp2_with fail
  go_ret
  exact ⟨rfl, hb1.trans (hb2.mono hb1.size)⟩
end Go.Proofs.Ytldkgmodmpnclaa
