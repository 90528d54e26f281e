import Derived.Test.YtldkgmodmpnclaaDrawC
import Derived.Test.YtldkgmodmpnclaaPageJ
namespace Go.Proofs.Ytldkgmodmpnclaa
open Go.RowKit Go.Proofs
set_option linter.unusedVariables false
set_option linter.unusedSimpArgs false
/-- Some page. -/
def SomePage (g : Nat) (w : World) (e : Ending) (w' : World) : Prop := ∃ p : Page, e = .returned (.agg (pageC p)) ∧ KB g w w' ∧ Cs w' g
theorem PgAt.setId {w : World} {b : Nat} {p : Page} (h : PgAt w b p) (m : Int) : PgAt (w.setCell ⟨b, 0, none⟩ (.int .i64 m)) b ⟨m, p.lsn, p.cells, p.len⟩ := by
  unfold PgAt
  rw [heap_setCell_same _ _ _ _ _ _ h.out]
  rfl
theorem PgAt.setL {w : World} {b : Nat} {p : Page} (h : PgAt w b p) (m : Int) : PgAt (w.setCell ⟨b, 1, none⟩ (.int .i64 m)) b ⟨p.id, m, p.cells, p.len⟩ := by
  unfold PgAt
  rw [heap_setCell_same _ _ _ _ _ _ h.out]
  rfl
set_option maxHeartbeats 1000000 in
set_option maxRecDepth 100000 in
theorem oddPage_calls (g : Nat) (p : Page) (w : World) (h : Cs w g) :
    Calls Try.prog 36 #[.pointer (some ⟨g, 0, none⟩), .agg (pageC p)] w (SomePage g w) := by
  have hlt := h.lt
  have hP := PgAt.new w p
  obtain ⟨X, hX⟩ : ∃ X, w.heap.size = X := ⟨_, rfl⟩
  have hc := h.alloc (.cells (pageC p) 59)
  have hk := (KB.refl g w).alloc (.cells (pageC p) 59)
  go_enter Try.func36, Try.ntmps36
  go_wp2_with (first
    | (refine wpList_alloc_row rfl 59 rfl (pageC Page.zero) zero59 ?_))
  refine (next_calls g 4 _ (hc.alloc _) (by omega) (by omega)).mono ?_
  rintro e w1 ⟨r, rfl, hr0, hr1, hk1, h1⟩
  have hZ : PgAt w1 (X + 1) Page.zero := by
    have := kb_new hc hk1
    rw [show (w.alloc (.cells (pageC p) 59)).heap.size = X + 1 by simp [hX]] at this
    exact this
  have hP1 := (hP.alloc _).kb hk1 hlt
  have hkk := hk.trans hk1.out
  rw [hX] at hP1 hlt
  clear hk hk1 hc hP h
  by_cases r0 : r = 0
  · subst r0
    go_wp2_with fail
    refine (int_calls g _ h1).mono ?_
    rintro e w2 ⟨m, rfl, hm, hk2, h2⟩
    have hZ2 := hZ.kb hk2 (by omega)
    have hP2 := hP1.kb hk2 hlt
    have hc0 := hP2.id
    have hf0 : w2.frozen? ⟨X, 0, none⟩ = false := heap_free hP2.out 0
    have hPf := hP2.setId m
    have hZf := hZ2.setCell (a := ⟨X, 0, none⟩) (.int .i64 m) (show X + 1 ≠ X by omega)
    have hkf := (hkk.trans hk2).setB (B := X) (by omega) 0 (.int .i64 m)
    have hcf := h2.setB hlt 0 (.int .i64 m)
    clear hZ2 hP2 hZ hP1 hk2 h2 hkk h1
    go_wp2_with (first
      | (refine wpList_load_row rfl 59 (.tmp 3) rfl X rfl _ _ _ _ hPf.out Try.underlying59 rfl (page_size _) ?_)
      | (refine wpList_store_row rfl 59 (.tmp 4) (.tmp 37) rfl (X + 1) _ rfl rfl _ _ hZf.out (page_size _) (by rw [pageC_size, pageC_size]) (pageC_oneCell _) ?_))
    refine bodyPost_ret (results_cell_row rfl _ _ (X + 1) _ _ _ _ rfl (heap_setRow hZf.out) Try.underlying59 rfl (page_size _)) rfl ?_
    exact ⟨_, rfl, hkf.setRowB (by omega) _, hcf.setRowB (by omega) _⟩
  · have hd0 : decide (r = 0) = false := by simp [r0]
    by_cases r1 : r = 1
    · subst r1
      go_wp2_with fail
      refine (int_calls g _ h1).mono ?_
      rintro e w2 ⟨m, rfl, hm, hk2, h2⟩
      have hZ2 := hZ.kb hk2 (by omega)
      have hP2 := hP1.kb hk2 hlt
      have hc0 := hP2.lsn
      have hf0 : w2.frozen? ⟨X, 1, none⟩ = false := heap_free hP2.out 1
      have hPf := hP2.setL m
      have hZf := hZ2.setCell (a := ⟨X, 1, none⟩) (.int .i64 m) (show X + 1 ≠ X by omega)
      have hkf := (hkk.trans hk2).setB (B := X) (by omega) 1 (.int .i64 m)
      have hcf := h2.setB hlt 1 (.int .i64 m)
      clear hZ2 hP2 hZ hP1 hk2 h2 hkk h1
      go_wp2_with (first
        | (refine wpList_load_row rfl 59 (.tmp 3) rfl X rfl _ _ _ _ hPf.out Try.underlying59 rfl (page_size _) ?_)
        | (refine wpList_store_row rfl 59 (.tmp 4) (.tmp 37) rfl (X + 1) _ rfl rfl _ _ hZf.out (page_size _) (by rw [pageC_size, pageC_size]) (pageC_oneCell _) ?_))
      refine bodyPost_ret (results_cell_row rfl _ _ (X + 1) _ _ _ _ rfl (heap_setRow hZf.out) Try.underlying59 rfl (page_size _)) rfl ?_
      exact ⟨_, rfl, hkf.setRowB (by omega) _, hcf.setRowB (by omega) _⟩

    · have hd1 : decide (r = 1) = false := by simp [r1]
      by_cases r2 : r = 2
      · subst r2
        go_wp2_with fail
        refine (next_calls g 16 _ h1 (by omega) (by omega)).mono ?_
        rintro e w2 ⟨j, rfl, hj0, hj1, hk2, h2⟩
        obtain ⟨j, rfl⟩ : ∃ n : Nat, j = n := ⟨j.toNat, by omega⟩
        go_wp2_with fail
        refine (next_calls g 2 _ h2 (by omega) (by omega)).mono ?_
        rintro e w3 ⟨b, rfl, hb0, hb1, hk3, h3⟩
        obtain ⟨bb, hbb⟩ : ∃ bb, (b == 1) = bb := ⟨_, rfl⟩
        go_wp2_with fail
        refine (data_calls g _ h3).mono ?_
        rintro e w4 ⟨s, rfl, hs, hk4, hcz⟩
        have hPz := ((hP1.kb hk2 hlt).kb hk3 hlt).kb hk4 hlt
        have hZz := ((hZ.kb hk2 (by omega)).kb hk3 (by omega)).kb hk4 (by omega)
        have hkz := ((hkk.trans hk2).trans hk3).trans hk4
        obtain ⟨hcc1, hcc2⟩ := page_cell w4 X p hPz.out j (by omega)
        have hf1 : w4.frozen? ⟨X, 2 + j * 2, none⟩ = false := heap_free hPz.out _
        have hf2 : w4.frozen? ⟨X, 2 + j * 2 + 1, none⟩ = false := heap_free hPz.out _
        have hPf := hPz.put (j := j) (by omega) (⟨bb, s⟩ : Cell)
        have hZf := (hZz.setCell (a := ⟨X, 2 + j * 2, none⟩) (.bool (⟨bb, s⟩ : Cell).set) (show X + 1 ≠ X by omega)).setCell (a := ⟨X, 2 + j * 2 + 1, none⟩) (.string (⟨bb, s⟩ : Cell).data) (show X + 1 ≠ X by omega)
        have hkf := (hkz.setB (B := X) (by omega) (2 + j * 2) (.bool (⟨bb, s⟩ : Cell).set)).setB (B := X) (by omega) (2 + j * 2 + 1) (.string (⟨bb, s⟩ : Cell).data)
        have hcf := (hcz.setB (B := X) hlt (2 + j * 2) (.bool (⟨bb, s⟩ : Cell).set)).setB (B := X) hlt (2 + j * 2 + 1) (.string (⟨bb, s⟩ : Cell).data)

        clear hPz hZz hkz hk2 h2 hk3 h3 hk4 hcz hP1 hZ hkk h1
        go_wp2_with (first
          | (refine wpList_load_row rfl 59 (.tmp 3) rfl X rfl _ _ _ _ hPf.out Try.underlying59 rfl (page_size _) ?_)
          | (refine wpList_store_row rfl 59 (.tmp 4) (.tmp 37) rfl (X + 1) _ rfl rfl _ _ hZf.out (page_size _) (by rw [pageC_size, pageC_size]) (pageC_oneCell _) ?_))
        refine bodyPost_ret (results_cell_row rfl _ _ (X + 1) _ _ _ _ rfl (heap_setRow hZf.out) Try.underlying59 rfl (page_size _)) rfl ?_
        exact ⟨_, rfl, hkf.setRowB (by omega) _, hcf.setRowB (by omega) _⟩

      · have hd2 : decide (r = 2) = false := by simp [r2]
        obtain rfl : r = 3 := by omega
        go_wp2_with fail
        refine (next_calls g 16 _ h1 (by omega) (by omega)).mono ?_
        rintro e w2 ⟨j, rfl, hj0, hj1, hk2, h2⟩
        obtain ⟨j, rfl⟩ : ∃ n : Nat, j = n := ⟨j.toNat, by omega⟩
        go_wp2_with fail
        refine (cell_calls g _ h2).mono ?_
        rintro e w4 ⟨c, rfl, hcc, hk4, hcz⟩
        have hPz := (hP1.kb hk2 hlt).kb hk4 hlt
        have hZz := (hZ.kb hk2 (by omega)).kb hk4 (by omega)
        have hkz := (hkk.trans hk2).trans hk4
        obtain ⟨hcc1, hcc2⟩ := page_cell w4 X p hPz.out j (by omega)
        have hf1 : w4.frozen? ⟨X, 2 + j * 2, none⟩ = false := heap_free hPz.out _
        have hf2 : w4.frozen? ⟨X, 2 + j * 2 + 1, none⟩ = false := heap_free hPz.out _
        have hPf := hPz.put (j := j) (by omega) c
        have hZf := (hZz.setCell (a := ⟨X, 2 + j * 2, none⟩) (.bool c.set) (show X + 1 ≠ X by omega)).setCell (a := ⟨X, 2 + j * 2 + 1, none⟩) (.string c.data) (show X + 1 ≠ X by omega)
        have hkf := (hkz.setB (B := X) (by omega) (2 + j * 2) (.bool c.set)).setB (B := X) (by omega) (2 + j * 2 + 1) (.string c.data)
        have hcf := (hcz.setB (B := X) hlt (2 + j * 2) (.bool c.set)).setB (B := X) hlt (2 + j * 2 + 1) (.string c.data)

        clear hPz hZz hkz hk2 h2 hk4 hcz hP1 hZ hkk h1
        go_wp2_with (first
          | (refine wpList_load_row rfl 59 (.tmp 3) rfl X rfl _ _ _ _ hPf.out Try.underlying59 rfl (page_size _) ?_)
          | (refine wpList_store_row rfl 59 (.tmp 4) (.tmp 37) rfl (X + 1) _ rfl rfl _ _ hZf.out (page_size _) (by rw [pageC_size, pageC_size]) (pageC_oneCell _) ?_))
        refine bodyPost_ret (results_cell_row rfl _ _ (X + 1) _ _ _ _ rfl (heap_setRow hZf.out) Try.underlying59 rfl (page_size _)) rfl ?_
        exact ⟨_, rfl, hkf.setRowB (by omega) _, hcf.setRowB (by omega) _⟩

end Go.Proofs.Ytldkgmodmpnclaa
