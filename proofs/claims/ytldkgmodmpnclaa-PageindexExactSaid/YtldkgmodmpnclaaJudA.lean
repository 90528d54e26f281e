/- Judge: a page is held against the index; the program's walk and the reference's. -/
import Derived.Test.YtldkgmodmpnclaaIxB
import Derived.Test.YtldkgmodmpnclaaPlainF
namespace Go.Proofs.Ytldkgmodmpnclaa
open Go.RowKit Go.Proofs
set_option linter.unusedVariables false
set_option linter.unusedSimpArgs false
/-- What Judge answers. -/
def judgeI (l : List Row3) (id pos : Int) (s : ByteArray) : Page × Int :=
  if idxOk l = false then (Page.zero, 28)
  else if (decide (0 ≤ id) && decide (id < l.length)) = false then (Page.zero, 1)
  else if pos < 0 then (Page.zero, 1)
  else if (idP s id).2 ≠ 0 then (Page.zero, (idP s id).2)
  else if pos < (idP s id).1.lsn ∧ (l.getD id.toNat Row3.zero).lsn < (idP s id).1.lsn then (Page.zero, 9)
  else if (idP s id).1.lsn < (l.getD id.toNat Row3.zero).lsn then (Page.zero, 8)
  else ((idP s id).1, 0)
theorem judge_bad {l : List Row3} {id pos : Int} {s : ByteArray} (h : idxOk l = false) : judgeI l id pos s = (Page.zero, 28) := by unfold judgeI; rw [if_pos h]
theorem judge_off {l : List Row3} {id pos : Int} {s : ByteArray} (h : idxOk l = true) (h2 : (decide (0 ≤ id) && decide (id < l.length)) = false) : judgeI l id pos s = (Page.zero, 1) := by unfold judgeI; rw [if_neg (by simp [h]), if_pos h2]
theorem judge_neg {l : List Row3} {id pos : Int} {s : ByteArray} (h : idxOk l = true) (h3 : pos < 0) : judgeI l id pos s = (Page.zero, 1) := by
  unfold judgeI
  rw [if_neg (by simp [h])]
  split
  · rfl
  · first | rfl | rw [if_pos h3]
theorem judge_in {l : List Row3} {i : Nat} {pos k : Int} {d : Page} {r : Row3} {s : ByteArray} (h : idxOk l = true) (hr : l[i]? = some r) (h3 : ¬ pos < 0) (hd : idP s i = (d, k)) :
    judgeI l i pos s = if k ≠ 0 then (Page.zero, k) else if pos < d.lsn ∧ r.lsn < d.lsn then (Page.zero, 9) else if d.lsn < r.lsn then (Page.zero, 8) else (d, 0) := by
  have hi := (List.getElem?_eq_some_iff.1 hr).1
  unfold judgeI
  rw [if_neg (by simp [h]), if_neg (by simp; omega), if_neg h3, hd, Int.toNat_natCast, List.getD_eq_getElem?_getD, hr]
  rfl
theorem judge_wf (l : List Row3) (id pos : Int) (s : ByteArray) : PgWf (judgeI l id pos s).1 := by
  unfold judgeI
  repeat' split
  all_goals first | exact wf_zero | exact idP_wf s id
set_option maxHeartbeats 4000000 in
set_option maxRecDepth 100000 in
theorem judge_calls (g : Nat) (a : Option Addr) (n c : Nat) (l : List Row3) (id pos : Int) (s : ByteArray) (w : World) (h : RwAt w g a n c l) (hs : s.size ≤ 1000000000000) :
    Calls Try.prog 41 #[.agg #[.slice a n c], .int .i64 id, .int .i64 pos, .string s] w fun e w' => e = .returned (ansP (judgeI l id pos s)) ∧ Below w.heap.size w w' := by
  obtain ⟨A, hA⟩ : ∃ A, w.heap.size = A := ⟨_, rfl⟩
  obtain ⟨W, hW⟩ : ∃ W, (w.alloc (.cells #[.slice a n c] 25)).alloc (.cells (pageC Page.zero) 59) = W := ⟨_, rfl⟩
  have hs1 : (w.alloc (.cells #[.slice a n c] 25)).heap.size = A + 1 := by simp [hA]
  have hWs : W.heap.size = A + 2 := by rw [← hW]; simp [hA]
  have hWa : W.heap[A]? = some (.cells #[.slice a n c] 25 (0, 0)) := by rw [← hW, ← hA]; exact heap_alloc_of (heap_alloc_new _ _)
  have hWp : PgAt W (A + 1) Page.zero := by rw [← hW, ← hs1]; exact heap_alloc_new _ _
  have hb : Below A w W := by rw [← hW, ← hA]; exact ((Below.refl _ _).alloc (Nat.le_refl _) _).alloc (by simp) _
  have H1 : RwAt W g a n c l := by rw [← hW]; exact (h.alloc _).alloc _
  have hWc : W.cell? ⟨A, 0, none⟩ = some (.slice a n c) := by rw [heap_cell hWa]; rfl
  have hln := h.len
  have HV := Lib.hid (fun W h => validIdx_calls g a n c l W h)
  have HT_ := Lib.hid (fun W => there_calls a n c id W)
  have HI := Lib.hid (fun W => identify_calls s id W hs)
  obtain ⟨b0, e0⟩ : ∃ b, idxOk l = b := ⟨_, rfl⟩
  obtain ⟨b1, e1⟩ : ∃ b, (decide (0 ≤ id) && decide (id < n)) = b := ⟨_, rfl⟩
  rw [e0] at HV
  rw [e1] at HT_
  have HW := Lib.hid (show ∀ W', Below W.heap.size W W' → PgAt W' (A + 1) Page.zero ∧ W'.cell? ⟨A, 0, none⟩ = some (.slice a n c) ∧ RwAt W' g a n c l from fun W' hB => by
    have k3 := hWp.below hB (by omega)
    have k0 := (hB.block A (by omega)).trans hWa
    exact ⟨k3, by rw [heap_cell k0]; rfl, H1.below hB⟩)
  have H := Lib.hid H1
  have HB := Lib.hid hb
  have HLN := Lib.hid hln
  have HE0 := Lib.hid e0
  have HE1 := Lib.hid e1
  have HWW := Lib.hid hW
  clear h H1 hWa hWp hb hln e0 e1 hW hs1 hs
  go_enter Try.func41, Try.ntmps41
  go_wp2_with (first
    | (refine wpList_alloc_row rfl 59 rfl (pageC Page.zero) zero59 ?_)
    | fail)
  rw [HWW.out]
  try rw [hA]
  refine (HV.out W H.out).mono ?_
  rintro r_ w1 ⟨rfl, hB1⟩
  obtain ⟨k3, k4, k5⟩ := HW.out w1 hB1
  have K3 := Lib.hid k3
  have HB1 := Lib.hid (HB.out.trans (hB1.mono (by omega)))
  have HBW1 := Lib.hid hB1
  clear k3 hB1 k5
  cases b0
  · have HT := Lib.hid (judge_bad (id := id) (pos := pos) (s := s) HE0.out)
    go_wp2_with (first
      | (refine wpList_store_row rfl 59 (.tmp 8) (.tmp 17) rfl _ (pageC Page.zero) rfl rfl _ _ K3.out (page_size _) rfl (pageC_oneCell _) ?_)
      | fail)
    exact end59 rfl rfl K3.out.row rfl rfl ⟨by rw [HT.out], by rw [hA]; exact below_setRow HB1.out (by omega) _⟩
  · go_wp2_with fail
    refine (HT_.out _).mono ?_
    rintro r_ w2 ⟨rfl, hB2⟩
    have hBW2 := HBW1.out.trans (hB2.mono HBW1.out.size)
    obtain ⟨m3, m4, m5⟩ := HW.out w2 hBW2
    have M3 := Lib.hid m3
    have HB2 := Lib.hid (HB.out.trans (hBW2.mono (by omega)))
    have HBW2 := Lib.hid hBW2
    clear m3 hBW2 hB2 m5 k4
    cases b1
    · have HT := Lib.hid (judge_off (pos := pos) (s := s) HE0.out (by rw [HLN.out]; exact HE1.out))
      go_wp2_with (first
        | (refine wpList_store_row rfl 59 (.tmp 8) (.tmp 27) rfl _ (pageC Page.zero) rfl rfl _ _ M3.out (page_size _) rfl (pageC_oneCell _) ?_)
        | fail)
      exact end59 rfl rfl M3.out.row rfl rfl ⟨by rw [HT.out], by rw [hA]; exact below_setRow HB2.out (by omega) _⟩
    · by_cases hp : pos < 0
      · have hp1 : decide (pos < 0) = true := by simpa using hp
        have HT := Lib.hid (judge_neg (l := l) (id := id) (s := s) HE0.out hp)
        go_wp2_with (first
          | (refine wpList_store_row rfl 59 (.tmp 8) (.tmp 27) rfl _ (pageC Page.zero) rfl rfl _ _ M3.out (page_size _) rfl (pageC_oneCell _) ?_)
          | fail)
        exact end59 rfl rfl M3.out.row rfl rfl ⟨by rw [HT.out], by rw [hA]; exact below_setRow HB2.out (by omega) _⟩
      · have hp1 : decide (pos < 0) = false := by simpa using hp
        have HP := Lib.hid hp
        clear hp
        go_wp2_with fail
        refine (HI.out _).mono ?_
        rintro r_ w3 ⟨rfl, hB3⟩
        obtain ⟨⟨d, k⟩, hd⟩ : ∃ d, idP s id = d := ⟨_, rfl⟩
        rw [hd]
        have HD := Lib.hid hd
        have hBW3 := HBW2.out.trans (hB3.mono HBW2.out.size)
        obtain ⟨o3, o4, o5⟩ := HW.out w3 hBW3
        have hx := HE1.out
        simp only [Bool.and_eq_true, decide_eq_true_eq] at hx
        obtain ⟨i, rfl⟩ : ∃ i : Nat, id = i := ⟨id.toNat, by omega⟩
        obtain ⟨bb, off, r, ha, hr, hrg, _⟩ := o5.row i (by omega)
        have HIN := Lib.hid (judge_in (pos := pos) HE0.out hr (by have := HP.out; omega) HD.out)
        have y3 := o3.alloc (.cells (pageC d) 59)
        have hPd := PgAt.new w3 d
        have hsz3 := hBW3.size
        have yA : (w3.alloc (.cells (pageC d) 59)).cell? ⟨A, 0, none⟩ = some (.slice a n c) := (World.cell?_of_block (w := w3) (a := ⟨A, 0, none⟩) (Below.heap_alloc _ _ _ (show A < w3.heap.size by omega))).trans o4
        have hrl := hrg 0 _ rfl
        simp only [Nat.add_zero] at hrl
        have hbl := World.block_lt_of_cell? w3 _ hrl
        have yR : (w3.alloc (.cells (pageC d) 59)).cell? ⟨bb, off + i * 3, none⟩ = some (.int .i64 r.lsn) := (World.cell?_of_block (w := w3) (a := ⟨bb, off + i * 3, none⟩) (Below.heap_alloc _ _ _ hbl)).trans hrl
        have yL := hPd.lsn
        have j0 : (i : Int) < n := by omega
        have j1 : decide (i < n) = true := by simp; omega
        have j2 : decide (n ≤ i) = false := by simp; omega
        have Y3 := Lib.hid y3
        have HBx := Lib.hid ((HB.out.trans (hBW3.mono (by omega))).alloc (by omega) (.cells (pageC d) 59))
        have hPd := Lib.hid hPd
        subst ha
        clear hd hBW3 hB3 o3 o4 o5 hr hrg hrl y3 hx
        unfold ansP
        by_cases hk : k = 0
        · have kk : (k != 0) = false := by simp [hk]
          subst hk
          by_cases h2 : r.lsn < d.lsn
          · have d2 : decide (r.lsn < d.lsn) = true := by simpa using h2
            have d3 : decide (d.lsn < r.lsn) = false := by simp; omega
            by_cases h1 : pos < d.lsn
            · have d1 : decide (pos < d.lsn) = true := by simpa using h1
              have HT := Lib.hid (show judgeI l i pos s = (Page.zero, 9) from by rw [HIN.out]; simp [h1, h2])
              go_wp2_with (first
                | (refine wpList_store_row rfl 59 (.tmp 8) (.tmp 56) rfl _ (pageC Page.zero) rfl rfl _ _ Y3.out (page_size _) rfl (pageC_oneCell _) ?_)
                | (refine wpList_alloc_row rfl 59 rfl (pageC Page.zero) zero59 ?_)
                | (refine wpList_store_row rfl 59 (.tmp 10) (.tmp 32) rfl _ (pageC d) rfl rfl _ _ (heap_alloc_new _ _) (page_size _) (by rw [pageC_size, pageC_size]) (pageC_oneCell _) ?_; rw [World.setRow_alloc_new])
                | (refine wpList_load_row rfl 59 (.tmp 10) rfl w3.heap.size rfl _ _ _ _ hPd.out.out Try.underlying59 rfl (page_size _) ?_)
                | fail)
              exact end59 rfl rfl Y3.out.row rfl rfl ⟨by rw [HT.out], by rw [hA]; exact below_setRow HBx.out (by omega) _⟩
            · have d1 : decide (pos < d.lsn) = false := by simpa using h1
              have HT := Lib.hid (show judgeI l i pos s = (d, 0) from by rw [HIN.out]; simp [h1]; omega)
              go_wp2_with (first
                | (refine wpList_store_row rfl 59 (.tmp 8) (.tmp 63) rfl _ (pageC d) rfl rfl _ _ Y3.out (page_size _) (by rw [pageC_size, pageC_size]) (pageC_oneCell _) ?_)
                | (refine wpList_alloc_row rfl 59 rfl (pageC Page.zero) zero59 ?_)
                | (refine wpList_store_row rfl 59 (.tmp 10) (.tmp 32) rfl _ (pageC d) rfl rfl _ _ (heap_alloc_new _ _) (page_size _) (by rw [pageC_size, pageC_size]) (pageC_oneCell _) ?_; rw [World.setRow_alloc_new])
                | (refine wpList_load_row rfl 59 (.tmp 10) rfl w3.heap.size rfl _ _ _ _ hPd.out.out Try.underlying59 rfl (page_size _) ?_)
                | fail)
              exact end59 rfl rfl Y3.out.row rfl rfl ⟨by rw [HT.out], by rw [hA]; exact below_setRow HBx.out (by omega) _⟩
          · have d2 : decide (r.lsn < d.lsn) = false := by simpa using h2
            by_cases h3 : d.lsn < r.lsn
            · have d3 : decide (d.lsn < r.lsn) = true := by simpa using h3
              cases d1 : decide (pos < d.lsn)
              · have HT := Lib.hid (show judgeI l i pos s = (Page.zero, 8) from by rw [HIN.out]; simp [h2, h3])
                go_wp2_with (first
                  | (refine wpList_store_row rfl 59 (.tmp 8) (.tmp 62) rfl _ (pageC Page.zero) rfl rfl _ _ Y3.out (page_size _) rfl (pageC_oneCell _) ?_)
                  | (refine wpList_alloc_row rfl 59 rfl (pageC Page.zero) zero59 ?_)
                  | (refine wpList_store_row rfl 59 (.tmp 10) (.tmp 32) rfl _ (pageC d) rfl rfl _ _ (heap_alloc_new _ _) (page_size _) (by rw [pageC_size, pageC_size]) (pageC_oneCell _) ?_; rw [World.setRow_alloc_new])
                  | (refine wpList_load_row rfl 59 (.tmp 10) rfl w3.heap.size rfl _ _ _ _ hPd.out.out Try.underlying59 rfl (page_size _) ?_)
                  | fail)
                exact end59 rfl rfl Y3.out.row rfl rfl ⟨by rw [HT.out], by rw [hA]; exact below_setRow HBx.out (by omega) _⟩
              · have HT := Lib.hid (show judgeI l i pos s = (Page.zero, 8) from by rw [HIN.out]; simp [h2, h3])
                go_wp2_with (first
                  | (refine wpList_store_row rfl 59 (.tmp 8) (.tmp 62) rfl _ (pageC Page.zero) rfl rfl _ _ Y3.out (page_size _) rfl (pageC_oneCell _) ?_)
                  | (refine wpList_alloc_row rfl 59 rfl (pageC Page.zero) zero59 ?_)
                  | (refine wpList_store_row rfl 59 (.tmp 10) (.tmp 32) rfl _ (pageC d) rfl rfl _ _ (heap_alloc_new _ _) (page_size _) (by rw [pageC_size, pageC_size]) (pageC_oneCell _) ?_; rw [World.setRow_alloc_new])
                  | (refine wpList_load_row rfl 59 (.tmp 10) rfl w3.heap.size rfl _ _ _ _ hPd.out.out Try.underlying59 rfl (page_size _) ?_)
                  | fail)
                exact end59 rfl rfl Y3.out.row rfl rfl ⟨by rw [HT.out], by rw [hA]; exact below_setRow HBx.out (by omega) _⟩
            · have d3 : decide (d.lsn < r.lsn) = false := by simpa using h3
              cases d1 : decide (pos < d.lsn)
              · have HT := Lib.hid (show judgeI l i pos s = (d, 0) from by rw [HIN.out]; simp [h2, h3])
                go_wp2_with (first
                  | (refine wpList_store_row rfl 59 (.tmp 8) (.tmp 63) rfl _ (pageC d) rfl rfl _ _ Y3.out (page_size _) (by rw [pageC_size, pageC_size]) (pageC_oneCell _) ?_)
                  | (refine wpList_alloc_row rfl 59 rfl (pageC Page.zero) zero59 ?_)
                  | (refine wpList_store_row rfl 59 (.tmp 10) (.tmp 32) rfl _ (pageC d) rfl rfl _ _ (heap_alloc_new _ _) (page_size _) (by rw [pageC_size, pageC_size]) (pageC_oneCell _) ?_; rw [World.setRow_alloc_new])
                  | (refine wpList_load_row rfl 59 (.tmp 10) rfl w3.heap.size rfl _ _ _ _ hPd.out.out Try.underlying59 rfl (page_size _) ?_)
                  | fail)
                exact end59 rfl rfl Y3.out.row rfl rfl ⟨by rw [HT.out], by rw [hA]; exact below_setRow HBx.out (by omega) _⟩
              · have HT := Lib.hid (show judgeI l i pos s = (d, 0) from by rw [HIN.out]; simp [h2, h3])
                go_wp2_with (first
                  | (refine wpList_store_row rfl 59 (.tmp 8) (.tmp 63) rfl _ (pageC d) rfl rfl _ _ Y3.out (page_size _) (by rw [pageC_size, pageC_size]) (pageC_oneCell _) ?_)
                  | (refine wpList_alloc_row rfl 59 rfl (pageC Page.zero) zero59 ?_)
                  | (refine wpList_store_row rfl 59 (.tmp 10) (.tmp 32) rfl _ (pageC d) rfl rfl _ _ (heap_alloc_new _ _) (page_size _) (by rw [pageC_size, pageC_size]) (pageC_oneCell _) ?_; rw [World.setRow_alloc_new])
                  | (refine wpList_load_row rfl 59 (.tmp 10) rfl w3.heap.size rfl _ _ _ _ hPd.out.out Try.underlying59 rfl (page_size _) ?_)
                  | fail)
                exact end59 rfl rfl Y3.out.row rfl rfl ⟨by rw [HT.out], by rw [hA]; exact below_setRow HBx.out (by omega) _⟩
        · have kk : (k != 0) = true := by simpa using hk
          have HT := Lib.hid (show judgeI l i pos s = (Page.zero, k) from by rw [HIN.out, if_pos hk])
          go_wp2_with (first
            | (refine wpList_store_row rfl 59 (.tmp 8) (.tmp 43) rfl _ (pageC Page.zero) rfl rfl _ _ Y3.out (page_size _) rfl (pageC_oneCell _) ?_)
            | (refine wpList_alloc_row rfl 59 rfl (pageC Page.zero) zero59 ?_)
            | (refine wpList_store_row rfl 59 (.tmp 10) (.tmp 32) rfl _ (pageC d) rfl rfl _ _ (heap_alloc_new _ _) (page_size _) (by rw [pageC_size, pageC_size]) (pageC_oneCell _) ?_; rw [World.setRow_alloc_new])
            | (refine wpList_load_row rfl 59 (.tmp 10) rfl w3.heap.size rfl _ _ _ _ hPd.out.out Try.underlying59 rfl (page_size _) ?_)
            | fail)
          exact end59 rfl rfl Y3.out.row rfl rfl ⟨by rw [HT.out], by rw [hA]; exact below_setRow HBx.out (by omega) _⟩
set_option maxHeartbeats 4000000 in
set_option maxRecDepth 100000 in
theorem judge11_calls (g : Nat) (a : Option Addr) (n c : Nat) (l : List Row3) (id pos : Int) (s : ByteArray) (w : World) (h : RwAt w g a n c l) (hs : s.size ≤ 1000000000000) :
    Calls Try.prog 42 #[.agg #[.slice a n c], .int .i64 id, .int .i64 pos, .string s] w fun e w' => e = .returned (ansP (judgeI l id pos s)) ∧ Below w.heap.size w w' := by
  obtain ⟨A, hA⟩ : ∃ A, w.heap.size = A := ⟨_, rfl⟩
  obtain ⟨W, hW⟩ : ∃ W, (w.alloc (.cells #[.slice a n c] 25)).alloc (.cells (pageC Page.zero) 59) = W := ⟨_, rfl⟩
  have hs1 : (w.alloc (.cells #[.slice a n c] 25)).heap.size = A + 1 := by simp [hA]
  have hWs : W.heap.size = A + 2 := by rw [← hW]; simp [hA]
  have hWa : W.heap[A]? = some (.cells #[.slice a n c] 25 (0, 0)) := by rw [← hW, ← hA]; exact heap_alloc_of (heap_alloc_new _ _)
  have hWp : PgAt W (A + 1) Page.zero := by rw [← hW, ← hs1]; exact heap_alloc_new _ _
  have hb : Below A w W := by rw [← hW, ← hA]; exact ((Below.refl _ _).alloc (Nat.le_refl _) _).alloc (by simp) _
  have H1 : RwAt W g a n c l := by rw [← hW]; exact (h.alloc _).alloc _
  have hWc : W.cell? ⟨A, 0, none⟩ = some (.slice a n c) := by rw [heap_cell hWa]; rfl
  have hln := h.len
  have HV := Lib.hid (fun W h => valid11_calls g a n c l W h)
  have HT_ := Lib.hid (fun W => there_calls a n c id W)
  have HI := Lib.hid (fun W => identify02_calls s id W hs)
  obtain ⟨b0, e0⟩ : ∃ b, idxOk l = b := ⟨_, rfl⟩
  obtain ⟨b1, e1⟩ : ∃ b, (decide (0 ≤ id) && decide (id < n)) = b := ⟨_, rfl⟩
  rw [e0] at HV
  rw [e1] at HT_
  have HW := Lib.hid (show ∀ W', Below W.heap.size W W' → PgAt W' (A + 1) Page.zero ∧ W'.cell? ⟨A, 0, none⟩ = some (.slice a n c) ∧ RwAt W' g a n c l from fun W' hB => by
    have k3 := hWp.below hB (by omega)
    have k0 := (hB.block A (by omega)).trans hWa
    exact ⟨k3, by rw [heap_cell k0]; rfl, H1.below hB⟩)
  have H := Lib.hid H1
  have HB := Lib.hid hb
  have HLN := Lib.hid hln
  have HE0 := Lib.hid e0
  have HE1 := Lib.hid e1
  have HWW := Lib.hid hW
  clear h H1 hWa hWp hb hln e0 e1 hW hs1 hs
  go_enter Try.func42, Try.ntmps42
  go_wp2_with (first
    | (refine wpList_alloc_row rfl 59 rfl (pageC Page.zero) zero59 ?_)
    | fail)
  rw [HWW.out]
  try rw [hA]
  refine (HV.out W H.out).mono ?_
  rintro r_ w1 ⟨rfl, hB1⟩
  obtain ⟨k3, k4, k5⟩ := HW.out w1 hB1
  have K3 := Lib.hid k3
  have HB1 := Lib.hid (HB.out.trans (hB1.mono (by omega)))
  have HBW1 := Lib.hid hB1
  clear k3 hB1 k5
  cases b0
  · have HT := Lib.hid (judge_bad (id := id) (pos := pos) (s := s) HE0.out)
    go_wp2_with (first
      | (refine wpList_store_row rfl 59 (.tmp 8) (.tmp 15) rfl _ (pageC Page.zero) rfl rfl _ _ K3.out (page_size _) rfl (pageC_oneCell _) ?_)
      | fail)
    exact end59 rfl rfl K3.out.row rfl rfl ⟨by rw [HT.out], by rw [hA]; exact below_setRow HB1.out (by omega) _⟩
  · cases b1
    · have hx := HE1.out
      by_cases h0 : id < 0
      · have q0 : decide (id < 0) = true := by simpa using h0
        have HT := Lib.hid (judge_off (pos := pos) (s := s) HE0.out (by rw [HLN.out]; exact HE1.out))
        go_wp2_with (first
          | (refine wpList_store_row rfl 59 (.tmp 8) (.tmp 29) rfl _ (pageC Page.zero) rfl rfl _ _ K3.out (page_size _) rfl (pageC_oneCell _) ?_)
          | fail)
        exact end59 rfl rfl K3.out.row rfl rfl ⟨by rw [HT.out], by rw [hA]; exact below_setRow HB1.out (by omega) _⟩
      · have q0 : decide (id < 0) = false := by simpa using h0
        have q1 : decide ((n : Int) ≤ id) = true := by simp at hx ⊢; omega
        have HT := Lib.hid (judge_off (pos := pos) (s := s) HE0.out (by rw [HLN.out]; exact HE1.out))
        go_wp2_with (first
          | (refine wpList_store_row rfl 59 (.tmp 8) (.tmp 29) rfl _ (pageC Page.zero) rfl rfl _ _ K3.out (page_size _) rfl (pageC_oneCell _) ?_)
          | fail)
        exact end59 rfl rfl K3.out.row rfl rfl ⟨by rw [HT.out], by rw [hA]; exact below_setRow HB1.out (by omega) _⟩
    · have hx := HE1.out
      simp only [Bool.and_eq_true, decide_eq_true_eq] at hx
      have q0 : decide (id < 0) = false := by simp; omega
      have q1 : decide ((n : Int) ≤ id) = false := by simp; omega
      by_cases hp : pos < 0
      · have hp1 : decide (pos < 0) = true := by simpa using hp
        have HT := Lib.hid (judge_neg (l := l) (id := id) (s := s) HE0.out hp)
        go_wp2_with (first
          | (refine wpList_store_row rfl 59 (.tmp 8) (.tmp 29) rfl _ (pageC Page.zero) rfl rfl _ _ K3.out (page_size _) rfl (pageC_oneCell _) ?_)
          | fail)
        exact end59 rfl rfl K3.out.row rfl rfl ⟨by rw [HT.out], by rw [hA]; exact below_setRow HB1.out (by omega) _⟩
      · have hp1 : decide (pos < 0) = false := by simpa using hp
        clear hx
        have HP := Lib.hid hp
        clear hp
        go_wp2_with fail
        refine (HI.out _).mono ?_
        rintro r_ w3 ⟨rfl, hB3⟩
        obtain ⟨⟨d, k⟩, hd⟩ : ∃ d, idP s id = d := ⟨_, rfl⟩
        rw [hd]
        have HD := Lib.hid hd
        have hBW3 := HBW1.out.trans (hB3.mono HBW1.out.size)
        obtain ⟨o3, o4, o5⟩ := HW.out w3 hBW3
        have hx := HE1.out
        simp only [Bool.and_eq_true, decide_eq_true_eq] at hx
        obtain ⟨i, rfl⟩ : ∃ i : Nat, id = i := ⟨id.toNat, by omega⟩
        obtain ⟨bb, off, r, ha, hr, hrg, _⟩ := o5.row i (by omega)
        have HIN := Lib.hid (judge_in (pos := pos) HE0.out hr (by have := HP.out; omega) HD.out)
        have y3 := o3.alloc (.cells (pageC d) 59)
        have hPd := PgAt.new w3 d
        have hsz3 := hBW3.size
        have yA : (w3.alloc (.cells (pageC d) 59)).cell? ⟨A, 0, none⟩ = some (.slice a n c) := (World.cell?_of_block (w := w3) (a := ⟨A, 0, none⟩) (Below.heap_alloc _ _ _ (show A < w3.heap.size by omega))).trans o4
        have hrl := hrg 0 _ rfl
        simp only [Nat.add_zero] at hrl
        have hbl := World.block_lt_of_cell? w3 _ hrl
        have yR : (w3.alloc (.cells (pageC d) 59)).cell? ⟨bb, off + i * 3, none⟩ = some (.int .i64 r.lsn) := (World.cell?_of_block (w := w3) (a := ⟨bb, off + i * 3, none⟩) (Below.heap_alloc _ _ _ hbl)).trans hrl
        have yL := hPd.lsn
        have j0 : (i : Int) < n := by omega
        have j1 : decide (i < n) = true := by simp; omega
        have j2 : decide (n ≤ i) = false := by simp; omega
        have Y3 := Lib.hid y3
        have HBx := Lib.hid ((HB.out.trans (hBW3.mono (by omega))).alloc (by omega) (.cells (pageC d) 59))
        have hPd := Lib.hid hPd
        subst ha
        clear hd hBW3 hB3 o3 o4 o5 hr hrg hrl y3 hx
        unfold ansP
        by_cases hk : k = 0
        · have kk : (k != 0) = false := by simp [hk]
          subst hk
          by_cases h2 : r.lsn < d.lsn
          · have d2 : decide (r.lsn < d.lsn) = true := by simpa using h2
            have d3 : decide (d.lsn < r.lsn) = false := by simp; omega
            by_cases h1 : pos < d.lsn
            · have d1 : decide (pos < d.lsn) = true := by simpa using h1
              have HT := Lib.hid (show judgeI l i pos s = (Page.zero, 9) from by rw [HIN.out]; simp [h1, h2])
              go_wp2_with (first
                | (refine wpList_alloc_row rfl 59 rfl (pageC Page.zero) zero59 ?_)
                | (refine wpList_store_row rfl 59 (.tmp 10) (.tmp 34) rfl _ (pageC d) rfl rfl _ _ (heap_alloc_new _ _) (page_size _) (by rw [pageC_size, pageC_size]) (pageC_oneCell _) ?_; rw [World.setRow_alloc_new])
                | (refine wpList_load_row rfl 59 (.tmp 10) rfl w3.heap.size rfl _ _ _ _ hPd.out.out Try.underlying59 rfl (page_size _) ?_)
                | fail)
              go_region
              go_wp2_with (first
                | (refine wpList_store_row rfl 59 (.tmp 8) (.tmp 57) rfl _ (pageC Page.zero) rfl rfl _ _ Y3.out (page_size _) rfl (pageC_oneCell _) ?_)
                | (refine wpList_alloc_row rfl 59 rfl (pageC Page.zero) zero59 ?_)
                | (refine wpList_store_row rfl 59 (.tmp 10) (.tmp 34) rfl _ (pageC d) rfl rfl _ _ (heap_alloc_new _ _) (page_size _) (by rw [pageC_size, pageC_size]) (pageC_oneCell _) ?_; rw [World.setRow_alloc_new])
                | (refine wpList_load_row rfl 59 (.tmp 10) rfl w3.heap.size rfl _ _ _ _ hPd.out.out Try.underlying59 rfl (page_size _) ?_)
                | fail)
              exact end59 rfl rfl Y3.out.row rfl rfl ⟨by rw [HT.out], by rw [hA]; first | exact below_setRow HBx.out (show A ≤ A + 1 by omega) _ | exact below_setRow HBx.out.drew (show A ≤ A + 1 by omega) _ | exact below_setRow HBx.out.drew.drew (show A ≤ A + 1 by omega) _⟩
            · have d1 : decide (pos < d.lsn) = false := by simpa using h1
              have HT := Lib.hid (show judgeI l i pos s = (d, 0) from by rw [HIN.out]; simp [h1]; omega)
              go_wp2_with (first
                | (refine wpList_alloc_row rfl 59 rfl (pageC Page.zero) zero59 ?_)
                | (refine wpList_store_row rfl 59 (.tmp 10) (.tmp 34) rfl _ (pageC d) rfl rfl _ _ (heap_alloc_new _ _) (page_size _) (by rw [pageC_size, pageC_size]) (pageC_oneCell _) ?_; rw [World.setRow_alloc_new])
                | (refine wpList_load_row rfl 59 (.tmp 10) rfl w3.heap.size rfl _ _ _ _ hPd.out.out Try.underlying59 rfl (page_size _) ?_)
                | fail)
              go_region
              go_wp2_with fail
              go_region
              go_wp2_with (first
                | (refine wpList_store_row rfl 59 (.tmp 8) (.tmp 69) rfl _ (pageC d) rfl rfl _ _ Y3.out (page_size _) (by rw [pageC_size, pageC_size]) (pageC_oneCell _) ?_)
                | (refine wpList_alloc_row rfl 59 rfl (pageC Page.zero) zero59 ?_)
                | (refine wpList_store_row rfl 59 (.tmp 10) (.tmp 34) rfl _ (pageC d) rfl rfl _ _ (heap_alloc_new _ _) (page_size _) (by rw [pageC_size, pageC_size]) (pageC_oneCell _) ?_; rw [World.setRow_alloc_new])
                | (refine wpList_load_row rfl 59 (.tmp 10) rfl w3.heap.size rfl _ _ _ _ hPd.out.out Try.underlying59 rfl (page_size _) ?_)
                | fail)
              exact end59 rfl rfl Y3.out.row rfl rfl ⟨by rw [HT.out], by rw [hA]; first | exact below_setRow HBx.out (show A ≤ A + 1 by omega) _ | exact below_setRow HBx.out.drew (show A ≤ A + 1 by omega) _ | exact below_setRow HBx.out.drew.drew (show A ≤ A + 1 by omega) _⟩
          · have d2 : decide (r.lsn < d.lsn) = false := by simpa using h2
            by_cases h3 : d.lsn < r.lsn
            · have d3 : decide (d.lsn < r.lsn) = true := by simpa using h3
              cases d1 : decide (pos < d.lsn)
              · have HT := Lib.hid (show judgeI l i pos s = (Page.zero, 8) from by rw [HIN.out]; simp [h2, h3])
                go_wp2_with (first
                  | (refine wpList_alloc_row rfl 59 rfl (pageC Page.zero) zero59 ?_)
                  | (refine wpList_store_row rfl 59 (.tmp 10) (.tmp 34) rfl _ (pageC d) rfl rfl _ _ (heap_alloc_new _ _) (page_size _) (by rw [pageC_size, pageC_size]) (pageC_oneCell _) ?_; rw [World.setRow_alloc_new])
                  | (refine wpList_load_row rfl 59 (.tmp 10) rfl w3.heap.size rfl _ _ _ _ hPd.out.out Try.underlying59 rfl (page_size _) ?_)
                  | fail)
                go_region
                go_wp2_with fail
                go_region
                go_wp2_with (first
                  | (refine wpList_store_row rfl 59 (.tmp 8) (.tmp 68) rfl _ (pageC Page.zero) rfl rfl _ _ Y3.out (page_size _) rfl (pageC_oneCell _) ?_)
                  | (refine wpList_alloc_row rfl 59 rfl (pageC Page.zero) zero59 ?_)
                  | (refine wpList_store_row rfl 59 (.tmp 10) (.tmp 34) rfl _ (pageC d) rfl rfl _ _ (heap_alloc_new _ _) (page_size _) (by rw [pageC_size, pageC_size]) (pageC_oneCell _) ?_; rw [World.setRow_alloc_new])
                  | (refine wpList_load_row rfl 59 (.tmp 10) rfl w3.heap.size rfl _ _ _ _ hPd.out.out Try.underlying59 rfl (page_size _) ?_)
                  | fail)
                exact end59 rfl rfl Y3.out.row rfl rfl ⟨by rw [HT.out], by rw [hA]; first | exact below_setRow HBx.out (show A ≤ A + 1 by omega) _ | exact below_setRow HBx.out.drew (show A ≤ A + 1 by omega) _ | exact below_setRow HBx.out.drew.drew (show A ≤ A + 1 by omega) _⟩
              · have HT := Lib.hid (show judgeI l i pos s = (Page.zero, 8) from by rw [HIN.out]; simp [h2, h3])
                go_wp2_with (first
                  | (refine wpList_alloc_row rfl 59 rfl (pageC Page.zero) zero59 ?_)
                  | (refine wpList_store_row rfl 59 (.tmp 10) (.tmp 34) rfl _ (pageC d) rfl rfl _ _ (heap_alloc_new _ _) (page_size _) (by rw [pageC_size, pageC_size]) (pageC_oneCell _) ?_; rw [World.setRow_alloc_new])
                  | (refine wpList_load_row rfl 59 (.tmp 10) rfl w3.heap.size rfl _ _ _ _ hPd.out.out Try.underlying59 rfl (page_size _) ?_)
                  | fail)
                go_region
                go_wp2_with fail
                go_region
                go_wp2_with (first
                  | (refine wpList_store_row rfl 59 (.tmp 8) (.tmp 68) rfl _ (pageC Page.zero) rfl rfl _ _ Y3.out (page_size _) rfl (pageC_oneCell _) ?_)
                  | (refine wpList_alloc_row rfl 59 rfl (pageC Page.zero) zero59 ?_)
                  | (refine wpList_store_row rfl 59 (.tmp 10) (.tmp 34) rfl _ (pageC d) rfl rfl _ _ (heap_alloc_new _ _) (page_size _) (by rw [pageC_size, pageC_size]) (pageC_oneCell _) ?_; rw [World.setRow_alloc_new])
                  | (refine wpList_load_row rfl 59 (.tmp 10) rfl w3.heap.size rfl _ _ _ _ hPd.out.out Try.underlying59 rfl (page_size _) ?_)
                  | fail)
                exact end59 rfl rfl Y3.out.row rfl rfl ⟨by rw [HT.out], by rw [hA]; first | exact below_setRow HBx.out (show A ≤ A + 1 by omega) _ | exact below_setRow HBx.out.drew (show A ≤ A + 1 by omega) _ | exact below_setRow HBx.out.drew.drew (show A ≤ A + 1 by omega) _⟩
            · have d3 : decide (d.lsn < r.lsn) = false := by simpa using h3
              cases d1 : decide (pos < d.lsn)
              · have HT := Lib.hid (show judgeI l i pos s = (d, 0) from by rw [HIN.out]; simp [h2, h3])
                go_wp2_with (first
                  | (refine wpList_alloc_row rfl 59 rfl (pageC Page.zero) zero59 ?_)
                  | (refine wpList_store_row rfl 59 (.tmp 10) (.tmp 34) rfl _ (pageC d) rfl rfl _ _ (heap_alloc_new _ _) (page_size _) (by rw [pageC_size, pageC_size]) (pageC_oneCell _) ?_; rw [World.setRow_alloc_new])
                  | (refine wpList_load_row rfl 59 (.tmp 10) rfl w3.heap.size rfl _ _ _ _ hPd.out.out Try.underlying59 rfl (page_size _) ?_)
                  | fail)
                go_region
                go_wp2_with fail
                go_region
                go_wp2_with (first
                  | (refine wpList_store_row rfl 59 (.tmp 8) (.tmp 69) rfl _ (pageC d) rfl rfl _ _ Y3.out (page_size _) (by rw [pageC_size, pageC_size]) (pageC_oneCell _) ?_)
                  | (refine wpList_alloc_row rfl 59 rfl (pageC Page.zero) zero59 ?_)
                  | (refine wpList_store_row rfl 59 (.tmp 10) (.tmp 34) rfl _ (pageC d) rfl rfl _ _ (heap_alloc_new _ _) (page_size _) (by rw [pageC_size, pageC_size]) (pageC_oneCell _) ?_; rw [World.setRow_alloc_new])
                  | (refine wpList_load_row rfl 59 (.tmp 10) rfl w3.heap.size rfl _ _ _ _ hPd.out.out Try.underlying59 rfl (page_size _) ?_)
                  | fail)
                exact end59 rfl rfl Y3.out.row rfl rfl ⟨by rw [HT.out], by rw [hA]; first | exact below_setRow HBx.out (show A ≤ A + 1 by omega) _ | exact below_setRow HBx.out.drew (show A ≤ A + 1 by omega) _ | exact below_setRow HBx.out.drew.drew (show A ≤ A + 1 by omega) _⟩
              · have HT := Lib.hid (show judgeI l i pos s = (d, 0) from by rw [HIN.out]; simp [h2, h3])
                go_wp2_with (first
                  | (refine wpList_alloc_row rfl 59 rfl (pageC Page.zero) zero59 ?_)
                  | (refine wpList_store_row rfl 59 (.tmp 10) (.tmp 34) rfl _ (pageC d) rfl rfl _ _ (heap_alloc_new _ _) (page_size _) (by rw [pageC_size, pageC_size]) (pageC_oneCell _) ?_; rw [World.setRow_alloc_new])
                  | (refine wpList_load_row rfl 59 (.tmp 10) rfl w3.heap.size rfl _ _ _ _ hPd.out.out Try.underlying59 rfl (page_size _) ?_)
                  | fail)
                go_region
                go_wp2_with fail
                go_region
                go_wp2_with (first
                  | (refine wpList_store_row rfl 59 (.tmp 8) (.tmp 69) rfl _ (pageC d) rfl rfl _ _ Y3.out (page_size _) (by rw [pageC_size, pageC_size]) (pageC_oneCell _) ?_)
                  | (refine wpList_alloc_row rfl 59 rfl (pageC Page.zero) zero59 ?_)
                  | (refine wpList_store_row rfl 59 (.tmp 10) (.tmp 34) rfl _ (pageC d) rfl rfl _ _ (heap_alloc_new _ _) (page_size _) (by rw [pageC_size, pageC_size]) (pageC_oneCell _) ?_; rw [World.setRow_alloc_new])
                  | (refine wpList_load_row rfl 59 (.tmp 10) rfl w3.heap.size rfl _ _ _ _ hPd.out.out Try.underlying59 rfl (page_size _) ?_)
                  | fail)
                exact end59 rfl rfl Y3.out.row rfl rfl ⟨by rw [HT.out], by rw [hA]; first | exact below_setRow HBx.out (show A ≤ A + 1 by omega) _ | exact below_setRow HBx.out.drew (show A ≤ A + 1 by omega) _ | exact below_setRow HBx.out.drew.drew (show A ≤ A + 1 by omega) _⟩
        · have kk : (k != 0) = true := by simpa using hk
          have HT := Lib.hid (show judgeI l i pos s = (Page.zero, k) from by rw [HIN.out, if_pos hk])
          go_wp2_with (first
            | (refine wpList_store_row rfl 59 (.tmp 8) (.tmp 39) rfl _ (pageC Page.zero) rfl rfl _ _ Y3.out (page_size _) rfl (pageC_oneCell _) ?_)
            | (refine wpList_alloc_row rfl 59 rfl (pageC Page.zero) zero59 ?_)
            | (refine wpList_store_row rfl 59 (.tmp 10) (.tmp 34) rfl _ (pageC d) rfl rfl _ _ (heap_alloc_new _ _) (page_size _) (by rw [pageC_size, pageC_size]) (pageC_oneCell _) ?_; rw [World.setRow_alloc_new])
            | (refine wpList_load_row rfl 59 (.tmp 10) rfl w3.heap.size rfl _ _ _ _ hPd.out.out Try.underlying59 rfl (page_size _) ?_)
            | fail)
          exact end59 rfl rfl Y3.out.row rfl rfl ⟨by rw [HT.out], by rw [hA]; exact below_setRow HBx.out (by omega) _⟩
end Go.Proofs.Ytldkgmodmpnclaa
