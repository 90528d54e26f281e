/- Entries: the plain law of the shapes, and the reference's Valid. -/
import Derived.Test.YtldkgmodmpnclaaEntE
import Derived.Test.YtldkgmodmpnclaaEnB
/-! Plain law: what the reference's Valid says of an entry is what the program's rules say. -/
namespace Go.Proofs.Ytldkgmodmpnclaa
open Go.RowKit Go.Proofs
set_option linter.unusedVariables false
set_option linter.unusedSimpArgs false
/-- The reference's formula, with the shape's answer. -/
def refOk (o : Ent) (b : Bool) (e : Ent) : Bool := b && decide (o = e) && decide (1 ≤ e.lsn) && decide (e.lsn ≤ 1099511627776) && before e.ptx e.lsn && before e.ppage e.lsn && before e.ref e.lsn
theorem empty_iff (s : ByteArray) : (ByteArray.empty = s) ↔ s.toList.isEmpty = true := by
  constructor
  · rintro rfl; simp
  · intro h
    refine ((Lib.bytes_beq_iff _ _).1 ?_).symm
    have : s.toList = [] := by simpa using h
    rw [this]
    simp
theorem ref_k1 (e : Ent) (hk : e.kind = 1) : refOk ⟨e.lsn, e.kind, e.tx, e.ptx, e.ppage, 0, e.chg, ByteArray.empty⟩ (chgOk e.chg && txOk e) e = entOk e := by
  obtain ⟨lsn, kind, tx, ptx, ppage, ref, chg, blob⟩ := e
  simp only at hk
  subst hk
  have hb := empty_iff blob
  have hc : (Chg.zero = chg) ↔ (chg = Chg.zero) := eq_comm
  have hc2 : (Chg.only chg.page = chg) ↔ (chg = Chg.only chg.page) := eq_comm
  have hz : blob.toList = [] → blob.size ≤ 8192 := fun h => by rw [← hb.2 (by rw [h]; rfl)]; show 0 ≤ 8192; omega
  rw [Bool.eq_iff_iff]
  simp only [refOk, entOk, headOk, kindRes, ruleRes, txOk, before, Bool.and_eq_true, decide_eq_true_eq, Ent.mk.injEq, hb, hc, hc2, show (1 : Int).toNat = 1 from rfl]
  by_cases q1 : chgOk chg = true
  · by_cases q2 : blob.toList = []
    · have := hz q2
      simp [q1, q2, paged]
      try omega
    · simp [q1, q2, paged]
      try omega
  · simp [q1, paged]
theorem ref_k2 (e : Ent) (hk : e.kind = 2) : refOk ⟨e.lsn, e.kind, e.tx, e.ptx, e.ppage, e.ref, e.chg, ByteArray.empty⟩ ((chgOk e.chg && decide (0 < e.ptx) && decide (1 ≤ e.ref) && decide (e.ref ≤ e.ptx)) && txOk e) e = entOk e := by
  obtain ⟨lsn, kind, tx, ptx, ppage, ref, chg, blob⟩ := e
  simp only at hk
  subst hk
  have hb := empty_iff blob
  have hc : (Chg.zero = chg) ↔ (chg = Chg.zero) := eq_comm
  have hc2 : (Chg.only chg.page = chg) ↔ (chg = Chg.only chg.page) := eq_comm
  have hz : blob.toList = [] → blob.size ≤ 8192 := fun h => by rw [← hb.2 (by rw [h]; rfl)]; show 0 ≤ 8192; omega
  rw [Bool.eq_iff_iff]
  simp only [refOk, entOk, headOk, kindRes, ruleRes, txOk, before, Bool.and_eq_true, decide_eq_true_eq, Ent.mk.injEq, hb, hc, hc2, show (2 : Int).toNat = 2 from rfl]
  by_cases q1 : chgOk chg = true
  · by_cases q2 : blob.toList = []
    · have := hz q2
      simp [q1, q2, paged]
      try omega
    · simp [q1, q2, paged]
      try omega
  · simp [q1, paged]
theorem ref_k3 (e : Ent) (hk : e.kind = 3) : refOk ⟨e.lsn, e.kind, e.tx, e.ptx, 0, 0, Chg.zero, ByteArray.empty⟩ (txOk e && decide (0 < e.ptx)) e = entOk e := by
  obtain ⟨lsn, kind, tx, ptx, ppage, ref, chg, blob⟩ := e
  simp only at hk
  subst hk
  have hb := empty_iff blob
  have hc : (Chg.zero = chg) ↔ (chg = Chg.zero) := eq_comm
  have hc2 : (Chg.only chg.page = chg) ↔ (chg = Chg.only chg.page) := eq_comm
  have hz : blob.toList = [] → blob.size ≤ 8192 := fun h => by rw [← hb.2 (by rw [h]; rfl)]; show 0 ≤ 8192; omega
  rw [Bool.eq_iff_iff]
  simp only [refOk, entOk, headOk, kindRes, ruleRes, txOk, before, Bool.and_eq_true, decide_eq_true_eq, Ent.mk.injEq, hb, hc, hc2, show (3 : Int).toNat = 3 from rfl]
  by_cases q1 : chg = Chg.zero
  · by_cases q2 : blob.toList = []
    · have := hz q2
      simp [q1, q2, paged]
      try omega
    · simp [q1, q2, paged]
      try omega
  · simp [q1, paged]
theorem ref_k4 (e : Ent) (hk : e.kind = 4) : refOk ⟨e.lsn, e.kind, e.tx, e.ptx, 0, 0, Chg.zero, ByteArray.empty⟩ (txOk e && decide (0 < e.ptx)) e = entOk e := by
  obtain ⟨lsn, kind, tx, ptx, ppage, ref, chg, blob⟩ := e
  simp only at hk
  subst hk
  have hb := empty_iff blob
  have hc : (Chg.zero = chg) ↔ (chg = Chg.zero) := eq_comm
  have hc2 : (Chg.only chg.page = chg) ↔ (chg = Chg.only chg.page) := eq_comm
  have hz : blob.toList = [] → blob.size ≤ 8192 := fun h => by rw [← hb.2 (by rw [h]; rfl)]; show 0 ≤ 8192; omega
  rw [Bool.eq_iff_iff]
  simp only [refOk, entOk, headOk, kindRes, ruleRes, txOk, before, Bool.and_eq_true, decide_eq_true_eq, Ent.mk.injEq, hb, hc, hc2, show (4 : Int).toNat = 4 from rfl]
  by_cases q1 : chg = Chg.zero
  · by_cases q2 : blob.toList = []
    · have := hz q2
      simp [q1, q2, paged]
      try omega
    · simp [q1, q2, paged]
      try omega
  · simp [q1, paged]
theorem ref_k5 (e : Ent) (hk : e.kind = 5) : refOk ⟨e.lsn, e.kind, e.tx, e.ptx, 0, 0, Chg.zero, ByteArray.empty⟩ (txOk e && decide (0 < e.ptx)) e = entOk e := by
  obtain ⟨lsn, kind, tx, ptx, ppage, ref, chg, blob⟩ := e
  simp only at hk
  subst hk
  have hb := empty_iff blob
  have hc : (Chg.zero = chg) ↔ (chg = Chg.zero) := eq_comm
  have hc2 : (Chg.only chg.page = chg) ↔ (chg = Chg.only chg.page) := eq_comm
  have hz : blob.toList = [] → blob.size ≤ 8192 := fun h => by rw [← hb.2 (by rw [h]; rfl)]; show 0 ≤ 8192; omega
  rw [Bool.eq_iff_iff]
  simp only [refOk, entOk, headOk, kindRes, ruleRes, txOk, before, Bool.and_eq_true, decide_eq_true_eq, Ent.mk.injEq, hb, hc, hc2, show (5 : Int).toNat = 5 from rfl]
  by_cases q1 : chg = Chg.zero
  · by_cases q2 : blob.toList = []
    · have := hz q2
      simp [q1, q2, paged]
      try omega
    · simp [q1, q2, paged]
      try omega
  · simp [q1, paged]
theorem ref_k6 (e : Ent) (hk : e.kind = 6) : refOk ⟨e.lsn, e.kind, 0, 0, 0, 0, Chg.zero, e.blob⟩ (decide ((e.blob.size : Int) ≤ 8192)) e = entOk e := by
  obtain ⟨lsn, kind, tx, ptx, ppage, ref, chg, blob⟩ := e
  simp only at hk
  subst hk
  have hb := empty_iff blob
  have hc : (Chg.zero = chg) ↔ (chg = Chg.zero) := eq_comm
  have hc2 : (Chg.only chg.page = chg) ↔ (chg = Chg.only chg.page) := eq_comm
  have hz : blob.toList = [] → blob.size ≤ 8192 := fun h => by rw [← hb.2 (by rw [h]; rfl)]; show 0 ≤ 8192; omega
  rw [Bool.eq_iff_iff]
  simp only [refOk, entOk, headOk, kindRes, ruleRes, txOk, before, Bool.and_eq_true, decide_eq_true_eq, Ent.mk.injEq, hb, hc, hc2, show (6 : Int).toNat = 6 from rfl]
  by_cases q1 : chg = Chg.zero
  · by_cases q2 : blob.toList = []
    · have := hz q2
      simp [q1, q2, paged]
      try omega
    · simp [q1, q2, paged]
      try omega
  · simp [q1, paged]
theorem ref_k7 (e : Ent) (hk : e.kind = 7) : refOk ⟨e.lsn, e.kind, 0, 0, 0, e.ref, Chg.only e.chg.page, ByteArray.empty⟩ (paged e.chg.page) e = entOk e := by
  obtain ⟨lsn, kind, tx, ptx, ppage, ref, chg, blob⟩ := e
  simp only at hk
  subst hk
  have hb := empty_iff blob
  have hc : (Chg.zero = chg) ↔ (chg = Chg.zero) := eq_comm
  have hc2 : (Chg.only chg.page = chg) ↔ (chg = Chg.only chg.page) := eq_comm
  have hz : blob.toList = [] → blob.size ≤ 8192 := fun h => by rw [← hb.2 (by rw [h]; rfl)]; show 0 ≤ 8192; omega
  rw [Bool.eq_iff_iff]
  simp only [refOk, entOk, headOk, kindRes, ruleRes, txOk, before, Bool.and_eq_true, decide_eq_true_eq, Ent.mk.injEq, hb, hc, hc2, show (7 : Int).toNat = 7 from rfl]
  obtain ⟨pg, hpg⟩ : ∃ pg, chg.page = pg := ⟨_, rfl⟩
  rw [hpg]
  have hH := Lib.hid hpg
  clear hpg hc hc2 hb
  by_cases q1 : chg = Chg.only pg
  · by_cases q2 : blob.toList = []
    · have := hz q2
      simp [q1, q2, paged]
      try omega
    · simp [q1, q2, paged]
      try omega
  · simp [q1, paged]
theorem ref_k8 (e : Ent) (hk : e.kind = 8) : refOk ⟨e.lsn, e.kind, 0, 0, 0, 0, Chg.zero, e.blob⟩ (decide ((e.blob.size : Int) ≤ 8192)) e = entOk e := by
  obtain ⟨lsn, kind, tx, ptx, ppage, ref, chg, blob⟩ := e
  simp only at hk
  subst hk
  have hb := empty_iff blob
  have hc : (Chg.zero = chg) ↔ (chg = Chg.zero) := eq_comm
  have hc2 : (Chg.only chg.page = chg) ↔ (chg = Chg.only chg.page) := eq_comm
  have hz : blob.toList = [] → blob.size ≤ 8192 := fun h => by rw [← hb.2 (by rw [h]; rfl)]; show 0 ≤ 8192; omega
  rw [Bool.eq_iff_iff]
  simp only [refOk, entOk, headOk, kindRes, ruleRes, txOk, before, Bool.and_eq_true, decide_eq_true_eq, Ent.mk.injEq, hb, hc, hc2, show (8 : Int).toNat = 8 from rfl]
  by_cases q1 : chg = Chg.zero
  · by_cases q2 : blob.toList = []
    · have := hz q2
      simp [q1, q2, paged]
      try omega
    · simp [q1, q2, paged]
      try omega
  · simp [q1, paged]
end Go.Proofs.Ytldkgmodmpnclaa
/-! Which entries are valid: the reference's walk. -/
namespace Go.Proofs.Ytldkgmodmpnclaa
open Go.RowKit Go.Proofs
set_option linter.unusedVariables false
set_option linter.unusedSimpArgs false
theorem wf_zero64 : wf64 0 := by decide
/-- The shape of an entry, and what the reference says of it. -/
theorem shape_calls (e : Ent) (he : EntWf e) : ∃ o b, EntWf o ∧ refOk o b e = entOk e ∧ ∀ w : World, Calls Try.prog 90 #[.agg e.cs] w (ShapeAns o b w) := by
  have hz : ChgWf Chg.zero := wfZero
  have z := wf_zero64
  by_cases k1 : e.kind = 1
  · exact ⟨⟨e.lsn, e.kind, e.tx, e.ptx, e.ppage, 0, e.chg, ByteArray.empty⟩, _, ⟨he.lsn, he.kind, he.tx, he.ptx, he.ppage, z, he.chg, Nat.zero_le _⟩, ref_k1 e k1, fun w => shape1_calls e w k1⟩
  by_cases k2 : e.kind = 2
  · exact ⟨⟨e.lsn, e.kind, e.tx, e.ptx, e.ppage, e.ref, e.chg, ByteArray.empty⟩, _, ⟨he.lsn, he.kind, he.tx, he.ptx, he.ppage, he.ref, he.chg, Nat.zero_le _⟩, ref_k2 e k2, fun w => shape2_calls e w k2⟩
  by_cases k3 : e.kind = 3
  · exact ⟨⟨e.lsn, e.kind, e.tx, e.ptx, 0, 0, Chg.zero, ByteArray.empty⟩, _, ⟨he.lsn, he.kind, he.tx, he.ptx, z, z, hz, Nat.zero_le _⟩, ref_k3 e k3, fun w => shape3_calls e w k3⟩
  by_cases k4 : e.kind = 4
  · exact ⟨⟨e.lsn, e.kind, e.tx, e.ptx, 0, 0, Chg.zero, ByteArray.empty⟩, _, ⟨he.lsn, he.kind, he.tx, he.ptx, z, z, hz, Nat.zero_le _⟩, ref_k4 e k4, fun w => shape4_calls e w k4⟩
  by_cases k5 : e.kind = 5
  · exact ⟨⟨e.lsn, e.kind, e.tx, e.ptx, 0, 0, Chg.zero, ByteArray.empty⟩, _, ⟨he.lsn, he.kind, he.tx, he.ptx, z, z, hz, Nat.zero_le _⟩, ref_k5 e k5, fun w => shape5_calls e w k5⟩
  by_cases k6 : e.kind = 6
  · exact ⟨⟨e.lsn, e.kind, 0, 0, 0, 0, Chg.zero, e.blob⟩, _, ⟨he.lsn, he.kind, z, z, z, z, hz, he.blob⟩, ref_k6 e k6, fun w => shape6_calls e w k6⟩
  by_cases k7 : e.kind = 7
  · exact ⟨⟨e.lsn, e.kind, 0, 0, 0, e.ref, Chg.only e.chg.page, ByteArray.empty⟩, _, ⟨he.lsn, he.kind, z, z, z, he.ref, ChgWf.only he.chg.page, Nat.zero_le _⟩, ref_k7 e k7, fun w => shape7_calls e w k7⟩
  by_cases k8 : e.kind = 8
  · exact ⟨⟨e.lsn, e.kind, 0, 0, 0, 0, Chg.zero, e.blob⟩, _, ⟨he.lsn, he.kind, z, z, z, z, hz, he.blob⟩, ref_k8 e k8, fun w => shape8_calls e w k8⟩
  · refine ⟨⟨e.lsn, e.kind, 0, 0, 0, 0, Chg.zero, ByteArray.empty⟩, false, ⟨he.lsn, he.kind, z, z, z, z, hz, Nat.zero_le _⟩, ?_, fun w => shapeX_calls e w (by simpa using k1) (by simpa using k2) (by simpa using k3) (by simpa using k4) (by simpa using k5) (by simpa using k6) (by simpa using k7) (by simpa using k8)⟩
    have hh : headOk e = false := by
      unfold headOk
      by_cases a1 : 1 ≤ e.kind
      · have : ¬ e.kind ≤ 8 := by omega
        simp [this]
      · simp [a1]
    rw [entOk_head hh]
    rfl
theorem wpList_load_ent {ops : Array Oper} {rest : List Oper} {o : Oper} {a : Act} {w : World} {Q : Exit → Act → World → Prop} (hw : Region.wanted o (yielded ops a.tmps) = true) (x : Operand) (ho : o.op = .load 31 x)
    (g : Nat) (hx : a.eval x = .pointer (some ⟨g, 0, none⟩)) (e : Ent) (hg : w.heap[g]? = some (.cells e.cs 31 (0, 0)))
    (h : wpList Try.prog ops Q rest (a.put o.dst (.agg e.cs)) w) : wpList Try.prog ops Q (o :: rest) a w :=
  wpList_load_row_g hw 31 x ho g hx 31 e.cs (0, 0) _ hg Try.underlying31 rfl (info31 e) h
theorem zero31 (w : World) : (zeroValue 31).run Try.prog w = .ok (.agg (⟨0, 0, 0, 0, 0, 0, Chg.zero, ByteArray.empty⟩ : Ent).cs) w := Try.zeroValue31 w
set_option maxHeartbeats 8000000 in
set_option maxRecDepth 100000 in
theorem entValid05_calls (e : Ent) (he : EntWf e) (w : World) : Calls Try.prog 60 #[.agg e.cs] w fun r w' => r = .returned (.bool (entOk e)) ∧ Below w.heap.size w w' := by
  obtain ⟨o, b, ho, hr, hs⟩ := shape_calls e he
  have HS := Lib.hid hs
  have HO := Lib.hid hr
  have H1 := Lib.hid (fun W => before_calls e.ptx e.lsn W)
  have H2 := Lib.hid (fun W => before_calls e.ppage e.lsn W)
  have H3 := Lib.hid (fun W => before_calls e.ref e.lsn W)
  have hA := heap_alloc_new w (.cells e.cs 31)
  have hB := (Below.refl w.heap.size w).alloc (Nat.le_refl _) (.cells e.cs 31)
  obtain ⟨A, hAe⟩ : ∃ A, w.heap.size = A := ⟨_, rfl⟩
  obtain ⟨W, hW⟩ : ∃ W, w.alloc (.cells e.cs 31) = W := ⟨_, rfl⟩
  have hWs : W.heap.size = A + 1 := by rw [← hW]; simp [hAe]
  rw [hAe, hW] at hA hB
  have HA := Lib.hid hA
  have HB := Lib.hid hB
  have HW := Lib.hid hW
  clear hA hB hs hr hW
  rw [hAe]
  go_enter Try.func60, Try.ntmps60
  go_wp2_with (refine wpList_load_ent (by rfl) (.tmp 1) rfl A (by first | rfl | (rw [hAe]; rfl)) e (by first | exact HA.out | (rw [HW.out]; exact HA.out)) ?_)
  rw [HW.out]
  refine (HS.out _).mono ?_
  rintro r_ w2 ⟨rfl, hb2⟩
  have hA2 := (hb2.block A (by omega)).trans HA.out
  have hB2 := HB.out.trans (hb2.mono (by omega))
  have hs2 := hb2.size
  have hAo : (w2.alloc (.cells o.cs 31)).heap[A]? = some (.cells e.cs 31 (0, 0)) := heap_alloc_of hA2
  have hT : (w2.alloc (.cells o.cs 31)).heap[w2.heap.size]? = some (.cells o.cs 31 (0, 0)) := heap_alloc_new _ _
  have hBo : Below A w (w2.alloc (.cells o.cs 31)) := hB2.alloc (by omega) _
  obtain ⟨c0, c1, c2, c3, c4, c5⟩ := EntIn.of hAo
  have HA2 := Lib.hid hAo
  have HT := Lib.hid hT
  have HBo := Lib.hid hBo
  obtain ⟨w3, hw3⟩ : ∃ w3, w2.alloc (.cells o.cs 31) = w3 := ⟨_, rfl⟩
  have HW3 := Lib.hid hw3
  rw [hw3] at HA2 HT HBo c0 c1 c2 c3 c4 c5
  clear hA2 hB2 hb2 hAo hT hBo hw3
  have hf : refOk o b e = (b && decide (o = e) && decide (1 ≤ e.lsn) && decide (e.lsn ≤ 1099511627776) && before e.ptx e.lsn && before e.ppage e.lsn && before e.ref e.lsn) := rfl
  rw [HO.out] at hf
  obtain ⟨q, hq⟩ : ∃ q, decide (o = e) = q := ⟨_, rfl⟩
  obtain ⟨b1, e1⟩ : ∃ b, before e.ptx e.lsn = b := ⟨_, rfl⟩
  obtain ⟨b2, e2⟩ : ∃ b, before e.ppage e.lsn = b := ⟨_, rfl⟩
  obtain ⟨b3, e3⟩ : ∃ b, before e.ref e.lsn = b := ⟨_, rfl⟩
  obtain ⟨t1, g1⟩ : ∃ b, decide (1 ≤ e.lsn) = b := ⟨_, rfl⟩
  obtain ⟨t2, g2⟩ : ∃ b, decide (e.lsn ≤ 1099511627776) = b := ⟨_, rfl⟩
  rw [hq, e1, e2, e3, g1, g2] at hf
  rw [e1] at H1
  rw [e2] at H2
  rw [e3] at H3
  have HF := Lib.hid hf
  have HQ := Lib.hid hq
  clear hf hq e1 e2 e3
  cases b
  · go_wp2_with (first
      | (refine wpList_alloc_row rfl 31 rfl _ zero31 ?_)
      | (refine wpList_store_row rfl 31 (.tmp 3) (.tmp 8) rfl _ o.cs rfl rfl _ _ (heap_alloc_new _ _) (info31 o) rfl (by simp [Value.oneCell']) ?_; rw [World.setRow_alloc_new, HW3.out]))
    go_ret
    exact ⟨ret_bool (HF.out.trans (by simp)).symm, HBo.out⟩
  · cases q
    · go_wp2_with (first
        | (refine wpList_alloc_row rfl 31 rfl _ zero31 ?_)
        | (refine wpList_store_row rfl 31 (.tmp 3) (.tmp 8) rfl _ o.cs rfl rfl _ _ (heap_alloc_new _ _) (info31 o) rfl (by simp [Value.oneCell']) ?_; rw [World.setRow_alloc_new, HW3.out])
        | (refine wpList_load_ent (by rfl) (.tmp 3) rfl w2.heap.size rfl o HT.out ?_)
        | (refine wpList_load_ent (by rfl) (.tmp 1) rfl A rfl e HA2.out ?_)
        | (refine wpList_eq31 (by rfl) (.tmp 12) (.tmp 13) 31 rfl o e rfl rfl ho he _ HQ.out ?_))
      go_ret
      exact ⟨ret_bool (HF.out.trans (by simp)).symm, HBo.out⟩
    · cases t1
      · go_wp2_with (first
          | (refine wpList_alloc_row rfl 31 rfl _ zero31 ?_)
          | (refine wpList_store_row rfl 31 (.tmp 3) (.tmp 8) rfl _ o.cs rfl rfl _ _ (heap_alloc_new _ _) (info31 o) rfl (by simp [Value.oneCell']) ?_; rw [World.setRow_alloc_new, HW3.out])
          | (refine wpList_load_ent (by rfl) (.tmp 3) rfl w2.heap.size rfl o HT.out ?_)
          | (refine wpList_load_ent (by rfl) (.tmp 1) rfl A rfl e HA2.out ?_)
          | (refine wpList_eq31 (by rfl) (.tmp 12) (.tmp 13) 31 rfl o e rfl rfl ho he _ HQ.out ?_))
        go_ret
        exact ⟨ret_bool (HF.out.trans (by simp)).symm, HBo.out⟩
      · cases t2
        · go_wp2_with (first
            | (refine wpList_alloc_row rfl 31 rfl _ zero31 ?_)
            | (refine wpList_store_row rfl 31 (.tmp 3) (.tmp 8) rfl _ o.cs rfl rfl _ _ (heap_alloc_new _ _) (info31 o) rfl (by simp [Value.oneCell']) ?_; rw [World.setRow_alloc_new, HW3.out])
            | (refine wpList_load_ent (by rfl) (.tmp 3) rfl w2.heap.size rfl o HT.out ?_)
            | (refine wpList_load_ent (by rfl) (.tmp 1) rfl A rfl e HA2.out ?_)
            | (refine wpList_eq31 (by rfl) (.tmp 12) (.tmp 13) 31 rfl o e rfl rfl ho he _ HQ.out ?_))
          go_ret
          exact ⟨ret_bool (HF.out.trans (by simp)).symm, HBo.out⟩
        · go_wp2_with (first
            | (refine wpList_alloc_row rfl 31 rfl _ zero31 ?_)
            | (refine wpList_store_row rfl 31 (.tmp 3) (.tmp 8) rfl _ o.cs rfl rfl _ _ (heap_alloc_new _ _) (info31 o) rfl (by simp [Value.oneCell']) ?_; rw [World.setRow_alloc_new, HW3.out])
            | (refine wpList_load_ent (by rfl) (.tmp 3) rfl w2.heap.size rfl o HT.out ?_)
            | (refine wpList_load_ent (by rfl) (.tmp 1) rfl A rfl e HA2.out ?_)
            | (refine wpList_eq31 (by rfl) (.tmp 12) (.tmp 13) 31 rfl o e rfl rfl ho he _ HQ.out ?_))
          refine (H1.out _).mono ?_
          rintro r_ w4 ⟨rfl, rfl⟩
          cases b1
          · go_wp2_with fail
            go_ret
            exact ⟨ret_bool (HF.out.trans (by simp)).symm, HBo.out⟩
          · go_wp2_with fail
            refine (H2.out _).mono ?_
            rintro r_ w4 ⟨rfl, rfl⟩
            cases b2
            · go_wp2_with fail
              go_ret
              exact ⟨ret_bool (HF.out.trans (by simp)).symm, HBo.out⟩
            · go_wp2_with fail
              refine (H3.out _).mono ?_
              rintro r_ w4 ⟨rfl, rfl⟩
              go_wp2_with fail
              go_ret
              exact ⟨ret_bool (HF.out.trans (by simp)).symm, HBo.out⟩
end Go.Proofs.Ytldkgmodmpnclaa
              