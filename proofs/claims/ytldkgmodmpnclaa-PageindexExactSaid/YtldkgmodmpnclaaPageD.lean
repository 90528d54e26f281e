import Derived.Test.YtldkgmodmpnclaaPageC
import Derived.Deep.RegionHeld3
import Derived.Deep.RegionLaw
import Derived.Deep.RegionWith
import Derived.Test.YtldkgmodmpnclaaTail
namespace Go.Proofs.Ytldkgmodmpnclaa
open Go.RowKit Go.Proofs
set_option linter.unusedVariables false
set_option linter.unusedSimpArgs false
/-- Below block B the world is as it was when a region began. -/
def Kp (B : Nat) (W w : World) : Prop := Below B W w ∧ B ≤ w.heap.size
theorem Kp.start (W : World) (B : Nat) (h : B ≤ W.heap.size) : Kp B W W.drew := ⟨(Below.refl _ _).drew, h⟩
theorem Kp.step {B : Nat} {W w w' : World} (h : Kp B W w) (hb : Below w.heap.size w w') : Kp B W w' := ⟨h.1.trans (hb.mono h.2), Nat.le_trans h.2 hb.size⟩
theorem Kp.cell {B : Nat} {W w : World} (h : Kp B W w) {a : Addr} {v : Value} (ha : a.block < B) (hc : W.cell? a = some v) : w.cell? a = some v := (h.1.cell ha).trans hc
theorem Kp.frozen {B : Nat} {W w : World} (h : Kp B W w) {a : Addr} (ha : a.block < B) (hc : W.frozen? a = false) : w.frozen? a = false := (h.1.frozen ha).trans hc
theorem Kp.alloc {B : Nat} {W w : World} (h : Kp B W w) (o : Obj) : Kp B W (w.alloc o) := h.step ((Below.refl _ _).alloc (Nat.le_refl _) o)
theorem Kp.drew {B : Nat} {W w : World} (h : Kp B W w) : Kp B W w.drew := ⟨h.1.drew, h.2⟩
theorem Kp.below {B : Nat} {W w : World} (h : Kp B W w) : Below B W w := h.1
theorem Kp.size {B : Nat} {W w : World} (h : Kp B W w) : B ≤ w.heap.size := h.2
theorem repeat_int (n : Int) (w : World) (h0 : 0 ≤ n) (hn : n ≤ 1000000) : Calls Try.prog 76 #[.string ⟨#[0]⟩, .int .i64 n] w fun e w' => e = .returned (.string (zeros n.toNat)) ∧ Below w.heap.size w w' := by
  obtain ⟨m, rfl⟩ := Int.eq_ofNat_of_zero_le h0
  rw [Int.toNat_natCast]
  exact repeat_calls m w (by omega)
/-- The worlds of a call that writes to block g alone of what was there. -/
structure KB (g : Nat) (w w' : World) : Prop where
  os : w'.os = w.os
  tape : w'.tape = w.tape
  output : w'.output = w.output
  size : w.heap.size ≤ w'.heap.size
  block : ∀ k, k < w.heap.size → k ≠ g → w'.heap[k]? = w.heap[k]?
theorem KB.refl (g : Nat) (w : World) : KB g w w := ⟨rfl, rfl, rfl, Nat.le_refl _, fun _ _ _ => rfl⟩
theorem KB.trans {g : Nat} {a b c : World} (h : KB g a b) (k : KB g b c) : KB g a c :=
  ⟨k.os.trans h.os, k.tape.trans h.tape, k.output.trans h.output, Nat.le_trans h.size k.size, fun i hi hg => (k.block i (Nat.lt_of_lt_of_le hi h.size) hg).trans (h.block i hi hg)⟩
theorem KB.of_below {g : Nat} {w w' : World} (h : Below w.heap.size w w') : KB g w w' := ⟨h.os, h.tape, h.output, h.size, fun k hk _ => h.block k hk⟩
theorem KB.setCell {g : Nat} {a w : World} (h : KB g a w) {p : Addr} (u : Value) (hp : p.block = g) : KB g a (w.setCell p u) :=
  h.trans ⟨rfl, rfl, rfl, by simp [World.setCell], fun k hk hg => Below.heap_setCell _ _ _ _ (fun e => hg (e.trans hp))⟩
theorem KB.alloc {g : Nat} {a w : World} (h : KB g a w) (o : Obj) : KB g a (w.alloc o) := h.trans (KB.of_below ((Below.refl _ _).alloc (Nat.le_refl _) o))
/-- What is written is a block from B on: below it all is as it was. -/
theorem KB.below {g B : Nat} {w w' : World} (h : KB g w w') (hB : B ≤ w.heap.size) (hg : B ≤ g) : Below B w w' :=
  ⟨h.os, h.tape, h.output, h.size, fun k hk => h.block k (Nat.lt_of_lt_of_le hk hB) (by omega)⟩
/-- What the region of builder.cell reads. -/
def BcS (g b : Nat) (s d : ByteArray) (W w : World) : Prop := w.cell? ⟨g, 0, none⟩ = some (.string s) ∧ w.cell? ⟨b, 1, none⟩ = some (.string d) ∧ w.frozen? ⟨g, 0, none⟩ = false ∧ Kp (b + 1) W w
set_option maxHeartbeats 1000000 in
set_option maxRecDepth 100000 in
theorem bcell_calls (g : Nat) (s : ByteArray) (c : Cell) (w : World) (hg : w.heap[g]? = some (.cells #[.string s] 105 (0, 0))) (hs : s.size ≤ 100000) (hc : c.data.size ≤ 12) :
    Calls Try.prog 75 #[.pointer (some ⟨g, 0, none⟩), .agg #[.bool c.set, .string c.data]] w fun e w' => e = .returned (.tuple #[]) ∧ w'.heap[g]? = some (.cells #[.string (s ++ encCell c)] 105 (0, 0)) ∧ KB g w w' := by
  have hlt := heap_lt hg
  have hc0 : w.cell? ⟨g, 0, none⟩ = some (.string s) := by rw [heap_cell hg]; rfl
  have HG := Lib.hid hg; clear hg
  have hw : IntKind.i64.wrap (12 - (c.data.size : Int)) = 12 - (c.data.size : Int) := IntWalk.i64_in _ (by omega)
  have hr := Lib.hid (fun W => repeat_int (12 - (c.data.size : Int)) W (by omega) (by omega))
  obtain ⟨z, hz⟩ : ∃ z, zeros (12 - (c.data.size : Int)).toNat = z := ⟨_, rfl⟩
  rw [hz] at hr
  have hz2 : z.size = 12 - c.data.size := by rw [← hz, zeros_size]; omega
  have HZ2 := Lib.hid hz; clear hz
  cases hset : c.set
  · obtain ⟨t1, ht1⟩ : ∃ t1, s ++ leB 255 1 = t1 := ⟨_, rfl⟩
    have hp := Lib.hid (fun W => putC_ok s 255 1 W (by omega) (by omega) (by omega))
    rw [ht1] at hp
    have hz1 : t1.size = s.size + 1 := by rw [← ht1, ByteArray.size_append, leB_size]
    have hn1 : ¬ 9223372036854775807 < t1.size + c.data.size := by omega
    have hn2 : ¬ 9223372036854775807 < t1.size + c.data.size + z.size := by omega
    have HT := Lib.hid ht1; clear ht1
    have HZ := Lib.hid hz1; clear hz1
    have HZ3 := Lib.hid hz2; clear hz2
    obtain ⟨W, hW⟩ : ∃ W, w.alloc (.cells #[.bool false, .string c.data] 27) = W := ⟨_, rfl⟩
    have hA := Lib.hid (show W.cell? ⟨g, 0, none⟩ = some (.string s) from by rw [← hW, ← hc0]; exact World.cell?_of_block (Below.heap_alloc _ _ _ hlt))
    have hC := Lib.hid (show W.cell? ⟨w.heap.size, 1, none⟩ = some (.string c.data) from by rw [← hW, heap_cell (heap_alloc_new w _)]; rfl)
    have hF := Lib.hid (show W.frozen? ⟨g, 0, none⟩ = false from by rw [← hW]; exact (World.frozen?_of_block (Below.heap_alloc _ _ _ hlt)).trans (heap_free HG.out 0))
    have hWs : W.heap.size = w.heap.size + 1 := by rw [← hW]; simp
    have HW := Lib.hid hW; clear hW
    have hk0 := Kp.start W (w.heap.size + 1) (by omega)
    have hS : BcS g w.heap.size s c.data W W.drew := ⟨hk0.cell (by simp; omega) hA.out, hk0.cell (by simp) hC.out, hk0.frozen (by simp; omega) hF.out, hk0⟩
    have HWs := Lib.hid hWs; clear hWs
    go_enter Try.func75, Try.ntmps75
    go_wp2_with fail
    rw [HW.out]
    refine Whichever.start (S := BcS g w.heap.size s c.data W) (n := 18) (by kernel_rfl) ?_
    refine Whichever.any (i := 0) (v := ?_) rfl (by kernel_rfl) (by kernel_rfl) (by kernel_rfl) (by kernel_rfl) (fun _ _ _ h => h) (.inl ⟨by rfl, ?_⟩) (fun _ => hS) ?_
    rotate_left
    · (intro w_ _; go_simp; first | done | with_reducible rfl)
    simp only [Act.put, List.setIfInBounds_toArray, List.set_cons_zero, List.set_cons_succ]
    refine Whichever.any (i := 1) (v := ?_) rfl (by kernel_rfl) (by kernel_rfl) (by kernel_rfl) (by kernel_rfl) (fun _ _ _ h => h) (.inl ⟨by rfl, ?_⟩) (fun _ => hS) ?_
    rotate_left
    · (intro w_ _; go_simp; first | done | with_reducible rfl)
    simp only [Act.put, List.setIfInBounds_toArray, List.set_cons_zero, List.set_cons_succ]
    refine Whichever.any (i := 2) (v := ?_) rfl (by kernel_rfl) (by kernel_rfl) (by kernel_rfl) (by kernel_rfl) (fun _ _ _ h => h) (.inl ⟨by rfl, ?_⟩) (fun _ => hS) ?_
    rotate_left
    · (intro w_ _; go_simp; first | done | with_reducible rfl)
    simp only [Act.put, List.setIfInBounds_toArray, List.set_cons_zero, List.set_cons_succ]
    refine Whichever.any (i := 3) (v := ?_) rfl (by kernel_rfl) (by kernel_rfl) (by kernel_rfl) (by kernel_rfl) (fun _ _ _ h => h) (.inl ⟨by rfl, ?_⟩) (fun _ => hS) ?_
    rotate_left
    · (intro w_ _; go_simp; first | done | with_reducible rfl)
    simp only [Act.put, List.setIfInBounds_toArray, List.set_cons_zero, List.set_cons_succ]
    refine Whichever.take (i := 4) (v := ?_) rfl (by kernel_rfl) (by kernel_rfl) (by kernel_rfl) (by kernel_rfl) (by kernel_rfl) (by kernel_rfl) (fun _ _ _ h => h) (.inl ⟨by rfl, ?_⟩) hS ?_
    rotate_left
    · (intro w_ hSw; unfold BcS at hSw; obtain ⟨hs0_, hs1_, hs2_, hs3_⟩ := hSw; go_simp; first | done | with_reducible rfl)
    simp only [Act.put, List.setIfInBounds_toArray, List.set_cons_zero, List.set_cons_succ]
    refine Whichever.any (i := 5) (v := ?_) rfl (by kernel_rfl) (by kernel_rfl) (by kernel_rfl) (by kernel_rfl) (fun _ _ _ h => h) (.inl ⟨by rfl, ?_⟩) (fun _ => hS) ?_
    rotate_left
    · (intro w_ _; go_simp; first | done | with_reducible rfl)
    simp only [Act.put, List.setIfInBounds_toArray, List.set_cons_zero, List.set_cons_succ]
    refine Whichever.any (i := 7) (v := ?_) rfl (by kernel_rfl) (by kernel_rfl) (by kernel_rfl) (by kernel_rfl) (fun _ _ _ h => h) (.inl ⟨by rfl, ?_⟩) (fun _ => hS) ?_
    rotate_left
    · (intro w_ _; go_simp; first | done | with_reducible rfl)
    simp only [Act.put, List.setIfInBounds_toArray, List.set_cons_zero, List.set_cons_succ]
    refine Whichever.take (i := 8) (v := ?_) rfl (by kernel_rfl) (by kernel_rfl) (by kernel_rfl) (by kernel_rfl) (by kernel_rfl) (by kernel_rfl) (fun _ _ _ h => h) (.inl ⟨by rfl, ?_⟩) hS ?_
    rotate_left
    · (intro w_ hSw; unfold BcS at hSw; obtain ⟨hs0_, hs1_, hs2_, hs3_⟩ := hSw; go_simp; first | done | with_reducible rfl)
    simp only [Act.put, List.setIfInBounds_toArray, List.set_cons_zero, List.set_cons_succ]
    refine Whichever.any (i := 10) (v := ?_) rfl (by kernel_rfl) (by kernel_rfl) (by kernel_rfl) (by kernel_rfl) (fun _ _ _ h => h) (.inl ⟨by rfl, ?_⟩) (fun _ => hS) ?_
    rotate_left
    · (intro w_ _; go_simp; first | done | with_reducible rfl)
    simp only [Act.put, List.setIfInBounds_toArray, List.set_cons_zero, List.set_cons_succ]
    refine Whichever.take (i := 11) (v := ?_) rfl (by kernel_rfl) (by kernel_rfl) (by kernel_rfl) (by kernel_rfl) (by kernel_rfl) (by kernel_rfl) (fun _ _ _ h => h) (.inl ⟨by rfl, ?_⟩) hS ?_
    rotate_left
    · (intro w_ hSw; unfold BcS at hSw; obtain ⟨hs0_, hs1_, hs2_, hs3_⟩ := hSw; go_simp; first | done | with_reducible rfl)
    simp only [Act.put, List.setIfInBounds_toArray, List.set_cons_zero, List.set_cons_succ]
    refine Whichever.any (i := 12) (v := ?_) rfl (by kernel_rfl) (by kernel_rfl) (by kernel_rfl) (by kernel_rfl) (fun _ _ _ h => h) (.inl ⟨by rfl, ?_⟩) (fun _ => hS) ?_
    rotate_left
    · (intro w_ _; go_simp; first | done | with_reducible rfl)
    simp only [Act.put, List.setIfInBounds_toArray, List.set_cons_zero, List.set_cons_succ]
    refine Whichever.any (i := 13) (v := ?_) rfl (by kernel_rfl) (by kernel_rfl) (by kernel_rfl) (by kernel_rfl) (fun _ _ _ h => h) (.inl ⟨by rfl, ?_⟩) (fun _ => hS) ?_
    rotate_left
    · (intro w_ _; go_simp; first | done | with_reducible rfl)
    simp only [Act.put, List.setIfInBounds_toArray, List.set_cons_zero, List.set_cons_succ]
    refine Whichever.one (i := 6) (by kernel_rfl) rfl (fun K_ hK_ => ?_)
    go_simp
    refine (hp.out _).mono ?_
    rintro e_ whp ⟨rfl, hbhp⟩
    have hkhp := hk0.step hbhp
    have hShp : BcS g w.heap.size s c.data W whp := ⟨hkhp.cell (by simp; omega) hA.out, hkhp.cell (by simp) hC.out, hkhp.frozen (by simp; omega) hF.out, hkhp⟩
    refine hK_ _ _ (fun _ => hShp) ?_
    clear hK_ K_
    refine Whichever.any (i := 9) (v := ?_) rfl (by kernel_rfl) (by kernel_rfl) (by kernel_rfl) (by kernel_rfl) (fun _ _ _ h => h) (.inl ⟨by rfl, ?_⟩) (fun _ => hShp) ?_
    rotate_left
    · (intro w_ _; go_simp; first | done | with_reducible rfl)
    simp only [Act.put, List.setIfInBounds_toArray, List.set_cons_zero, List.set_cons_succ]
    refine Whichever.one (i := 14) (by kernel_rfl) rfl (fun K_ hK_ => ?_)
    go_simp
    refine (hr.out _).mono ?_
    rintro e_ whr ⟨rfl, hbhr⟩
    have hkhr := hkhp.step hbhr
    have hShr : BcS g w.heap.size s c.data W whr := ⟨hkhr.cell (by simp; omega) hA.out, hkhr.cell (by simp) hC.out, hkhr.frozen (by simp; omega) hF.out, hkhr⟩
    refine hK_ _ _ (fun _ => hShr) ?_
    clear hK_ K_
    refine Whichever.any (i := 15) (v := ?_) rfl (by kernel_rfl) (by kernel_rfl) (by kernel_rfl) (by kernel_rfl) (fun _ _ _ h => h) (.inl ⟨by rfl, ?_⟩) (fun _ => hShr) ?_
    rotate_left
    · (intro w_ _; go_simp; first | done | with_reducible rfl)
    simp only [Act.put, List.setIfInBounds_toArray, List.set_cons_zero, List.set_cons_succ]
    refine Whichever.any (i := 16) (v := ?_) rfl (by kernel_rfl) (by kernel_rfl) (by kernel_rfl) (by kernel_rfl) (fun _ _ _ h => h) (.inl ⟨by rfl, ?_⟩) (fun _ => hShr) ?_
    rotate_left
    · (intro w_ _; go_simp; first | done | with_reducible rfl)
    simp only [Act.put, List.setIfInBounds_toArray, List.set_cons_zero, List.set_cons_succ]
    refine Whichever.any (i := 17) (v := ?_) rfl (by kernel_rfl) (by kernel_rfl) (by kernel_rfl) (by kernel_rfl) (fun _ _ _ h => h) (.inl ⟨by rfl, ?_⟩) (fun _ => hShr) ?_
    rotate_left
    · (intro w_ _; go_simp; first | done | with_reducible rfl)
    simp only [Act.put, List.setIfInBounds_toArray, List.set_cons_zero, List.set_cons_succ]
    refine Whichever.one (i := 18) (by kernel_rfl) rfl (fun K_ hK_ => ?_)
    have hfr := hShr.2.2.1
    have hc0_ := hShr.1
    go_simp
    refine hK_ _ _ (fun h => Bool.noConfusion ((by kernel_rfl : _ = true).symm.trans h)) ?_
    clear hK_ K_
    refine Whichever.done (by kernel_rfl) ?_ _
    go_wp2
    go_end0
    have hbg : whr.heap[g]? = some (.cells #[.string s] 105 (0, 0)) := by rw [hkhr.below.block g (by omega), ← HW.out, Below.heap_alloc _ _ _ hlt]; exact HG.out
    have hw0 : Below w.heap.size w W := by rw [← HW.out]; exact (Below.refl _ _).alloc (Nat.le_refl _) _
    refine ⟨rfl, ?_, (KB.of_below (hw0.trans (hkhr.below.mono (by omega)))).setCell _ rfl⟩
    rw [heap_setCell_same _ _ _ _ _ _ hbg]
    have e : t1 ++ c.data ++ z = s ++ encCell c := by
      rw [← HT.out, ← HZ2.out]
      unfold encCell cellN
      rw [hset, show (12 - (c.data.size : Int)).toNat = 12 - c.data.size by omega]
      simp only [Bool.false_eq_true, if_false, if_true, ByteArray.append_assoc]
    rw [e]
    rfl
  · obtain ⟨t1, ht1⟩ : ∃ t1, s ++ leB c.data.size 1 = t1 := ⟨_, rfl⟩
    have hp := Lib.hid (fun W => putC_ok s c.data.size 1 W (by omega) (by omega) (by omega))
    rw [ht1] at hp
    have hz1 : t1.size = s.size + 1 := by rw [← ht1, ByteArray.size_append, leB_size]
    have hn1 : ¬ 9223372036854775807 < t1.size + c.data.size := by omega
    have hn2 : ¬ 9223372036854775807 < t1.size + c.data.size + z.size := by omega
    have HT := Lib.hid ht1; clear ht1
    have HZ := Lib.hid hz1; clear hz1
    have HZ3 := Lib.hid hz2; clear hz2
    obtain ⟨W, hW⟩ : ∃ W, w.alloc (.cells #[.bool true, .string c.data] 27) = W := ⟨_, rfl⟩
    have hA := Lib.hid (show W.cell? ⟨g, 0, none⟩ = some (.string s) from by rw [← hW, ← hc0]; exact World.cell?_of_block (Below.heap_alloc _ _ _ hlt))
    have hC := Lib.hid (show W.cell? ⟨w.heap.size, 1, none⟩ = some (.string c.data) from by rw [← hW, heap_cell (heap_alloc_new w _)]; rfl)
    have hF := Lib.hid (show W.frozen? ⟨g, 0, none⟩ = false from by rw [← hW]; exact (World.frozen?_of_block (Below.heap_alloc _ _ _ hlt)).trans (heap_free HG.out 0))
    have hWs : W.heap.size = w.heap.size + 1 := by rw [← hW]; simp
    have HW := Lib.hid hW; clear hW
    have hk0 := Kp.start W (w.heap.size + 1) (by omega)
    have hS : BcS g w.heap.size s c.data W W.drew := ⟨hk0.cell (by simp; omega) hA.out, hk0.cell (by simp) hC.out, hk0.frozen (by simp; omega) hF.out, hk0⟩
    have HWs := Lib.hid hWs; clear hWs
    go_enter Try.func75, Try.ntmps75
    go_wp2_with fail
    rw [HW.out]
    refine Whichever.start (S := BcS g w.heap.size s c.data W) (n := 18) (by kernel_rfl) ?_
    refine Whichever.any (i := 0) (v := ?_) rfl (by kernel_rfl) (by kernel_rfl) (by kernel_rfl) (by kernel_rfl) (fun _ _ _ h => h) (.inl ⟨by rfl, ?_⟩) (fun _ => hS) ?_
    rotate_left
    · (intro w_ _; go_simp; first | done | with_reducible rfl)
    simp only [Act.put, List.setIfInBounds_toArray, List.set_cons_zero, List.set_cons_succ]
    refine Whichever.any (i := 1) (v := ?_) rfl (by kernel_rfl) (by kernel_rfl) (by kernel_rfl) (by kernel_rfl) (fun _ _ _ h => h) (.inl ⟨by rfl, ?_⟩) (fun _ => hS) ?_
    rotate_left
    · (intro w_ _; go_simp; first | done | with_reducible rfl)
    simp only [Act.put, List.setIfInBounds_toArray, List.set_cons_zero, List.set_cons_succ]
    refine Whichever.any (i := 2) (v := ?_) rfl (by kernel_rfl) (by kernel_rfl) (by kernel_rfl) (by kernel_rfl) (fun _ _ _ h => h) (.inl ⟨by rfl, ?_⟩) (fun _ => hS) ?_
    rotate_left
    · (intro w_ _; go_simp; first | done | with_reducible rfl)
    simp only [Act.put, List.setIfInBounds_toArray, List.set_cons_zero, List.set_cons_succ]
    refine Whichever.any (i := 3) (v := ?_) rfl (by kernel_rfl) (by kernel_rfl) (by kernel_rfl) (by kernel_rfl) (fun _ _ _ h => h) (.inl ⟨by rfl, ?_⟩) (fun _ => hS) ?_
    rotate_left
    · (intro w_ _; go_simp; first | done | with_reducible rfl)
    simp only [Act.put, List.setIfInBounds_toArray, List.set_cons_zero, List.set_cons_succ]
    refine Whichever.take (i := 4) (v := ?_) rfl (by kernel_rfl) (by kernel_rfl) (by kernel_rfl) (by kernel_rfl) (by kernel_rfl) (by kernel_rfl) (fun _ _ _ h => h) (.inl ⟨by rfl, ?_⟩) hS ?_
    rotate_left
    · (intro w_ hSw; unfold BcS at hSw; obtain ⟨hs0_, hs1_, hs2_, hs3_⟩ := hSw; go_simp; first | done | with_reducible rfl)
    simp only [Act.put, List.setIfInBounds_toArray, List.set_cons_zero, List.set_cons_succ]
    refine Whichever.any (i := 5) (v := ?_) rfl (by kernel_rfl) (by kernel_rfl) (by kernel_rfl) (by kernel_rfl) (fun _ _ _ h => h) (.inl ⟨by rfl, ?_⟩) (fun _ => hS) ?_
    rotate_left
    · (intro w_ _; go_simp; first | done | with_reducible rfl)
    simp only [Act.put, List.setIfInBounds_toArray, List.set_cons_zero, List.set_cons_succ]
    refine Whichever.any (i := 7) (v := ?_) rfl (by kernel_rfl) (by kernel_rfl) (by kernel_rfl) (by kernel_rfl) (fun _ _ _ h => h) (.inl ⟨by rfl, ?_⟩) (fun _ => hS) ?_
    rotate_left
    · (intro w_ _; go_simp; first | done | with_reducible rfl)
    simp only [Act.put, List.setIfInBounds_toArray, List.set_cons_zero, List.set_cons_succ]
    refine Whichever.take (i := 8) (v := ?_) rfl (by kernel_rfl) (by kernel_rfl) (by kernel_rfl) (by kernel_rfl) (by kernel_rfl) (by kernel_rfl) (fun _ _ _ h => h) (.inl ⟨by rfl, ?_⟩) hS ?_
    rotate_left
    · (intro w_ hSw; unfold BcS at hSw; obtain ⟨hs0_, hs1_, hs2_, hs3_⟩ := hSw; go_simp; first | done | with_reducible rfl)
    simp only [Act.put, List.setIfInBounds_toArray, List.set_cons_zero, List.set_cons_succ]
    refine Whichever.any (i := 10) (v := ?_) rfl (by kernel_rfl) (by kernel_rfl) (by kernel_rfl) (by kernel_rfl) (fun _ _ _ h => h) (.inl ⟨by rfl, ?_⟩) (fun _ => hS) ?_
    rotate_left
    · (intro w_ _; go_simp; first | done | with_reducible rfl)
    simp only [Act.put, List.setIfInBounds_toArray, List.set_cons_zero, List.set_cons_succ]
    refine Whichever.take (i := 11) (v := ?_) rfl (by kernel_rfl) (by kernel_rfl) (by kernel_rfl) (by kernel_rfl) (by kernel_rfl) (by kernel_rfl) (fun _ _ _ h => h) (.inl ⟨by rfl, ?_⟩) hS ?_
    rotate_left
    · (intro w_ hSw; unfold BcS at hSw; obtain ⟨hs0_, hs1_, hs2_, hs3_⟩ := hSw; go_simp; first | done | with_reducible rfl)
    simp only [Act.put, List.setIfInBounds_toArray, List.set_cons_zero, List.set_cons_succ]
    refine Whichever.any (i := 12) (v := ?_) rfl (by kernel_rfl) (by kernel_rfl) (by kernel_rfl) (by kernel_rfl) (fun _ _ _ h => h) (.inl ⟨by rfl, ?_⟩) (fun _ => hS) ?_
    rotate_left
    · (intro w_ _; go_simp; first | done | with_reducible rfl)
    simp only [Act.put, List.setIfInBounds_toArray, List.set_cons_zero, List.set_cons_succ]
    refine Whichever.any (i := 13) (v := ?_) rfl (by kernel_rfl) (by kernel_rfl) (by kernel_rfl) (by kernel_rfl) (fun _ _ _ h => h) (.inl ⟨by rfl, ?_⟩) (fun _ => hS) ?_
    rotate_left
    · (intro w_ _; go_simp; first | done | with_reducible rfl)
    simp only [Act.put, List.setIfInBounds_toArray, List.set_cons_zero, List.set_cons_succ]
    refine Whichever.one (i := 6) (by kernel_rfl) rfl (fun K_ hK_ => ?_)
    go_simp
    refine (hp.out _).mono ?_
    rintro e_ whp ⟨rfl, hbhp⟩
    have hkhp := hk0.step hbhp
    have hShp : BcS g w.heap.size s c.data W whp := ⟨hkhp.cell (by simp; omega) hA.out, hkhp.cell (by simp) hC.out, hkhp.frozen (by simp; omega) hF.out, hkhp⟩
    refine hK_ _ _ (fun _ => hShp) ?_
    clear hK_ K_
    refine Whichever.any (i := 9) (v := ?_) rfl (by kernel_rfl) (by kernel_rfl) (by kernel_rfl) (by kernel_rfl) (fun _ _ _ h => h) (.inl ⟨by rfl, ?_⟩) (fun _ => hShp) ?_
    rotate_left
    · (intro w_ _; go_simp; first | done | with_reducible rfl)
    simp only [Act.put, List.setIfInBounds_toArray, List.set_cons_zero, List.set_cons_succ]
    refine Whichever.one (i := 14) (by kernel_rfl) rfl (fun K_ hK_ => ?_)
    go_simp
    refine (hr.out _).mono ?_
    rintro e_ whr ⟨rfl, hbhr⟩
    have hkhr := hkhp.step hbhr
    have hShr : BcS g w.heap.size s c.data W whr := ⟨hkhr.cell (by simp; omega) hA.out, hkhr.cell (by simp) hC.out, hkhr.frozen (by simp; omega) hF.out, hkhr⟩
    refine hK_ _ _ (fun _ => hShr) ?_
    clear hK_ K_
    refine Whichever.any (i := 15) (v := ?_) rfl (by kernel_rfl) (by kernel_rfl) (by kernel_rfl) (by kernel_rfl) (fun _ _ _ h => h) (.inl ⟨by rfl, ?_⟩) (fun _ => hShr) ?_
    rotate_left
    · (intro w_ _; go_simp; first | done | with_reducible rfl)
    simp only [Act.put, List.setIfInBounds_toArray, List.set_cons_zero, List.set_cons_succ]
    refine Whichever.any (i := 16) (v := ?_) rfl (by kernel_rfl) (by kernel_rfl) (by kernel_rfl) (by kernel_rfl) (fun _ _ _ h => h) (.inl ⟨by rfl, ?_⟩) (fun _ => hShr) ?_
    rotate_left
    · (intro w_ _; go_simp; first | done | with_reducible rfl)
    simp only [Act.put, List.setIfInBounds_toArray, List.set_cons_zero, List.set_cons_succ]
    refine Whichever.any (i := 17) (v := ?_) rfl (by kernel_rfl) (by kernel_rfl) (by kernel_rfl) (by kernel_rfl) (fun _ _ _ h => h) (.inl ⟨by rfl, ?_⟩) (fun _ => hShr) ?_
    rotate_left
    · (intro w_ _; go_simp; first | done | with_reducible rfl)
    simp only [Act.put, List.setIfInBounds_toArray, List.set_cons_zero, List.set_cons_succ]
    refine Whichever.one (i := 18) (by kernel_rfl) rfl (fun K_ hK_ => ?_)
    have hfr := hShr.2.2.1
    have hc0_ := hShr.1
    go_simp
    refine hK_ _ _ (fun h => Bool.noConfusion ((by kernel_rfl : _ = true).symm.trans h)) ?_
    clear hK_ K_
    refine Whichever.done (by kernel_rfl) ?_ _
    go_wp2
    go_end0
    have hbg : whr.heap[g]? = some (.cells #[.string s] 105 (0, 0)) := by rw [hkhr.below.block g (by omega), ← HW.out, Below.heap_alloc _ _ _ hlt]; exact HG.out
    have hw0 : Below w.heap.size w W := by rw [← HW.out]; exact (Below.refl _ _).alloc (Nat.le_refl _) _
    refine ⟨rfl, ?_, (KB.of_below (hw0.trans (hkhr.below.mono (by omega)))).setCell _ rfl⟩
    rw [heap_setCell_same _ _ _ _ _ _ hbg]
    have e : t1 ++ c.data ++ z = s ++ encCell c := by
      rw [← HT.out, ← HZ2.out]
      unfold encCell cellN
      rw [hset, show (12 - (c.data.size : Int)).toNat = 12 - c.data.size by omega]
      simp only [Bool.false_eq_true, if_false, if_true, ByteArray.append_assoc]
    rw [e]
    rfl
end Go.Proofs.Ytldkgmodmpnclaa
