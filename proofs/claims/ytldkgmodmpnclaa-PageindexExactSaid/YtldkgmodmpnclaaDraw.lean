import Derived.Test.YtldkgmodmpnclaaPageD
namespace Go.Proofs.Ytldkgmodmpnclaa
open Go.RowKit Go.Proofs
set_option linter.unusedVariables false
set_option linter.unusedSimpArgs false
/-- Choices in block g: a slice of bytes elsewhere, and how many are used up. -/
structure CsAt (w : World) (g : Nat) (b off n c p : Nat) : Prop where
  blk : w.heap[g]? = some (.cells #[.slice (some ⟨b, off, none⟩) n c, .int .i64 p] 86 (0, 0))
  le : p ≤ n
  top : n ≤ 1000
  ne : b < g
  byte : ∀ i, i < n → ∃ v : Nat, v < 256 ∧ w.cell? ⟨b, off + i, none⟩ = some (.int .u8 v)
/-- .. or none at all. -/
def Cs (w : World) (g : Nat) : Prop := (∃ b off n c p, CsAt w g b off n c p) ∨ (∃ a c, w.heap[g]? = some (.cells #[.slice a 0 c, .int .i64 0] 86 (0, 0)))
theorem Cs.lt {w : World} {g : Nat} (h : Cs w g) : g < w.heap.size := by
  rcases h with ⟨b, off, n, c, p, h⟩ | ⟨a, c, h⟩
  · exact heap_lt h.blk
  · exact heap_lt h
/-- The world of another call that leaves the block alone. -/
theorem Cs.keep {w w' : World} {g : Nat} (h : Cs w g) (hb : Below w.heap.size w w') : Cs w' g := by
  rcases h with ⟨b, off, n, c, p, h⟩ | ⟨a, c, h⟩
  · refine .inl ⟨b, off, n, c, p, (hb.block g (heap_lt h.blk)).trans h.blk, h.le, h.top, h.ne, fun i hi => ?_⟩
    obtain ⟨v, hv, hc⟩ := h.byte i hi
    exact ⟨v, hv, (hb.cell (p := ⟨b, off + i, none⟩) (World.block_lt_of_cell? w _ hc)).trans hc⟩
  · exact .inr ⟨a, c, (hb.block g (heap_lt h)).trans h⟩
/-- .. and of what changes blocks behind g alone. -/
theorem Cs.keepG {w w' : World} {g : Nat} (h : Cs w g) (hb : Below (g + 1) w w') : Cs w' g := by
  rcases h with ⟨b, off, n, c, p, h⟩ | ⟨a, c, h⟩
  · refine .inl ⟨b, off, n, c, p, (hb.block g (by omega)).trans h.blk, h.le, h.top, h.ne, fun i hi => ?_⟩
    obtain ⟨v, hv, hc⟩ := h.byte i hi
    exact ⟨v, hv, (hb.cell (p := ⟨b, off + i, none⟩) (show b < g + 1 by have := h.ne; omega)).trans hc⟩
  · exact .inr ⟨a, c, (hb.block g (by omega)).trans h⟩
theorem Cs.drew {w : World} {g : Nat} (h : Cs w g) : Cs w.drew g := h.keep (Below.refl _ _).drew
theorem Cs.alloc {w : World} {g : Nat} (h : Cs w g) (o : Obj) : Cs (w.alloc o) g := h.keep ((Below.refl _ _).alloc (Nat.le_refl _) o)
/-- One more is used up. -/
theorem CsAt.step {w : World} {g b off n c p : Nat} (h : CsAt w g b off n c p) (hp : p < n) : CsAt (w.setCell ⟨g, 1, none⟩ (.int .i64 ((p : Int) + 1))) g b off n c (p + 1) := by
  refine ⟨?_, by omega, h.top, h.ne, fun i hi => ?_⟩
  · rw [heap_setCell_same _ _ _ _ _ _ h.blk]
    rfl
  · obtain ⟨v, hv, hc⟩ := h.byte i hi
    exact ⟨v, hv, by rw [← hc]; exact World.cell?_of_block (heap_setCell_other w _ b _ (Nat.ne_of_lt h.ne))⟩
set_option maxHeartbeats 1000000 in
set_option maxRecDepth 100000 in
theorem next_none (g : Nat) (a : Option Addr) (c : Nat) (n : Int) (w : World) (h : w.heap[g]? = some (.cells #[.slice a 0 c, .int .i64 0] 86 (0, 0))) (h1 : 1 ≤ n) :
    Calls Try.prog 19 #[.pointer (some ⟨g, 0, none⟩), .int .i64 n] w fun e w' => e = .returned (.int .i64 0) ∧ Below w.heap.size w w' := by
  have hc0 : w.cell? ⟨g, 0, none⟩ = some (.slice a 0 c) := by rw [heap_cell h]; rfl
  have hc1 : w.cell? ⟨g, 1, none⟩ = some (.int .i64 0) := by rw [heap_cell h]; rfl
  clear h
  go_enter Try.func19, Try.ntmps19
  go_wp2_with fail
  go_region
  go_wp2
  go_ret
  exact ⟨rfl, (Below.refl _ _).drew⟩
set_option maxHeartbeats 1000000 in
set_option maxRecDepth 100000 in
theorem next_end (g b off m c : Nat) (n : Int) (w : World) (h : CsAt w g b off m c m) (h1 : 1 ≤ n) :
    Calls Try.prog 19 #[.pointer (some ⟨g, 0, none⟩), .int .i64 n] w fun e w' => e = .returned (.int .i64 0) ∧ Below w.heap.size w w' := by
  have hc0 : w.cell? ⟨g, 0, none⟩ = some (.slice (some ⟨b, off, none⟩) m c) := by rw [heap_cell h.blk]; rfl
  have hc1 : w.cell? ⟨g, 1, none⟩ = some (.int .i64 m) := by rw [heap_cell h.blk]; rfl
  clear h
  go_enter Try.func19, Try.ntmps19
  go_wp2_with fail
  go_region
  go_wp2
  go_ret
  exact ⟨rfl, (Below.refl _ _).drew⟩
theorem KB.drew {g : Nat} {w w' : World} (h : KB g w w') : KB g w w'.drew := h.trans (KB.of_below ((Below.refl _ _).drew))
theorem CsAt.step2 {w : World} {g b off n c p : Nat} (h : CsAt w g b off n c p) (hp : p < n) : KB g w (w.setCell ⟨g, 1, none⟩ (.int .i64 ((p : Int) + 1))).drew.drew ∧ Cs (w.setCell ⟨g, 1, none⟩ (.int .i64 ((p : Int) + 1))).drew.drew g :=
  ⟨((KB.of_below (Below.refl _ _)).setCell (p := ⟨g, 1, none⟩) _ rfl).drew.drew, Cs.drew (Cs.drew (.inl ⟨b, off, n, c, p + 1, h.step hp⟩))⟩
theorem mod_lt' (x n : Int) (h : 1 ≤ n) : 0 ≤ x % n ∧ x % n < n := ⟨Int.emod_nonneg _ (by omega), Int.emod_lt_of_pos _ (by omega)⟩
/-- A choice: some number below n. -/
def Choice (n : Int) (g : Nat) (w : World) (e : Ending) (w' : World) : Prop := ∃ r : Int, e = .returned (.int .i64 r) ∧ 0 ≤ r ∧ r < n ∧ KB g w w' ∧ Cs w' g
set_option maxHeartbeats 1000000 in
set_option maxRecDepth 100000 in
theorem next_small (g b off m c p : Nat) (n : Int) (w : World) (h : CsAt w g b off m c p) (hp : p < m) (h1 : 1 ≤ n) (h2 : n ≤ 256) :
    Calls Try.prog 19 #[.pointer (some ⟨g, 0, none⟩), .int .i64 n] w (Choice n g w) := by
  have hc0 : w.cell? ⟨g, 0, none⟩ = some (.slice (some ⟨b, off, none⟩) m c) := by rw [heap_cell h.blk]; rfl
  have hc1 : w.cell? ⟨g, 1, none⟩ = some (.int .i64 p) := by rw [heap_cell h.blk]; rfl
  have hf1 : w.frozen? ⟨g, 1, none⟩ = false := heap_free h.blk 1
  obtain ⟨v, hv, hcv⟩ := h.byte p hp
  have htop := h.top
  have hlt := heap_lt h.blk
  have hge : decide (m ≤ p) = false := by simp; omega
  have hn1 : decide (n < 1) = false := by simp; omega
  have hn2 : decide (256 < n) = false := by simp; omega
  have H := Lib.hid h; clear h
  have i0 : (0 : Int) ≤ (p : Int) := by omega
  have i1 : (p : Int) < (m : Int) := by omega
  go_enter Try.func19, Try.ntmps19
  go_wp2_with fail
  go_region
  go_wp2_with fail
  go_region
  go_wp2_with fail
  go_ret
  have hm := mod_lt' (v : Int) n h1
  exact ⟨_, rfl, hm.1, hm.2, (H.out.step2 hp).1, (H.out.step2 hp).2⟩
theorem next_256 (g : Nat) (n : Int) (w : World) (h : Cs w g) (h1 : 1 ≤ n) (h2 : n ≤ 256) :
    Calls Try.prog 19 #[.pointer (some ⟨g, 0, none⟩), .int .i64 n] w (Choice n g w) := by
  rcases h with ⟨b, off, m, c, p, h⟩ | ⟨a, c, h⟩
  · by_cases hp : p < m
    · exact next_small g b off m c p n w h hp h1 h2
    · have : p = m := by have := h.le; omega
      subst this
      refine (next_end g b off p c n w h h1).mono ?_
      rintro e w' ⟨rfl, hb⟩
      exact ⟨0, rfl, by omega, by omega, KB.of_below hb, Cs.keep (.inl ⟨b, off, p, c, p, h⟩) hb⟩
  · refine (next_none g a c n w h h1).mono ?_
    rintro e w' ⟨rfl, hb⟩
    exact ⟨0, rfl, by omega, by omega, KB.of_below hb, Cs.keep (.inr ⟨a, c, h⟩) hb⟩
set_option maxHeartbeats 1000000 in
set_option maxRecDepth 100000 in
theorem next_big (g b off m c p : Nat) (n : Int) (w : World) (h : CsAt w g b off m c p) (hp : p < m) (h1 : 256 < n) (h2 : n ≤ 65536) :
    Calls Try.prog 19 #[.pointer (some ⟨g, 0, none⟩), .int .i64 n] w (Choice n g w) := by
  have hc0 : w.cell? ⟨g, 0, none⟩ = some (.slice (some ⟨b, off, none⟩) m c) := by rw [heap_cell h.blk]; rfl
  have hc1 : w.cell? ⟨g, 1, none⟩ = some (.int .i64 p) := by rw [heap_cell h.blk]; rfl
  have hf1 : w.frozen? ⟨g, 1, none⟩ = false := heap_free h.blk 1
  obtain ⟨v, hv, hcv⟩ := h.byte p hp
  have htop := h.top
  have hlt := heap_lt h.blk
  have hge : decide (m ≤ p) = false := by simp; omega
  have hn1 : decide (n < 1) = false := by simp; omega
  have hn2 : decide (256 < n) = true := by simp; omega
  have H := Lib.hid h; clear h
  have i0 : (0 : Int) ≤ (p : Int) := by omega
  have i1 : (p : Int) < (m : Int) := by omega
  have hC : Cs (w.setCell ⟨g, 1, none⟩ (.int .i64 ((p : Int) + 1))).drew.drew g := Cs.drew (Cs.drew (.inl ⟨b, off, m, c, p + 1, H.out.step hp⟩))
  go_enter Try.func19, Try.ntmps19
  go_wp2_with fail
  go_region
  go_wp2_with fail
  go_region
  go_wp2_with fail
  refine (next_256 g 256 _ hC (by omega) (by omega)).mono ?_
  rintro e w' ⟨r, rfl, hr0, hr1, hk, hC'⟩
  go_wp2
  go_ret
  have hm := mod_lt' (256 * (v : Int) + r) n (by omega)
  exact ⟨_, rfl, hm.1, hm.2, (H.out.step2 hp).1.trans hk, hC'⟩
/-- Next: some number from 0 to n - 1, and the block of choices is one again. -/
theorem next_calls (g : Nat) (n : Int) (w : World) (h : Cs w g) (h1 : 1 ≤ n) (h2 : n ≤ 65536) :
    Calls Try.prog 19 #[.pointer (some ⟨g, 0, none⟩), .int .i64 n] w (Choice n g w) := by
  by_cases hs : n ≤ 256
  · exact next_256 g n w h h1 hs
  · rcases h with ⟨b, off, m, c, p, h⟩ | ⟨a, c, h⟩
    · by_cases hp : p < m
      · exact next_big g b off m c p n w h hp (by omega) h2
      · have : p = m := by have := h.le; omega
        subst this
        refine (next_end g b off p c n w h h1).mono ?_
        rintro e w' ⟨rfl, hb⟩
        exact ⟨0, rfl, by omega, by omega, KB.of_below hb, Cs.keep (.inl ⟨b, off, p, c, p, h⟩) hb⟩
    · refine (next_none g a c n w h h1).mono ?_
      rintro e w' ⟨rfl, hb⟩
      exact ⟨0, rfl, by omega, by omega, KB.of_below hb, Cs.keep (.inr ⟨a, c, h⟩) hb⟩

/-- A row of bytes that a call was given: at least its first n cells are numbers below 256. -/
def Ls (w : World) (a : Option Addr) (n c : Nat) : Prop := n ≤ c ∧ c ≤ maxLen ∧ (n = 0 ∨ ∃ b off, a = some ⟨b, off, none⟩ ∧ ∀ i, i < n → ∃ v : Nat, v < 256 ∧ w.cell? ⟨b, off + i, none⟩ = some (.int .u8 v))
theorem Ls.keep {w w' : World} {a n c} (h : Ls w a n c) (hb : Below w.heap.size w w') : Ls w' a n c := by
  obtain ⟨h1, h2, h | ⟨b, off, h, hi⟩⟩ := h
  · exact ⟨h1, h2, .inl h⟩
  · refine ⟨h1, h2, .inr ⟨b, off, h, fun i hlt => ?_⟩⟩
    obtain ⟨v, hv, hc⟩ := hi i hlt
    exact ⟨v, hv, (hb.cell (p := ⟨b, off + i, none⟩) (World.block_lt_of_cell? w _ hc)).trans hc⟩
/-- Choices: a new block of them. -/
def Made (B : Nat) (w : World) (e : Ending) (w' : World) : Prop := ∃ g, e = .returned (.pointer (some ⟨g, 0, none⟩)) ∧ B ≤ g ∧ Below B w w' ∧ Cs w' g
theorem Cs.new {w : World} {a : Option Addr} {n c : Nat} (h : Ls w a n c) (ht : n ≤ 1000)  : Cs (w.alloc (.cells #[.slice a n c, .int .i64 0] 86 (0, 0))) w.heap.size := by
  obtain ⟨h1, h2, h | ⟨b, off, rfl, hi⟩⟩ := h
  · subst h
    exact .inr ⟨a, c, heap_alloc_new _ _⟩
  · by_cases hn : n = 0
    · subst hn
      exact .inr ⟨_, c, heap_alloc_new _ _⟩
    · obtain ⟨v, hv, hc⟩ := hi 0 (by omega)
      have hlt : b < w.heap.size := World.block_lt_of_cell? w _ hc
      refine .inl ⟨b, off, n, c, 0, ⟨heap_alloc_new _ _, by omega, ht, by omega, fun i hlt' => ?_⟩⟩
      obtain ⟨v, hv, hc⟩ := hi i hlt'
      exact ⟨v, hv, (World.cell?_of_block (w := w) (a := ⟨b, off + i, none⟩) (Below.heap_alloc _ _ _ hlt)).trans hc⟩
theorem Ls.take {w : World} {a n c} (h : Ls w a n c) {m : Nat} (hm : m ≤ n) : Ls w a m c := by
  obtain ⟨h1, h2, h | ⟨b, off, h, hi⟩⟩ := h
  · exact ⟨by omega, h2, .inl (by omega)⟩
  · exact ⟨by omega, h2, .inr ⟨b, off, h, fun i hlt => hi i (by omega)⟩⟩
set_option maxHeartbeats 1000000 in
set_option maxRecDepth 100000 in
/-- New: choices out of what was given, at most 1000. -/
theorem newCodes_calls (a : Option Addr) (n c : Nat) (m : Nat) (w : World) (h : Ls w a n c) (hm : m ≤ 1000) :
    Calls Try.prog 15 #[.slice a n c, .int .i64 m] w (Made w.heap.size w) := by
  obtain ⟨h1, h2, _⟩ := id h
  have H := Lib.hid h; clear h
  by_cases hn : m < n
  · have hd : decide (m < n) = true := by simp; omega
    go_enter Try.func15, Try.ntmps15
    go_wp2_with fail
    go_ret
    exact ⟨_, rfl, Nat.le_refl _, (Below.refl _ _).alloc (Nat.le_refl _) _, Cs.new (Ls.take H.out (m := m) (by omega)) hm⟩
  · have hd : decide (m < n) = false := by simp; omega
    go_enter Try.func15, Try.ntmps15
    go_wp2_with fail
    go_ret
    exact ⟨_, rfl, Nat.le_refl _, (Below.refl _ _).alloc (Nat.le_refl _) _, Cs.new H.out (by omega)⟩
end Go.Proofs.Ytldkgmodmpnclaa
