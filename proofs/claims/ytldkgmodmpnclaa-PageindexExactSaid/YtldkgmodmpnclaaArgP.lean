/- A page that came in as an argument: it is a page's cells, with numbers and strings of their kind. -/
import Derived.Test.YtldkgmodmpnclaaEq
import Derived.WideShapes
namespace Go.Proofs.Ytldkgmodmpnclaa
open Go.RowKit Go.Proofs
set_option linter.unusedVariables false
def iOf : Option Value → Int
  | some (.int _ n) => n
  | _ => 0
def bOf : Option Value → Bool
  | some (.bool b) => b
  | _ => false
def sOf : Option Value → ByteArray
  | some (.string s) => s
  | _ => ByteArray.empty
section
variable {P : Program} {w : World} {r : Reach} {base : Nat} {t : TypeId} {v : Value}
theorem cellW_int {k : IntKind} (ht : P.underlying t = some (.int k)) (h : Cell.okWide P w r base t v) : ∃ n, v = .int k n ∧ k.has n := by
  simp only [Cell.okWide, ht] at h
  cases v <;> simp_all [Cell.ok]
theorem cellW_bool (ht : P.underlying t = some .bool) (h : Cell.okWide P w r base t v) : ∃ b, v = .bool b := by
  simp only [Cell.okWide, ht] at h
  cases v <;> simp_all [Cell.ok]
theorem cellW_string (ht : P.underlying t = some .string) (h : Cell.okWide P w r base t v) : ∃ s, v = .string s ∧ (s.size : Int) ≤ IntKind.i64.max := by
  simp only [Cell.okWide, ht] at h
  cases v <;> simp_all [Cell.ok]
end
def pageT : List TypeId := 3 :: 3 :: (List.replicate 16 [4, 9]).flatten
theorem cellTypes59 : Try.prog.cellTypes Try.prog.depth 59 = some pageT := by kernel_rfl
theorem pageT_bool : ∀ i, i < 16 → pageT[(2 + 2 * i) % pageT.length]? = some 4 := by decide
theorem pageT_str : ∀ i, i < 16 → pageT[(2 + 2 * i + 1) % pageT.length]? = some 9 := by decide
set_option maxRecDepth 100000 in
theorem open_page {W : World} {r : Reach} {base : Nat} {v : Value} (h : Value.okWide Try.prog W r base 59 v) : ∃ p : Page, v = .agg (pageC p) ∧ IntKind.i64.has p.id ∧ IntKind.i64.has p.lsn ∧ ∀ c ∈ p.cells, (c.data.size : Int) ≤ IntKind.i64.max := by
  simp only [Value.okWide, Try.underlying59] at h
  obtain ⟨cs, rfl, hsz, ts, hts, _, hall⟩ := h
  rw [cellsOf59] at hsz
  rw [cellTypes59] at hts
  have hget : ∀ i, (hi : i < 34) → cs[i]? = some (cs[i]'(by omega)) := fun i hi => Array.getElem?_eq_getElem (by omega)
  obtain rfl := Option.some.inj hts
  have h0 : ∃ n, cs[0]? = some (.int .i64 n) ∧ IntKind.i64.has n := by
    obtain ⟨u, hu, hk⟩ := hall 0 _ (hget 0 (by omega))
    obtain rfl : 3 = u := Option.some.inj hu
    obtain ⟨n, e, hn⟩ := cellW_int Try.underlying3 hk
    exact ⟨n, by rw [← e]; exact hget 0 (by omega), hn⟩
  have h1 : ∃ n, cs[1]? = some (.int .i64 n) ∧ IntKind.i64.has n := by
    obtain ⟨u, hu, hk⟩ := hall 1 _ (hget 1 (by omega))
    obtain rfl : 3 = u := Option.some.inj hu
    obtain ⟨n, e, hn⟩ := cellW_int Try.underlying3 hk
    exact ⟨n, by rw [← e]; exact hget 1 (by omega), hn⟩
  have hb : ∀ i, i < 16 → ∃ b, cs[2 + 2 * i]? = some (.bool b) := fun i hi => by
    obtain ⟨u, hu, hk⟩ := hall (2 + 2 * i) _ (hget (2 + 2 * i) (by omega))
    rw [pageT_bool i hi] at hu
    obtain rfl := Option.some.inj hu
    obtain ⟨b, e⟩ := cellW_bool Try.underlying4 hk
    exact ⟨b, by rw [← e]; exact hget _ (by omega)⟩
  have hs : ∀ i, i < 16 → ∃ s, cs[2 + 2 * i + 1]? = some (.string s) ∧ (s.size : Int) ≤ IntKind.i64.max := fun i hi => by
    obtain ⟨u, hu, hk⟩ := hall (2 + 2 * i + 1) _ (hget (2 + 2 * i + 1) (by omega))
    rw [pageT_str i hi] at hu
    obtain rfl := Option.some.inj hu
    obtain ⟨s, e, hl⟩ := cellW_string Try.underlying9 hk
    exact ⟨s, by rw [← e]; exact hget _ (by omega), hl⟩
  obtain ⟨n0, e0, w0⟩ := h0
  obtain ⟨n1, e1, w1⟩ := h1
  refine ⟨⟨n0, n1, (List.range 16).map fun i => ⟨bOf cs[2 + 2 * i]?, sOf cs[2 + 2 * i + 1]?⟩, by simp⟩, ?_, w0, w1, ?_⟩
  · congr 1
    apply Array.ext_getElem?
    intro i
    by_cases hi : i < 34
    · rcases (show i = 0 ∨ i = 1 ∨ (∃ k, k < 16 ∧ i = 2 + 2 * k) ∨ (∃ k, k < 16 ∧ i = 2 + 2 * k + 1) from by
        rcases Nat.lt_or_ge i 2 with h | h
        · omega
        · rcases Nat.mod_two_eq_zero_or_one i with e | e
          · exact .inr (.inr (.inl ⟨(i - 2) / 2, by omega, by omega⟩))
          · exact .inr (.inr (.inr ⟨(i - 3) / 2, by omega, by omega⟩))) with rfl | rfl | ⟨k, hk, rfl⟩ | ⟨k, hk, rfl⟩
      · rw [e0]; rfl
      · rw [e1]; rfl
      · obtain ⟨b, e⟩ := hb k hk
        rw [pageC_set _ k hk, e]
        simp [Page.at, List.getD_eq_getElem?_getD, hk, e, bOf]
      · obtain ⟨s, e, _⟩ := hs k hk
        rw [pageC_data _ k hk, e]
        simp [Page.at, List.getD_eq_getElem?_getD, hk, e, sOf]
    · rw [Array.getElem?_eq_none (by omega), Array.getElem?_eq_none (by rw [pageC_size]; omega)]
  · intro c hc
    obtain ⟨i, hi, rfl⟩ := List.mem_map.1 hc
    obtain ⟨s, e, hl⟩ := hs i (List.mem_range.1 hi)
    show ((sOf cs[2 + 2 * i + 1]?).size : Int) ≤ _
    rw [e]
    exact hl
end Go.Proofs.Ytldkgmodmpnclaa
