/- Composite literals of slices whose parts have several cells each: the new block holds the parts one after the other; and a part read again at its place. -/
import Derived.Test.YtldkgmodmpnclaaPageC
namespace Go.Proofs.Ytldkgmodmpnclaa
open Go.RowKit Go.Proofs
set_option linter.unusedVariables false
set_option linter.unusedSimpArgs false
theorem foldl_put (off : Nat) : ∀ (l pre mid post : List Value) (n : Nat), pre.length = off + n → mid.length = l.length →
    (l.zipIdx n).foldl (fun cs (x : Value × Nat) => cs.setIfInBounds (off + x.2) x.1) (pre ++ mid ++ post).toArray = (pre ++ l ++ post).toArray
  | [], pre, mid, post, n, h1, h2 => by
    obtain rfl : mid = [] := List.length_eq_zero_iff.1 h2
    rfl
  | c :: l, pre, [], post, n, h1, h2 => by simp at h2
  | c :: l, pre, m :: mid, post, n, h1, h2 => by
    rw [List.zipIdx_cons, List.foldl_cons]
    have e : ((pre ++ m :: mid ++ post).toArray.setIfInBounds (off + n) c) = ((pre ++ [c]) ++ mid ++ post).toArray := by
      rw [List.setIfInBounds_toArray, ← h1, List.append_assoc, List.set_append_right _ _ (Nat.le_refl _), Nat.sub_self]
      simp
    show List.foldl _ ((pre ++ m :: mid ++ post).toArray.setIfInBounds (off + n) c) _ = _
    rw [e, foldl_put off l (pre ++ [c]) mid post (n + 1) (by simp; omega) (by simpa using h2)]
    simp
theorem fill_rows (k : Nat) : ∀ (rows : List (Array Value)) (pre rest : List Value) (i : Nat), (∀ r ∈ rows, r.size = k) → pre.length = i * k → rest.length = rows.length * k →
    Instr.fill (fun i => some (i * k, k)) (pre ++ rest).toArray ((rows.zipIdx i).map fun x => (x.2, Value.agg x.1)) = some (pre ++ (rows.map Array.toList).flatten).toArray
  | [], pre, rest, i, _, h1, h2 => by
    obtain rfl : rest = [] := List.length_eq_zero_iff.1 (by simpa using h2)
    simp [Instr.fill]
  | r :: rows, pre, rest, i, hr, h1, h2 => by
    have hk := hr r (by simp)
    have hkl : r.toList.length = k := by simpa using hk
    have hlen : rest.length = k + rows.length * k := by rw [h2, List.length_cons, Nat.succ_mul]; omega
    rw [List.zipIdx_cons, List.map_cons]
    have hf : (Value.agg r).cells.zipIdx.foldl (fun cs (x : Value × Nat) => cs.setIfInBounds (i * k + x.2) x.1) (pre ++ rest).toArray = (pre ++ r.toList ++ rest.drop k).toArray := by
      have := foldl_put (i * k) r.toList pre (rest.take k) (rest.drop k) 0 (by omega) (by rw [List.length_take]; omega)
      rw [List.append_assoc, List.take_append_drop] at this
      rw [← this, show (Value.agg r).cells = r from rfl, ← Array.foldl_toList, Array.toList_zipIdx]
    have hs : ((Value.agg r).cells.size ≠ k || i * k + (Value.agg r).cells.size > (pre ++ rest).toArray.size) = false := by
      have e : (Value.agg r).cells.size = k := hk
      simp [e, h1, hlen]
    show (if ((Value.agg r).cells.size ≠ k || i * k + (Value.agg r).cells.size > (pre ++ rest).toArray.size) = true then none else Instr.fill _ ((Value.agg r).cells.zipIdx.foldl (fun cs (x : Value × Nat) => cs.setIfInBounds (i * k + x.2) x.1) (pre ++ rest).toArray) _) = _
    rw [hs, hf, if_neg (by simp)]
    rw [fill_rows k rows (pre ++ r.toList) (rest.drop k) (i + 1) (fun r hr' => hr r (by simp [hr'])) (by rw [List.length_append, hkl, h1, Nat.succ_mul]) (by rw [List.length_drop]; omega)]
    simp
variable {P : Program}
theorem run_buildSlice_rows (w : World) (t e : TypeId) (k : Nat) (rows : List (Array Value)) (parts : Array (Nat × Value)) (z : Value) (hu : P.underlying t = some (.slice e)) (hi : (P.info? e).map (·.size) = some k)
    (hz : ∀ w, (zeroValue e).run P w = .ok z w) (hk : ∀ r ∈ rows, r.size = k) (hn : rows.length * k ≤ 16777216) (h0 : 0 < rows.length * k) (hp : parts.toList = rows.zipIdx.map fun x => (x.2, Value.agg x.1)) :
    (Instr.buildSlice t rows.length parts).run P w = .ok (.slice (some ⟨w.heap.size, 0, none⟩) rows.length rows.length) (w.alloc (.cells (rows.map Array.toList).flatten.toArray e)) := by
  have hs : ∀ w, (sizeOf e).run P w = .ok k w := fun w => by
    cases hq : P.info? e with
    | none => simp [hq] at hi
    | some i =>
      have : i.size = k := by simpa [hq] using hi
      simp [sizeOf, typeInfo, hq, this]
  have hf : ∀ zs : Array Value, zs.size = rows.length * k → Instr.fill (fun i => some (i * k, k)) zs parts.toList = some (rows.map Array.toList).flatten.toArray := fun zs hzs => by
    have := fill_rows k rows [] zs.toList 0 hk (by simp) (by simpa using hzs)
    rw [hp]
    simpa using this
  unfold Instr.buildSlice
  simp only [Sem.run_bind, run_underlying hu w, Result.andThen_ok, hs, Sem.run_pure]
  rw [if_neg (by omega), if_neg (by omega)]
  simp only [Sem.run_bind, Sem.run_pure, Result.andThen_ok, hz]
  rw [hf _ (by simp)]
  simp [newRow]
theorem wp_buildSlice_rows {op : Oper} {a : Act} {w : World} {K : Act → World → Prop} {Q : Exit → Act → World → Prop} (t e : TypeId) (k n : Nat) (parts : Array (Nat × Operand)) (ho : op.op = .buildSlice t n parts) (rows : List (Array Value)) (z : Value)
    (hu : P.underlying t = some (.slice e)) (hi : (P.info? e).map (·.size) = some k) (hz : ∀ w, (zeroValue e).run P w = .ok z w) (hk : ∀ r ∈ rows, r.size = k) (hn : rows.length * k ≤ 16777216) (h0 : 0 < rows.length * k) (hl : rows.length = n)
    (hp : (parts.map fun (i, x) => (i, a.eval x)).toList = rows.zipIdx.map fun x => (x.2, Value.agg x.1))
    (h : K (a.put op.dst (.slice (some ⟨w.heap.size, 0, none⟩) n n)) (w.alloc (.cells (rows.map Array.toList).flatten.toArray e))) : op.wp P a w K Q := by
  have hr := run_buildSlice_rows (P := P) w t e k rows (parts.map fun (i, x) => (i, a.eval x)) z hu hi hz hk hn h0 hp
  rw [hl] at hr
  unfold Oper.wp execOp
  simp only [ho, Sem.run_bind, hr, Result.andThen_ok, Sem.run_pure]
  exact h
/-- The pages of a slice, one after the other. -/
def pagesC (l : List Page) : Array Value := ((l.map pageC).map Array.toList).flatten.toArray
theorem flatten_drop {k : Nat} : ∀ (rows : List (List Value)) (i : Nat) (r : List Value), (∀ r ∈ rows, r.length = k) → rows[i]? = some r → ∀ (j : Nat) (v : Value), r[j]? = some v → rows.flatten[i * k + j]? = some v
  | [], i, r, _, h, j, v, hj => by simp at h
  | x :: rows, 0, r, hk, h, j, v, hj => by
    simp at h
    subst h
    have hl : j < x.length := by
      rcases Nat.lt_or_ge j x.length with h | h
      · exact h
      · rw [List.getElem?_eq_none h] at hj; cases hj
    rw [List.flatten_cons, Nat.zero_mul, Nat.zero_add, List.getElem?_append_left hl, hj]
  | x :: rows, i + 1, r, hk, h, j, v, hj => by
    have hx := hk x (by simp)
    rw [List.flatten_cons, List.getElem?_append_right (by rw [hx, Nat.succ_mul]; omega), hx, show (i + 1) * k + j - k = i * k + j by rw [Nat.succ_mul]; omega]
    exact flatten_drop rows i r (fun r hr => hk r (by simp [hr])) (by simpa using h) j v hj
theorem range_pages {w : World} {b : Nat} {l : List Page} {fr : Nat × Nat} (h : w.heap[b]? = some (.cells (pagesC l) 59 fr)) (i : Nat) (hi : i < l.length) (p : Page) (hp : l[i]? = some p) : w.rangeAt b (i * 34) (pageC p).toList := by
  intro j v hj
  rw [heap_cell h]
  show (((l.map pageC).map Array.toList).flatten.toArray)[i * 34 + j]? = some v
  rw [List.getElem?_toArray]
  refine flatten_drop _ i (pageC p).toList (fun r hr => ?_) ?_ j v hj
  · simp only [List.mem_map] at hr
    obtain ⟨c, ⟨q, _, rfl⟩, rfl⟩ := hr
    rw [Array.length_toList, pageC_size]
  · simp [hp]
theorem wp_pages4 {op : Oper} {a : Act} {w : World} {K : Act → World → Prop} {Q : Exit → Act → World → Prop} (t n : Nat) (parts : Array (Nat × Operand)) (ho : op.op = .buildSlice t n parts) (l : List Page) (hu : Try.prog.underlying t = some (.slice 59))
    (hl : l.length = n) (h0 : 0 < n) (hn : n ≤ 1000) (hp : (parts.map fun (i, x) => (i, a.eval x)).toList = (l.map pageC).zipIdx.map fun x => (x.2, Value.agg x.1))
    (h : K (a.put op.dst (.slice (some ⟨w.heap.size, 0, none⟩) n n)) (w.alloc (.cells (pagesC l) 59))) : op.wp Try.prog a w K Q :=
  wp_buildSlice_rows t 59 34 n parts ho (l.map pageC) (.agg (pageC Page.zero)) hu (by kernel_rfl) zero59 (fun r hr => by
    simp only [List.mem_map] at hr
    obtain ⟨q, _, rfl⟩ := hr
    exact pageC_size q) (by simp; omega) (by simp; omega) (by simpa using hl) hp h
end Go.Proofs.Ytldkgmodmpnclaa
