/- Rows of zeros appended to rows of one's own. -/
import Derived.Test.YtldkgmodmpnclaaIxC
import Derived.Deep.AppendSrc
namespace Go.Proofs.Ytldkgmodmpnclaa
open Go.RowKit Go.Proofs
set_option linter.unusedVariables false
set_option linter.unusedSimpArgs false
theorem zeroCells84 (m : Nat) : Builtin.zeroCells #[.int .i64 0, .int .i64 0, .int .i64 0] m = zeros84 m := rfl
theorem zeros84_list (m : Nat) : (zeros84 m).toList.length = m * 3 := by simp [zeros84, size_madeCells]
theorem app_eq (a : List Value) (z X : Array Value) : a.toArray ++ (z ++ X) = (a ++ z.toList).toArray ++ X := by
  apply Array.ext'
  simp
theorem run_append_zeros (w : World) (ty : TypeId) (base n : Nat) (v : Value) (l : List Row3) (hown : w.ownsRow base 84 3 v n (rowsV l)) (hv : v ≠ .slice none 0 0) (m : Nat) (hm : m ≤ 1000) (hm1 : 1 ≤ m) (hn : n ≤ 1000) (hb : base ≤ w.heap.size) :
    ∃ v' w', (Builtin.append_ #[23, 3] ty #[v, .int .i64 (m : Int)]).run Try.prog w = .ok v' w' ∧ w'.ownsRow base 84 3 v' (n + m) (rowsV (l ++ List.replicate m Row3.zero)) ∧ w.grownBy w' v.ownBlock ∧ v' ≠ .slice none 0 0 := by
  obtain ⟨i, hi, hz, hsz, hby⟩ := info_parts info84p
  obtain ⟨h1, ⟨h2, _⟩ | ⟨g, cap, cur, rfl, hgb, hg, hle, hmx, hcs, ht⟩⟩ := id hown
  · exact absurd h2 hv
  have hu := Try.underlying23
  have hu3 := Try.underlying3
  have hw : IntKind.i64.wrap (m : Int) = (m : Int) := IntWalk.i64_in _ (by omega)
  have n0 : ¬ ((m : Int) < 0) := by omega
  have n1 : ¬ (281474976710656 < (m : Int) * 24) := by omega
  have n2 : ¬ m * 3 = 0 := by omega
  have n3 : ¬ m = 0 := by omega
  have hln : (rowsV (l ++ List.replicate m Row3.zero)).length = (n + m) * 3 := by
    rw [rowsV_append, List.length_append, h1, rowsV_length, List.length_replicate]
    omega
  by_cases hroom : n + m ≤ cap
  · have hst := run_storeCells_at Try.prog g (n * 3) 84 (zeros84 m).toList 0 cur w hg (by rw [zeros84_list, hcs]; omega) (fun u hu => by rw [zeros84_rows] at hu; exact rowsV_oneCell _ u hu)
    simp only [Nat.add_zero] at hst
    refine ⟨.slice (some ⟨g, 0, none⟩) (n + m) cap, w.setRow g (cur.toList.take (n * 3) ++ (zeros84 m).toList ++ cur.toList.drop (n * 3 + (zeros84 m).toList.length)).toArray, ?_, ?_, ?_, by simp⟩
    · simp [Builtin.append_, run_underlying hu, run_underlying hu3, sizeOf, typeInfo, zeroValue, asInt, asIntOf, hi, hz, hsz, hby, hw, n0, n1, n2, n3, hroom, Addr.add_lit, Value.cells, zeroCells84]
      rw [show (madeCells #[Value.int .i64 0, .int .i64 0, .int .i64 0] (m * 3)).toList = (zeros84 m).toList from rfl, hst]
      simp
    · refine ⟨hln, .inr ⟨g, cap, _, rfl, hgb, heap_setRow hg, hroom, hmx, ?_, ?_⟩⟩
      · have e1 : (cur.toList.take (n * 3)).length = n * 3 := by rw [ht, h1]
        have e2 : cur.toList.length = cap * 3 := by rw [Array.length_toList, hcs]
        rw [List.size_toArray, List.length_append, List.length_append, e1, zeros84_list, List.length_drop, e2]
        omega
      · simp only
        rw [ht, rowsV_append, ← zeros84_rows, List.take_append_of_le_length (by rw [List.length_append, h1, zeros84_list]; omega), List.take_of_length_le (by rw [List.length_append, h1, zeros84_list]; omega)]
    · exact ⟨rfl, rfl, rfl, by simp [World.setRow], fun k hk hne => setRow_other w g k _ (fun e => hne (by rw [e]; rfl))⟩
  · have h63 : ¬ (9223372036854775807 < ((n : Int) + (m : Int))) := by omega
    have hcap : cap < 2000 := by omega
    have hnx : ¬ (281474976710656 < Builtin.nextslicecap (n + m) cap * 24) := by
      unfold Builtin.nextslicecap
      split
      · omega
      · split
        · omega
        · have : ∀ (r c : Nat), c ≤ 100000 → Builtin.growBy (n + m) r c ≤ 1000000 * (r + 1) := by
            intro r
            induction r with
            | zero => intro c hc; simp only [Builtin.growBy]; omega
            | succ r ih =>
              intro c hc
              simp only [Builtin.growBy]
              split
              · omega
              · have := ih (c + (c + 768) / 4) (by omega)
                omega
          have := this 4 cap (by omega)
          omega
    have hold := run_firstCells_some (P := Try.prog) w.drew 3 n ⟨g, 0, none⟩ n cap (rowsV l) h1 (fun j u hu => by
      have := hown.cells (g := g) rfl j u hu
      simpa using this)
    refine ⟨.slice (some ⟨w.heap.size, 0, none⟩) (n + m) (grownCap w (n + m) cap 84), w.drew.alloc (.cells ((rowsV l ++ (zeros84 m).toList).toArray ++ Builtin.zeroCells #[.int .i64 0, .int .i64 0, .int .i64 0] (grownCap w (n + m) cap 84 - (n + m))) 84), ?_, ?_, ?_, by simp⟩
    · simp [Builtin.append_, run_underlying hu, run_underlying hu3, sizeOf, typeInfo, zeroValue, asInt, asIntOf, hi, hz, hsz, hby, hw, n0, n1, n2, n3, hroom, h63, hnx, Question.forced, hold, newRow, grownCap, Value.cells, zeroCells84]
      rw [app_eq]
    · have hge := grownCap_ge w (n + m) cap 84
      have hlm := grownCap_le_maxLen w (n + m) cap 84 (by simp only [maxLen]; omega)
      refine ⟨hln, .inr ⟨w.heap.size, _, _, rfl, hb, heap_alloc_new w.drew _, hge, hlm, ?_, ?_⟩⟩
      · simp only [Array.size_append, List.size_toArray, List.length_append, h1, zeros84_list, size_zeroCells]
        show n * 3 + m * 3 + (grownCap w (n + m) cap 84 - (n + m)) * 3 = _
        omega
      · rw [Array.toList_append, rowsV_append, ← zeros84_rows, List.take_append_of_le_length (by simp only [List.length_append, h1, zeros84_list]; omega), List.take_of_length_le (by simp only [List.length_append, h1, zeros84_list]; omega)]
    · exact ⟨rfl, rfl, rfl, by simp, fun k hk hne => (Below.heap_alloc w.drew _ _ hk).trans rfl⟩
theorem wp_append_zeros {o : Oper} {a : Act} {w : World} {K : Act → World → Prop} {Q : Exit → Act → World → Prop} (s x : Operand)
    (ho : o.op = .call { callee := .builtin .append, args := #[s, x], argTypes := #[23, 3] })
    (base : Nat) (v : Value) (n : Nat) (l : List Row3) (hs : a.eval s = v) (hown : w.ownsRow base 84 3 v n (rowsV l)) (hv : v ≠ .slice none 0 0)
    (m : Nat) (hx : a.eval x = .int .i64 (m : Int)) (hm : m ≤ 1000) (hm1 : 1 ≤ m) (hn : n ≤ 1000) (hb : base ≤ w.heap.size)
    (h : ∀ v' w', w'.ownsRow base 84 3 v' (n + m) (rowsV (l ++ List.replicate m Row3.zero)) → w.grownBy w' v.ownBlock → v' ≠ .slice none 0 0 → K (a.put o.dst v') w') : o.wp Try.prog a w K Q := by
  obtain ⟨v', w', hr, h1, h2, h3⟩ := run_append_zeros w o.type base n v l hown hv m hm hm1 hn hb
  unfold Oper.wp execOp
  simp only [ho, resolve, invoke, builtin, Sem.run_bind, Sem.run_pure, Result.andThen_ok, List.map_toArray, List.map_cons, List.map_nil, hs, hx, hr]
  exact h v' w' h1 h2 h3
end Go.Proofs.Ytldkgmodmpnclaa
