import Derived.Test.YtldkgmodmpnclaaPageB
import Derived.Laws.MakeOwn
namespace Go.Proofs.Ytldkgmodmpnclaa
open Go.RowKit Go.Proofs
set_option linter.unusedVariables false
set_option linter.unusedSimpArgs false
theorem zero59 (w : World) : (zeroValue 59).run Try.prog w = .ok (.agg (pageC Page.zero)) w := Try.zeroValue59 w
theorem built59_new (n : Int) : Try.prog.built 59 [(0, .int .i64 n)] = some (pageC (Page.new n)) := by kernel_rfl
set_option maxRecDepth 100000 in
theorem new_calls (n : Int) (w : World) : Calls Try.prog 44 #[.int .i64 n] w fun e w' => e = .returned (.agg (pageC (Page.new n))) ∧ Below w.heap.size w w' := by
  go_enter Try.func44, Try.ntmps44
  go_wp2_with (first
    | (refine wpList_alloc_row rfl 59 rfl (pageC Page.zero) zero59 ?_)
    | (refine wpList_build_row rfl 59 _ rfl (pageC (Page.new n)) (built59_new n) ?_)
    | (refine wpList_store_row rfl 59 (.tmp 2) (.tmp 4) rfl w.heap.size (pageC (Page.new n)) rfl rfl _ _ (PgAt.new w Page.zero).out (page_size _) (by rw [pageC_size, pageC_size]) (pageC_oneCell _) ?_))
  exact bodyPost_ret (results_cell_row rfl _ _ w.heap.size _ _ _ _ rfl (heap_setRow (PgAt.new w Page.zero).out) Try.underlying59 rfl (page_size _)) rfl ⟨rfl, below_setRow ((Below.refl _ _).alloc (Nat.le_refl _) _) (Nat.le_refl _) _⟩
set_option maxRecDepth 100000 in
theorem new02_calls (n : Int) (w : World) : Calls Try.prog 45 #[.int .i64 n] w fun e w' => e = .returned (.agg (pageC (Page.new n))) ∧ Below w.heap.size w w' := by
  go_enter Try.func45, Try.ntmps45
  go_wp2_with (first
    | (refine wpList_alloc_row rfl 59 rfl (pageC Page.zero) zero59 ?_)
    | (refine wpList_build_row rfl 59 _ rfl (pageC (Page.new n)) (built59_new n) ?_)
    | (refine wpList_store_row rfl 59 (.tmp 2) (.tmp 4) rfl w.heap.size (pageC (Page.new n)) rfl rfl _ _ (PgAt.new w Page.zero).out (page_size _) (by rw [pageC_size, pageC_size]) (pageC_oneCell _) ?_))
  exact bodyPost_ret (results_cell_row rfl _ _ w.heap.size _ _ _ _ rfl (heap_setRow (PgAt.new w Page.zero).out) Try.underlying59 rfl (page_size _)) rfl ⟨rfl, below_setRow ((Below.refl _ _).alloc (Nat.le_refl _) _) (Nat.le_refl _) _⟩
theorem info5 : (Try.prog.info? 5).map (fun i => (i.zero, i.size, i.bytes)) = some (some (.int .u8 0), 1, 1) := by kernel_rfl
theorem make5 (n : Nat) (hn : n ≤ 1000000000) (w : World) : (Instr.makeSlice 22 (.int .i64 (n : Int)) (.int .i64 (n : Int))).run Try.prog w = .ok (.slice (some ⟨w.heap.size, 0, none⟩) n n) (w.alloc (.cells (madeCells #[.int .u8 0] n) 5)) := by
  obtain ⟨i, hi, hz, h1, h2⟩ := info_parts info5
  have := run_make (P := Try.prog) w 22 5 i (.int .u8 0) Try.underlying22 hi hz .i64 .i64 n n (by omega) (by omega) (by rw [h2]; omega) (by omega)
  rw [h1, Nat.mul_one, Int.toNat_natCast] at this
  exact this
theorem strOf_zeros (n : Nat) : strOfNums (List.replicate n 0) = zeros n := by
  unfold strOfNums zeros
  rw [List.map_replicate, List.toArray_replicate]
  rfl
theorem conv_zeros (n : Nat) (w : World) : (convert 22 9 (.slice (some ⟨w.heap.size, 0, none⟩) n n)).run Try.prog (w.alloc (.cells (madeCells #[.int .u8 0] n) 5)) = .ok (.string (zeros n)) (w.alloc (.cells (madeCells #[.int .u8 0] n) 5)) := by
  have h := run_convert_bytes_arg (P := Try.prog) (w.alloc (.cells (madeCells #[.int .u8 0] n) 5)) 22 5 Try.underlying22 Try.underlying5 w.heap.size 0 n n (List.replicate n 0) (by simp)
    (fun i hi => by
      have hm := toList_madeCells_one (.int .u8 0) n
      rw [heap_cell (heap_alloc_new w _), Nat.zero_add, ← Array.getElem?_toList, hm]
      simp [hi, List.getD_eq_getElem?_getD, List.getElem?_replicate]) 9 Try.underlying9
  rwa [strOf_zeros] at h
set_option maxRecDepth 100000 in
theorem zeros_calls (n : Nat) (w : World) (hn : n ≤ 1000000) : Calls Try.prog 81 #[.int .i64 n] w fun e w' => e = .returned (.string (zeros n)) ∧ Below w.heap.size w w' := by
  have hc := conv_zeros n
  have hm := make5 n (by omega)
  go_enter Try.func81, Try.ntmps81
  go_wp2
  go_ret
  exact ⟨rfl, (Below.refl _ _).alloc (Nat.le_refl _) _⟩
theorem blank02_calls (w : World) : Calls Try.prog 40 #[] w fun e w' => e = .returned (.string (zeros 256)) ∧ Below w.heap.size w w' := by
  go_enter Try.func40, Try.ntmps40
  go_wp2_with fail
  refine (zeros_calls 256 _ (by omega)).mono ?_
  rintro e w2 ⟨rfl, hb⟩
  go_wp2
  go_ret
  exact ⟨rfl, hb⟩
theorem repeat_zero (n : Nat) : (⟨(Lib.repeatL [0] n).toArray⟩ : ByteArray) = zeros n := by
  unfold zeros
  congr 1
  induction n with
  | zero => rfl
  | succ n ih =>
    apply Array.ext'
    have := congrArg Array.toList ih
    simp at this
    simp [Lib.repeatL, this, List.replicate_succ]
/-- strings.Repeat of one byte 0. -/
theorem repeat_calls (n : Nat) (w : World) (hn : n ≤ 1000000) : Calls Try.prog 76 #[.string ⟨#[0]⟩, .int .i64 n] w fun e w' => e = .returned (.string (zeros n)) ∧ Below w.heap.size w w' := by
  have h := Try.strings_Repeat ⟨#[0]⟩ n w (by omega) (by show 1 * n ≤ _; omega)
  refine h.mono ?_
  rintro e w' ⟨rfl, hb⟩
  refine ⟨ret_str ?_, hb⟩
  exact repeat_zero n
theorem blank_calls (w : World) : Calls Try.prog 46 #[] w fun e w' => e = .returned (.string (zeros 256)) ∧ Below w.heap.size w w' := by
  go_enter Try.func46, Try.ntmps46
  go_wp2_with fail
  refine (repeat_calls 256 _ (by omega)).mono ?_
  rintro e w2 ⟨rfl, hb⟩
  go_wp2
  go_ret
  exact ⟨rfl, hb⟩
end Go.Proofs.Ytldkgmodmpnclaa
