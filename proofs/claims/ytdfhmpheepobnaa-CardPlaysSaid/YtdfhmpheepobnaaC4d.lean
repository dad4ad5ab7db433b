/- The symbolic executor, at work: a card is made. No condition. -/
import Derived.Test.YtdfhmpheepobnaaC4c
namespace Go.Proofs.Ytdfhmpheepobnaa.Sx
open Go
set_option linter.unusedSimpArgs false
set_option linter.unusedVariables false
set_option maxRecDepth 10000
set_option maxHeartbeats 2000000

theorem newN_spec (n m : Int) (h : n < 1 ∨ 64 < n ∨ m < 1 ∨ 64 < m) : Spec cx.P 8 [.c (i64 n), .c (i64 m)] [] fun t _ => t.plain = true ∧ t = .c (.v (.pointer none)) := by
  refine spec_of_X cx_ok Try.func8 rfl (by kernel_rfl) (by kernel_rfl) (Nat.le_of_ble_eq_true rfl) 400 36 ?_
  simp (maxSteps := 4000000) only [Try.results8, XX, Nat.reduceBEq, Nat.reduceLT, Nat.reduceAdd, Nat.reduceMul, Nat.reduceSub, Nat.reduceLeDiff, Nat.reduceEqDiff, Int.reduceToNat, Int.reduceLT, Int.reduceLE, Int.reduceAdd, Int.reduceSub, Int.reduceEq, reduceIte, Nat.reduceBNe, Int.reducePow, Nat.reducePow, Int.reduceMul, Int.reduceNeg, isB_i, isB_b, isB_y, isBv_i, isBv_b, eqCells_t, TT]
  cases h1 : decide (n < 1)
  · cases h2 : decide (64 < n)
    · cases h3 : decide (m < 1)
      · have h4 : decide (64 < m) = true := by
          simp only [decide_eq_false_iff_not] at h1 h2 h3
          simp only [decide_eq_true_eq]; omega
        simp (maxSteps := 4000000) only [Try.results8, h1, h2, h3, h4, XX, Nat.reduceBEq, Nat.reduceLT, Nat.reduceAdd, Nat.reduceMul, Nat.reduceSub, Nat.reduceLeDiff, Nat.reduceEqDiff, Int.reduceToNat, Int.reduceLT, Int.reduceLE, Int.reduceAdd, Int.reduceSub, Int.reduceEq, reduceIte, Nat.reduceBNe, Int.reducePow, Nat.reducePow, Int.reduceMul, Int.reduceNeg, isB_i, isB_b, isB_y, isBv_i, isBv_b, eqCells_t, TT]
      · simp (maxSteps := 4000000) only [Try.results8, h1, h2, h3, XX, Nat.reduceBEq, Nat.reduceLT, Nat.reduceAdd, Nat.reduceMul, Nat.reduceSub, Nat.reduceLeDiff, Nat.reduceEqDiff, Int.reduceToNat, Int.reduceLT, Int.reduceLE, Int.reduceAdd, Int.reduceSub, Int.reduceEq, reduceIte, Nat.reduceBNe, Int.reducePow, Nat.reducePow, Int.reduceMul, Int.reduceNeg, isB_i, isB_b, isB_y, isBv_i, isBv_b, eqCells_t, TT]
    · simp (maxSteps := 4000000) only [Try.results8, h1, h2, XX, Nat.reduceBEq, Nat.reduceLT, Nat.reduceAdd, Nat.reduceMul, Nat.reduceSub, Nat.reduceLeDiff, Nat.reduceEqDiff, Int.reduceToNat, Int.reduceLT, Int.reduceLE, Int.reduceAdd, Int.reduceSub, Int.reduceEq, reduceIte, Nat.reduceBNe, Int.reducePow, Nat.reducePow, Int.reduceMul, Int.reduceNeg, isB_i, isB_b, isB_y, isBv_i, isBv_b, eqCells_t, TT]
  · simp (maxSteps := 4000000) only [Try.results8, h1, XX, Nat.reduceBEq, Nat.reduceLT, Nat.reduceAdd, Nat.reduceMul, Nat.reduceSub, Nat.reduceLeDiff, Nat.reduceEqDiff, Int.reduceToNat, Int.reduceLT, Int.reduceLE, Int.reduceAdd, Int.reduceSub, Int.reduceEq, reduceIte, Nat.reduceBNe, Int.reducePow, Nat.reducePow, Int.reduceMul, Int.reduceNeg, isB_i, isB_b, isB_y, isBv_i, isBv_b, eqCells_t, TT]

abbrev slT (b : Bool) : Sl := ⟨b, [], List.replicate 1514 0⟩
abbrev newK (n m : Nat) : CK := ⟨List.replicate n (slT true), List.replicate m (slT false), 0, 0, 0, 0, 0⟩
theorem newK_ok {n m : Nat} (h1 : 1 ≤ n) (h2 : n ≤ 64) (h3 : 1 ≤ m) (h4 : m ≤ 64) : (newK n m).ok :=
  ⟨by simp; omega, by simpa using h2, by simp; omega, by simpa using h4, by simp; omega, by simp; omega, fun s hs => by rw [List.eq_of_mem_replicate hs]; rfl, fun s hs => by rw [List.eq_of_mem_replicate hs]; rfl⟩

theorem fillS_ok (n i : Nat) : ∀ s ∈ List.replicate i (slT true) ++ List.replicate (n - i) (slT false), s.ok := by
  intro s hs
  rcases List.mem_append.1 hs with h | h <;> (rw [List.eq_of_mem_replicate h]; rfl)
theorem fillE {n i : Nat} (h : i < n) : (slC (List.replicate i (slT true) ++ List.replicate (n - i) (slT false))).take (i * 1516) ++ [SC.v (.bool true)] ++ (slC (List.replicate i (slT true) ++ List.replicate (n - i) (slT false))).drop (i * 1516 + 1) = slC (List.replicate (i + 1) (slT true) ++ List.replicate (n - (i + 1)) (slT false)) := by
  have l0 : (slC (List.replicate i (slT true))).length = i * 1516 := by rw [slC_len fun s hs => by rw [List.eq_of_mem_replicate hs]; rfl, List.length_replicate]
  rw [show n - i = (n - (i + 1)) + 1 by omega, List.replicate_succ, slC_app, slC_cons, List.replicate_succ' (n := i), slC_app, slC_app]
  have := seg (A := slC (List.replicate i (slT true))) (x := [SC.v (.bool false)]) (y := [SC.v (.bool true)]) (C := (slT false).cells.tail ++ slC (List.replicate (n - (i + 1)) (slT false))) l0 rfl
  refine this.trans ?_
  rw [List.append_assoc]
  congr 1
  first | done | simp only [slC, List.map_cons, List.map_nil, List.flatten_cons, List.flatten_nil, List.append_nil, Sl.cells, slotC, List.tail_cons, List.cons_append, List.nil_append]

theorem new_spec (n m : Nat) (h1 : 1 ≤ n) (h2 : n ≤ 64) (h3 : 1 ≤ m) (h4 : m ≤ 64) : Spec cx.P 8 [.c (i64 n), .c (i64 m)] [] fun t h' => t = .c (.ptr 0 0) ∧ h' = (newK n m).h := by
  refine Spec.wk (K := fun t h' => t = .c (.ptr 2 0) ∧ h' = [stB (slC (List.replicate n (slT true))), stB (slC (List.replicate m (slT false))), cardB 0 1 n m 0 0 0 0 0]) ?_ fun t h' ⟨h1, h2⟩ => ⟨.c (.ptr 0 0), (newK n m).h, [some 2, some 0, some 1], rfl, by subst h2; simp only [XX, Nat.reduceBEq, Nat.reduceLT, Nat.reduceAdd, Nat.reduceMul, Nat.reduceSub, Nat.reduceLeDiff, Nat.reduceEqDiff, Int.reduceToNat, Int.reduceLT, Int.reduceLE, Int.reduceAdd, Int.reduceSub, Int.reduceEq, reduceIte, Nat.reduceBNe, Int.reducePow, Nat.reducePow, Int.reduceMul, Int.reduceNeg, isB_i, isB_b, isB_y, isBv_i, isBv_b, eqCells_t, TT, ids_bsC, ren_bsC, noRo_bsC, plain_bsC, lt_bsC, ids_byte, ren_byte, noRo_byte, plain_byte, lt_byte, slC_ren, List.length_replicate]; exact ⟨.inl (slC_ids _ _), .inl (slC_ids _ _)⟩, by subst h1; simp only [XX, Nat.reduceBEq, Nat.reduceLT, Nat.reduceAdd, Nat.reduceMul, Nat.reduceSub, Nat.reduceLeDiff, Nat.reduceEqDiff, Int.reduceToNat, Int.reduceLT, Int.reduceLE, Int.reduceAdd, Int.reduceSub, Int.reduceEq, reduceIte, Nat.reduceBNe, Int.reducePow, Nat.reducePow, Int.reduceMul, Int.reduceNeg, isB_i, isB_b, isB_y, isBv_i, isBv_b, eqCells_t, TT, ids_bsC, ren_bsC, noRo_bsC, plain_bsC, lt_bsC, ids_byte, ren_byte, noRo_byte, plain_byte, lt_byte], rfl, rfl⟩
  have d1 : decide ((n : Int) < 1) = false := by simp only [decide_eq_false_iff_not]; omega
  have d2 : decide (64 < (n : Int)) = false := by simp only [decide_eq_false_iff_not]; omega
  have d3 : decide ((m : Int) < 1) = false := by simp only [decide_eq_false_iff_not]; omega
  have d4 : decide (64 < (m : Int)) = false := by simp only [decide_eq_false_iff_not]; omega
  refine spec_of_X cx_ok Try.func8 rfl (by kernel_rfl) (by kernel_rfl) (Nat.le_of_ble_eq_true rfl) 400 36 ?_
  simp (maxSteps := 4000000) only [Try.results8, XX, Nat.reduceBEq, Nat.reduceLT, Nat.reduceAdd, Nat.reduceMul, Nat.reduceSub, Nat.reduceLeDiff, Nat.reduceEqDiff, Int.reduceToNat, Int.reduceLT, Int.reduceLE, Int.reduceAdd, Int.reduceSub, Int.reduceEq, reduceIte, Nat.reduceBNe, Int.reducePow, Nat.reducePow, Int.reduceMul, Int.reduceNeg, isB_i, isB_b, isB_y, isBv_i, isBv_b, eqCells_t, TT]
  simp (maxSteps := 4000000) only [Try.results8, d1, d2, d3, d4, XX, Nat.reduceBEq, Nat.reduceLT, Nat.reduceAdd, Nat.reduceMul, Nat.reduceSub, Nat.reduceLeDiff, Nat.reduceEqDiff, Int.reduceToNat, Int.reduceLT, Int.reduceLE, Int.reduceAdd, Int.reduceSub, Int.reduceEq, reduceIte, Nat.reduceBNe, Int.reducePow, Nat.reducePow, Int.reduceMul, Int.reduceNeg, isB_i, isB_b, isB_y, isBv_i, isBv_b, eqCells_t, TT]
  have bz : ∀ k : Nat, (List.replicate k (SC.v (.bool false) :: List.map SC.v (List.replicate 1514 (Value.int .u8 0) ++ [Value.int .i64 0]))).flatten = slC (List.replicate k (slT false)) := by
    intro k
    unfold slC
    rw [List.map_replicate]
    congr 2
  refine draw2_of cx_ok (by kernel_rfl) 400 [] (.pair [(0, true), (3, true)] 1 4 (.done [(2, true), (4, false), (5, true), (6, true), (7, false), (8, true)]) (.done [(5, true), (1, false), (2, true), (6, true), (7, false), (8, true)])) (by kernel_rfl) rfl ?_
  simp (maxSteps := 4000000) only [Try.results8, PXT_done, PXT_pair, XX, Nat.reduceBEq, Nat.reduceLT, Nat.reduceAdd, Nat.reduceMul, Nat.reduceSub, Nat.reduceLeDiff, Nat.reduceEqDiff, Int.reduceToNat, Int.reduceLT, Int.reduceLE, Int.reduceAdd, Int.reduceSub, Int.reduceEq, reduceIte, Nat.reduceBNe, Int.reducePow, Nat.reducePow, Int.reduceMul, Int.reduceNeg, isB_i, isB_b, isB_y, isBv_i, isBv_b, eqCells_t, TT]
  refine ⟨⟨⟨by omega, by omega, by omega, by omega⟩, ⟨by omega, by omega, by omega, by omega⟩, ?_⟩, ⟨by omega, by omega, by omega, by omega⟩, ⟨by omega, by omega, by omega, by omega⟩, ?_⟩
  · refine loop_of cx_ok 400 (fun μ σ => ∃ i, μ = n - i ∧ i ≤ n ∧
        σ = ⟨⟨36, 0⟩, [(4, .c (.v (.pointer none))), (5, .c (.ptr 2 0)), (34, .c (i64 (n : Nat))), (35, .c (i64 (i : Nat)))], [stB (slC (List.replicate i (slT true) ++ List.replicate (n - i) (slT false))), stB (slC (List.replicate m (slT false))), cardB 0 1 n m 0 0 0 0 0]⟩) n ⟨⟨36, 0⟩, [(4, .c (.v (.pointer none))), (5, .c (.ptr 2 0)), (34, .c (i64 (n : Nat))), (35, .c (i64 (0 : Nat)))], [stB (slC (List.replicate 0 (slT true) ++ List.replicate (n - 0) (slT false))), stB (slC (List.replicate m (slT false))), cardB 0 1 n m 0 0 0 0 0]⟩ ⟨0, by omega, Nat.zero_le _, rfl⟩ [some 0, some 1, some 2]
      ⟨rfl, rfl, by simp only [XX, Nat.reduceBEq, Nat.reduceLT, Nat.reduceAdd, Nat.reduceMul, Nat.reduceSub, Nat.reduceLeDiff, Nat.reduceEqDiff, Int.reduceToNat, Int.reduceLT, Int.reduceLE, Int.reduceAdd, Int.reduceSub, Int.reduceEq, reduceIte, Nat.reduceBNe, Int.reducePow, Nat.reducePow, Int.reduceMul, Int.reduceNeg, isB_i, isB_b, isB_y, isBv_i, isBv_b, eqCells_t, TT, bz, slC_ids, slC_ren, List.replicate_zero, List.nil_append, Nat.sub_zero], by simp only [XX, Nat.reduceBEq, Nat.reduceLT, Nat.reduceAdd, Nat.reduceMul, Nat.reduceSub, Nat.reduceLeDiff, Nat.reduceEqDiff, Int.reduceToNat, Int.reduceLT, Int.reduceLE, Int.reduceAdd, Int.reduceSub, Int.reduceEq, reduceIte, Nat.reduceBNe, Int.reducePow, Nat.reducePow, Int.reduceMul, Int.reduceNeg, isB_i, isB_b, isB_y, isBv_i, isBv_b, eqCells_t, TT]⟩ ?_
    rintro μ σ ⟨i, rfl, hi, rfl⟩
    simp (maxSteps := 4000000) only [Try.results8, XX, Nat.reduceBEq, Nat.reduceLT, Nat.reduceAdd, Nat.reduceMul, Nat.reduceSub, Nat.reduceLeDiff, Nat.reduceEqDiff, Int.reduceToNat, Int.reduceLT, Int.reduceLE, Int.reduceAdd, Int.reduceSub, Int.reduceEq, reduceIte, Nat.reduceBNe, Int.reducePow, Nat.reducePow, Int.reduceMul, Int.reduceNeg, isB_i, isB_b, isB_y, isBv_i, isBv_b, eqCells_t, TT]
    by_cases hlt : i < n
    · have hd : decide ((i : Int) < (n : Int)) = true := by simp only [decide_eq_true_eq]; omega
      have e1 : IntKind.i64.wrap ((i : Int) + 1) = ((i + 1 : Nat) : Int) := by rw [w64] <;> omega
      simp (maxSteps := 4000000) only [Try.results8, hd, e1, XX, Nat.reduceBEq, Nat.reduceLT, Nat.reduceAdd, Nat.reduceMul, Nat.reduceSub, Nat.reduceLeDiff, Nat.reduceEqDiff, Int.reduceToNat, Int.reduceLT, Int.reduceLE, Int.reduceAdd, Int.reduceSub, Int.reduceEq, reduceIte, Nat.reduceBNe, Int.reducePow, Nat.reducePow, Int.reduceMul, Int.reduceNeg, isB_i, isB_b, isB_y, isBv_i, isBv_b, eqCells_t, TT]
      refine ⟨⟨by omega, by omega⟩, by rw [slC_len (fillS_ok n i)]; simp only [List.length_append, List.length_replicate]; omega, n - (i + 1), by omega, _, ⟨i + 1, rfl, by omega, rfl⟩, [some 0, some 1, some 2], ⟨rfl, rfl, ?_, ?_⟩⟩
      · rw [fillE hlt]
        simp only [XX, Nat.reduceBEq, Nat.reduceLT, Nat.reduceAdd, Nat.reduceMul, Nat.reduceSub, Nat.reduceLeDiff, Nat.reduceEqDiff, Int.reduceToNat, Int.reduceLT, Int.reduceLE, Int.reduceAdd, Int.reduceSub, Int.reduceEq, reduceIte, Nat.reduceBNe, Int.reducePow, Nat.reducePow, Int.reduceMul, Int.reduceNeg, isB_i, isB_b, isB_y, isBv_i, isBv_b, eqCells_t, TT, slC_ids, slC_ren]
      · simp only [XX, Nat.reduceBEq, Nat.reduceLT, Nat.reduceAdd, Nat.reduceMul, Nat.reduceSub, Nat.reduceLeDiff, Nat.reduceEqDiff, Int.reduceToNat, Int.reduceLT, Int.reduceLE, Int.reduceAdd, Int.reduceSub, Int.reduceEq, reduceIte, Nat.reduceBNe, Int.reducePow, Nat.reducePow, Int.reduceMul, Int.reduceNeg, isB_i, isB_b, isB_y, isBv_i, isBv_b, eqCells_t, TT]
    · have hd : decide ((i : Int) < (n : Int)) = false := by simp only [decide_eq_false_iff_not]; omega
      obtain rfl : i = n := by omega
      simp (maxSteps := 4000000) only [Try.results8, hd, XX, Nat.reduceBEq, Nat.reduceLT, Nat.reduceAdd, Nat.reduceMul, Nat.reduceSub, Nat.reduceLeDiff, Nat.reduceEqDiff, Int.reduceToNat, Int.reduceLT, Int.reduceLE, Int.reduceAdd, Int.reduceSub, Int.reduceEq, reduceIte, Nat.reduceBNe, Int.reducePow, Nat.reducePow, Int.reduceMul, Int.reduceNeg, isB_i, isB_b, isB_y, isBv_i, isBv_b, eqCells_t, TT]
      simp only [Nat.sub_self, List.replicate_zero, List.append_nil]
  · refine loop_of cx_ok 400 (fun μ σ => ∃ i, μ = n - i ∧ i ≤ n ∧
        σ = ⟨⟨36, 0⟩, [(4, .c (.v (.pointer none))), (5, .c (.ptr 2 0)), (34, .c (i64 (n : Nat))), (35, .c (i64 (i : Nat)))], [stB (slC (List.replicate i (slT true) ++ List.replicate (n - i) (slT false))), stB (slC (List.replicate m (slT false))), cardB 0 1 n m 0 0 0 0 0]⟩) n ⟨⟨36, 0⟩, [(4, .c (.v (.pointer none))), (5, .c (.ptr 2 0)), (34, .c (i64 (n : Nat))), (35, .c (i64 (0 : Nat)))], [stB (slC (List.replicate 0 (slT true) ++ List.replicate (n - 0) (slT false))), stB (slC (List.replicate m (slT false))), cardB 0 1 n m 0 0 0 0 0]⟩ ⟨0, by omega, Nat.zero_le _, rfl⟩ [some 1, some 0, some 2]
      ⟨rfl, rfl, by simp only [XX, Nat.reduceBEq, Nat.reduceLT, Nat.reduceAdd, Nat.reduceMul, Nat.reduceSub, Nat.reduceLeDiff, Nat.reduceEqDiff, Int.reduceToNat, Int.reduceLT, Int.reduceLE, Int.reduceAdd, Int.reduceSub, Int.reduceEq, reduceIte, Nat.reduceBNe, Int.reducePow, Nat.reducePow, Int.reduceMul, Int.reduceNeg, isB_i, isB_b, isB_y, isBv_i, isBv_b, eqCells_t, TT, bz, slC_ids, slC_ren, List.replicate_zero, List.nil_append, Nat.sub_zero], by simp only [XX, Nat.reduceBEq, Nat.reduceLT, Nat.reduceAdd, Nat.reduceMul, Nat.reduceSub, Nat.reduceLeDiff, Nat.reduceEqDiff, Int.reduceToNat, Int.reduceLT, Int.reduceLE, Int.reduceAdd, Int.reduceSub, Int.reduceEq, reduceIte, Nat.reduceBNe, Int.reducePow, Nat.reducePow, Int.reduceMul, Int.reduceNeg, isB_i, isB_b, isB_y, isBv_i, isBv_b, eqCells_t, TT]⟩ ?_
    rintro μ σ ⟨i, rfl, hi, rfl⟩
    simp (maxSteps := 4000000) only [Try.results8, XX, Nat.reduceBEq, Nat.reduceLT, Nat.reduceAdd, Nat.reduceMul, Nat.reduceSub, Nat.reduceLeDiff, Nat.reduceEqDiff, Int.reduceToNat, Int.reduceLT, Int.reduceLE, Int.reduceAdd, Int.reduceSub, Int.reduceEq, reduceIte, Nat.reduceBNe, Int.reducePow, Nat.reducePow, Int.reduceMul, Int.reduceNeg, isB_i, isB_b, isB_y, isBv_i, isBv_b, eqCells_t, TT]
    by_cases hlt : i < n
    · have hd : decide ((i : Int) < (n : Int)) = true := by simp only [decide_eq_true_eq]; omega
      have e1 : IntKind.i64.wrap ((i : Int) + 1) = ((i + 1 : Nat) : Int) := by rw [w64] <;> omega
      simp (maxSteps := 4000000) only [Try.results8, hd, e1, XX, Nat.reduceBEq, Nat.reduceLT, Nat.reduceAdd, Nat.reduceMul, Nat.reduceSub, Nat.reduceLeDiff, Nat.reduceEqDiff, Int.reduceToNat, Int.reduceLT, Int.reduceLE, Int.reduceAdd, Int.reduceSub, Int.reduceEq, reduceIte, Nat.reduceBNe, Int.reducePow, Nat.reducePow, Int.reduceMul, Int.reduceNeg, isB_i, isB_b, isB_y, isBv_i, isBv_b, eqCells_t, TT]
      refine ⟨⟨by omega, by omega⟩, by rw [slC_len (fillS_ok n i)]; simp only [List.length_append, List.length_replicate]; omega, n - (i + 1), by omega, _, ⟨i + 1, rfl, by omega, rfl⟩, [some 0, some 1, some 2], ⟨rfl, rfl, ?_, ?_⟩⟩
      · rw [fillE hlt]
        simp only [XX, Nat.reduceBEq, Nat.reduceLT, Nat.reduceAdd, Nat.reduceMul, Nat.reduceSub, Nat.reduceLeDiff, Nat.reduceEqDiff, Int.reduceToNat, Int.reduceLT, Int.reduceLE, Int.reduceAdd, Int.reduceSub, Int.reduceEq, reduceIte, Nat.reduceBNe, Int.reducePow, Nat.reducePow, Int.reduceMul, Int.reduceNeg, isB_i, isB_b, isB_y, isBv_i, isBv_b, eqCells_t, TT, slC_ids, slC_ren]
      · simp only [XX, Nat.reduceBEq, Nat.reduceLT, Nat.reduceAdd, Nat.reduceMul, Nat.reduceSub, Nat.reduceLeDiff, Nat.reduceEqDiff, Int.reduceToNat, Int.reduceLT, Int.reduceLE, Int.reduceAdd, Int.reduceSub, Int.reduceEq, reduceIte, Nat.reduceBNe, Int.reducePow, Nat.reducePow, Int.reduceMul, Int.reduceNeg, isB_i, isB_b, isB_y, isBv_i, isBv_b, eqCells_t, TT]
    · have hd : decide ((i : Int) < (n : Int)) = false := by simp only [decide_eq_false_iff_not]; omega
      obtain rfl : i = n := by omega
      simp (maxSteps := 4000000) only [Try.results8, hd, XX, Nat.reduceBEq, Nat.reduceLT, Nat.reduceAdd, Nat.reduceMul, Nat.reduceSub, Nat.reduceLeDiff, Nat.reduceEqDiff, Int.reduceToNat, Int.reduceLT, Int.reduceLE, Int.reduceAdd, Int.reduceSub, Int.reduceEq, reduceIte, Nat.reduceBNe, Int.reducePow, Nat.reducePow, Int.reduceMul, Int.reduceNeg, isB_i, isB_b, isB_y, isBv_i, isBv_b, eqCells_t, TT]
      simp only [Nat.sub_self, List.replicate_zero, List.append_nil]

end Go.Proofs.Ytdfhmpheepobnaa.Sx
