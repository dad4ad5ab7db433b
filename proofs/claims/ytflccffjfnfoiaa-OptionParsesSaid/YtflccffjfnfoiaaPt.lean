/- The symbolic executor, at work: numbers as bytes. No condition. -/
import Derived.Test.YtflccffjfnfoiaaBy
namespace Go.Proofs.Ytflccffjfnfoiaa.Sx
open Go
set_option linter.unusedSimpArgs false
set_option linter.unusedVariables false
set_option maxRecDepth 10000
set_option maxHeartbeats 1000000

/-- Two bytes of a number. -/
abbrev be2 (n : Nat) : List UInt8 := [UInt8.ofNat (n / 256), UInt8.ofNat n]

theorem put2_spec (n : Nat) (hn : n < 18446744073709551616) : Spec cx.P 48 [.c (u64 n), .c (i64 2)] [] fun s h' => s = .c (.sl 0 0 2 2) ∧ h' = [wB true (be2 n)] := by
  have key : Spec cx.P 48 [.c (u64 n), .c (i64 2)] [] fun s h' => s = .c (.sl 0 0 2 2) ∧ ∃ a b, h' = [wB true (be2 n), a, b] := by
    refine spec_of_X cx_ok Try.func48 rfl (by kernel_rfl) (by kernel_rfl) (Nat.le_of_ble_eq_true rfl) 400 7 ?_
    simp (maxSteps := 4000000) only [Try.results48, XX, Nat.reduceBEq, Nat.reduceLT, Nat.reduceAdd, Nat.reduceMul, Nat.reduceSub, Nat.reduceLeDiff, Nat.reduceEqDiff, Int.reduceToNat, Int.reduceLT, Int.reduceLE, Int.reduceAdd, Int.reduceSub, Int.reduceEq, reduceIte, Nat.reduceBNe, Int.reducePow, Nat.reducePow, Int.reduceMul, Int.reduceNeg, isB_i, isB_b, isB_y, isBv_i, isBv_b, eqCells_t, TT]
    refine loop_rounds cx_ok 400 3 ?_
    simp (maxSteps := 4000000) only [Try.results48, w64, List.replicate_succ, List.replicate_zero, List.flatten_cons, List.flatten_nil, Int.reduceDiv, Int.reduceMod, Int.reduceToNat, XX, Nat.reduceBEq, Nat.reduceLT, Nat.reduceAdd, Nat.reduceMul, Nat.reduceSub, Nat.reduceLeDiff, Nat.reduceEqDiff, Int.reduceToNat, Int.reduceLT, Int.reduceLE, Int.reduceAdd, Int.reduceSub, Int.reduceEq, reduceIte, Nat.reduceBNe, Int.reducePow, Nat.reducePow, Int.reduceMul, Int.reduceNeg, isB_i, isB_b, isB_y, isBv_i, isBv_b, eqCells_t, TT]
    refine ⟨by unfold maxLen; omega, xapp_room (by omega) ?_⟩
    simp (maxSteps := 4000000) only [Try.results48, w64, shr0, shr8, byteC_n, List.replicate_succ, List.replicate_zero, List.flatten_cons, List.flatten_nil, Int.reduceDiv, Int.reduceMod, Int.reduceToNat, XX, Nat.reduceBEq, Nat.reduceLT, Nat.reduceAdd, Nat.reduceMul, Nat.reduceSub, Nat.reduceLeDiff, Nat.reduceEqDiff, Int.reduceToNat, Int.reduceLT, Int.reduceLE, Int.reduceAdd, Int.reduceSub, Int.reduceEq, reduceIte, Nat.reduceBNe, Int.reducePow, Nat.reducePow, Int.reduceMul, Int.reduceNeg, isB_i, isB_b, isB_y, isBv_i, isBv_b, eqCells_t, TT]
    refine ⟨by unfold maxLen; omega, xapp_room (by omega) ?_⟩
    simp (maxSteps := 4000000) only [Try.results48, w64, List.replicate_succ, XX, Nat.reduceBEq, Nat.reduceLT, Nat.reduceAdd, Nat.reduceMul, Nat.reduceSub, Nat.reduceLeDiff, Nat.reduceEqDiff, Int.reduceToNat, Int.reduceLT, Int.reduceLE, Int.reduceAdd, Int.reduceSub, Int.reduceEq, reduceIte, Nat.reduceBNe, Int.reducePow, Nat.reducePow, Int.reduceMul, Int.reduceNeg, isB_i, isB_b, isB_y, isBv_i, isBv_b, eqCells_t, TT]
    exact ⟨_, _, rfl⟩
  exact key.wk fun t h' ⟨h1, a, b, h2⟩ => ⟨t, [wB true (be2 n)], [some 0], rfl, by subst h2; simp only [XX, Nat.reduceBEq, Nat.reduceLT, Nat.reduceAdd, Nat.reduceMul, Nat.reduceSub, Nat.reduceLeDiff, Nat.reduceEqDiff, Int.reduceToNat, Int.reduceLT, Int.reduceLE, Int.reduceAdd, Int.reduceSub, Int.reduceEq, reduceIte, Nat.reduceBNe, Int.reducePow, Nat.reducePow, Int.reduceMul, Int.reduceNeg, isB_i, isB_b, isB_y, isBv_i, isBv_b, eqCells_t, TT, ids_bsC, ren_bsC, noRo_bsC, plain_bsC, lt_bsC, ids_byte, ren_byte, noRo_byte, plain_byte, lt_byte], by subst h1; simp only [XX, Nat.reduceBEq, Nat.reduceLT, Nat.reduceAdd, Nat.reduceMul, Nat.reduceSub, Nat.reduceLeDiff, Nat.reduceEqDiff, Int.reduceToNat, Int.reduceLT, Int.reduceLE, Int.reduceAdd, Int.reduceSub, Int.reduceEq, reduceIte, Nat.reduceBNe, Int.reducePow, Nat.reducePow, Int.reduceMul, Int.reduceNeg, isB_i, isB_b, isB_y, isBv_i, isBv_b, eqCells_t, TT, ids_bsC, ren_bsC, noRo_bsC, plain_bsC, lt_bsC, ids_byte, ren_byte, noRo_byte, plain_byte, lt_byte], h1, rfl⟩

theorem rput2_spec (n : Nat) (hn : n < 18446744073709551616) : Spec cx.P 49 [.c (u64 n), .c (i64 2)] [] fun s h' => s = .c (.sl 0 0 2 2) ∧ h' = [wB true (be2 n)] := by
  refine spec_of_X cx_ok Try.func49 rfl (by kernel_rfl) (by kernel_rfl) (Nat.le_of_ble_eq_true rfl) 400 7 ?_
  simp (maxSteps := 4000000) only [Try.results49, XX, Nat.reduceBEq, Nat.reduceLT, Nat.reduceAdd, Nat.reduceMul, Nat.reduceSub, Nat.reduceLeDiff, Nat.reduceEqDiff, Int.reduceToNat, Int.reduceLT, Int.reduceLE, Int.reduceAdd, Int.reduceSub, Int.reduceEq, reduceIte, Nat.reduceBNe, Int.reducePow, Nat.reducePow, Int.reduceMul, Int.reduceNeg, isB_i, isB_b, isB_y, isBv_i, isBv_b, eqCells_t, TT]
  refine loop_rounds cx_ok 400 3 ?_
  simp (maxSteps := 4000000) only [Try.results49, w64, List.replicate_succ, List.replicate_zero, List.flatten_cons, List.flatten_nil, Int.reduceDiv, Int.reduceMod, Int.reduceToNat, XX, Nat.reduceBEq, Nat.reduceLT, Nat.reduceAdd, Nat.reduceMul, Nat.reduceSub, Nat.reduceLeDiff, Nat.reduceEqDiff, Int.reduceToNat, Int.reduceLT, Int.reduceLE, Int.reduceAdd, Int.reduceSub, Int.reduceEq, reduceIte, Nat.reduceBNe, Int.reducePow, Nat.reducePow, Int.reduceMul, Int.reduceNeg, isB_i, isB_b, isB_y, isBv_i, isBv_b, eqCells_t, TT]
  rw [tdiv256, wu64 (by omega) (by omega), tmod256, tmod256, byteC_m, byteC_m]
  rfl

/-- Four bytes of a number. -/
abbrev be4 (n : Nat) : List UInt8 := [UInt8.ofNat (n / 16777216), UInt8.ofNat (n / 65536), UInt8.ofNat (n / 256), UInt8.ofNat n]

theorem put4_spec (n : Nat) (hn : n < 18446744073709551616) : Spec cx.P 48 [.c (u64 n), .c (i64 4)] [] fun s h' => s = .c (.sl 0 0 4 4) ∧ h' = [wB true (be4 n)] := by
  have key : Spec cx.P 48 [.c (u64 n), .c (i64 4)] [] fun s h' => s = .c (.sl 0 0 4 4) ∧ ∃ a b c d, h' = [wB true (be4 n), a, b, c, d] := by
    refine spec_of_X cx_ok Try.func48 rfl (by kernel_rfl) (by kernel_rfl) (Nat.le_of_ble_eq_true rfl) 400 7 ?_
    simp (maxSteps := 4000000) only [Try.results48, XX, Nat.reduceBEq, Nat.reduceLT, Nat.reduceAdd, Nat.reduceMul, Nat.reduceSub, Nat.reduceLeDiff, Nat.reduceEqDiff, Int.reduceToNat, Int.reduceLT, Int.reduceLE, Int.reduceAdd, Int.reduceSub, Int.reduceEq, reduceIte, Nat.reduceBNe, Int.reducePow, Nat.reducePow, Int.reduceMul, Int.reduceNeg, isB_i, isB_b, isB_y, isBv_i, isBv_b, eqCells_t, TT]
    refine loop_rounds cx_ok 400 5 ?_
    simp (maxSteps := 4000000) only [Try.results48, w64, shr24, byteC_n, List.replicate_succ, List.replicate_zero, List.flatten_cons, List.flatten_nil, Int.reduceDiv, Int.reduceMod, Int.reduceToNat, XX, Nat.reduceBEq, Nat.reduceLT, Nat.reduceAdd, Nat.reduceMul, Nat.reduceSub, Nat.reduceLeDiff, Nat.reduceEqDiff, Int.reduceToNat, Int.reduceLT, Int.reduceLE, Int.reduceAdd, Int.reduceSub, Int.reduceEq, reduceIte, Nat.reduceBNe, Int.reducePow, Nat.reducePow, Int.reduceMul, Int.reduceNeg, isB_i, isB_b, isB_y, isBv_i, isBv_b, eqCells_t, TT]
    refine ⟨by unfold maxLen; omega, xapp_room (by omega) ?_⟩
    simp (maxSteps := 4000000) only [Try.results48, w64, shr24, shr16, byteC_n, List.replicate_succ, List.replicate_zero, List.flatten_cons, List.flatten_nil, Int.reduceDiv, Int.reduceMod, Int.reduceToNat, XX, Nat.reduceBEq, Nat.reduceLT, Nat.reduceAdd, Nat.reduceMul, Nat.reduceSub, Nat.reduceLeDiff, Nat.reduceEqDiff, Int.reduceToNat, Int.reduceLT, Int.reduceLE, Int.reduceAdd, Int.reduceSub, Int.reduceEq, reduceIte, Nat.reduceBNe, Int.reducePow, Nat.reducePow, Int.reduceMul, Int.reduceNeg, isB_i, isB_b, isB_y, isBv_i, isBv_b, eqCells_t, TT]
    refine ⟨by unfold maxLen; omega, xapp_room (by omega) ?_⟩
    simp (maxSteps := 4000000) only [Try.results48, w64, shr16, shr8, byteC_n, List.replicate_succ, List.replicate_zero, List.flatten_cons, List.flatten_nil, Int.reduceDiv, Int.reduceMod, Int.reduceToNat, XX, Nat.reduceBEq, Nat.reduceLT, Nat.reduceAdd, Nat.reduceMul, Nat.reduceSub, Nat.reduceLeDiff, Nat.reduceEqDiff, Int.reduceToNat, Int.reduceLT, Int.reduceLE, Int.reduceAdd, Int.reduceSub, Int.reduceEq, reduceIte, Nat.reduceBNe, Int.reducePow, Nat.reducePow, Int.reduceMul, Int.reduceNeg, isB_i, isB_b, isB_y, isBv_i, isBv_b, eqCells_t, TT]
    refine ⟨by unfold maxLen; omega, xapp_room (by omega) ?_⟩
    simp (maxSteps := 4000000) only [Try.results48, w64, shr0, shr8, byteC_n, List.replicate_succ, List.replicate_zero, List.flatten_cons, List.flatten_nil, Int.reduceDiv, Int.reduceMod, Int.reduceToNat, XX, Nat.reduceBEq, Nat.reduceLT, Nat.reduceAdd, Nat.reduceMul, Nat.reduceSub, Nat.reduceLeDiff, Nat.reduceEqDiff, Int.reduceToNat, Int.reduceLT, Int.reduceLE, Int.reduceAdd, Int.reduceSub, Int.reduceEq, reduceIte, Nat.reduceBNe, Int.reducePow, Nat.reducePow, Int.reduceMul, Int.reduceNeg, isB_i, isB_b, isB_y, isBv_i, isBv_b, eqCells_t, TT]
    refine ⟨by unfold maxLen; omega, xapp_room (by omega) ?_⟩
    simp (maxSteps := 4000000) only [Try.results48, w64, List.replicate_succ, XX, Nat.reduceBEq, Nat.reduceLT, Nat.reduceAdd, Nat.reduceMul, Nat.reduceSub, Nat.reduceLeDiff, Nat.reduceEqDiff, Int.reduceToNat, Int.reduceLT, Int.reduceLE, Int.reduceAdd, Int.reduceSub, Int.reduceEq, reduceIte, Nat.reduceBNe, Int.reducePow, Nat.reducePow, Int.reduceMul, Int.reduceNeg, isB_i, isB_b, isB_y, isBv_i, isBv_b, eqCells_t, TT]
    exact ⟨_, _, _, _, rfl⟩
  exact key.wk fun t h' ⟨h1, a, b, c, d, h2⟩ => ⟨t, [wB true (be4 n)], [some 0], rfl, by subst h2; simp only [XX, Nat.reduceBEq, Nat.reduceLT, Nat.reduceAdd, Nat.reduceMul, Nat.reduceSub, Nat.reduceLeDiff, Nat.reduceEqDiff, Int.reduceToNat, Int.reduceLT, Int.reduceLE, Int.reduceAdd, Int.reduceSub, Int.reduceEq, reduceIte, Nat.reduceBNe, Int.reducePow, Nat.reducePow, Int.reduceMul, Int.reduceNeg, isB_i, isB_b, isB_y, isBv_i, isBv_b, eqCells_t, TT, ids_bsC, ren_bsC, noRo_bsC, plain_bsC, lt_bsC, ids_byte, ren_byte, noRo_byte, plain_byte, lt_byte], by subst h1; simp only [XX, Nat.reduceBEq, Nat.reduceLT, Nat.reduceAdd, Nat.reduceMul, Nat.reduceSub, Nat.reduceLeDiff, Nat.reduceEqDiff, Int.reduceToNat, Int.reduceLT, Int.reduceLE, Int.reduceAdd, Int.reduceSub, Int.reduceEq, reduceIte, Nat.reduceBNe, Int.reducePow, Nat.reducePow, Int.reduceMul, Int.reduceNeg, isB_i, isB_b, isB_y, isBv_i, isBv_b, eqCells_t, TT, ids_bsC, ren_bsC, noRo_bsC, plain_bsC, lt_bsC, ids_byte, ren_byte, noRo_byte, plain_byte, lt_byte], h1, rfl⟩

theorem rput4_spec (n : Nat) (hn : n < 18446744073709551616) : Spec cx.P 49 [.c (u64 n), .c (i64 4)] [] fun s h' => s = .c (.sl 0 0 4 4) ∧ h' = [wB true (be4 n)] := by
  refine spec_of_X cx_ok Try.func49 rfl (by kernel_rfl) (by kernel_rfl) (Nat.le_of_ble_eq_true rfl) 400 7 ?_
  simp (maxSteps := 4000000) only [Try.results49, XX, Nat.reduceBEq, Nat.reduceLT, Nat.reduceAdd, Nat.reduceMul, Nat.reduceSub, Nat.reduceLeDiff, Nat.reduceEqDiff, Int.reduceToNat, Int.reduceLT, Int.reduceLE, Int.reduceAdd, Int.reduceSub, Int.reduceEq, reduceIte, Nat.reduceBNe, Int.reducePow, Nat.reducePow, Int.reduceMul, Int.reduceNeg, isB_i, isB_b, isB_y, isBv_i, isBv_b, eqCells_t, TT]
  refine loop_rounds cx_ok 400 5 ?_
  have a1 : IntKind.u64.wrap (((n / 256 : Nat)) : Int) = ((n / 256 : Nat) : Int) := by rw [wu64] <;> omega
  have a2 : IntKind.u64.wrap (((n / 256 / 256 : Nat)) : Int) = ((n / 256 / 256 : Nat) : Int) := by rw [wu64] <;> omega
  have a3 : IntKind.u64.wrap (((n / 256 / 256 / 256 : Nat)) : Int) = ((n / 256 / 256 / 256 : Nat) : Int) := by rw [wu64] <;> omega
  simp (maxSteps := 4000000) only [Try.results49, w64, tdiv256, tmod256, a1, a2, a3, byteC_m, Nat.div_div_eq_div_mul, List.replicate_succ, List.replicate_zero, List.flatten_cons, List.flatten_nil, Int.reduceDiv, Int.reduceMod, Int.reduceToNat, XX, Nat.reduceBEq, Nat.reduceLT, Nat.reduceAdd, Nat.reduceMul, Nat.reduceSub, Nat.reduceLeDiff, Nat.reduceEqDiff, Int.reduceToNat, Int.reduceLT, Int.reduceLE, Int.reduceAdd, Int.reduceSub, Int.reduceEq, reduceIte, Nat.reduceBNe, Int.reducePow, Nat.reducePow, Int.reduceMul, Int.reduceNeg, isB_i, isB_b, isB_y, isBv_i, isBv_b, eqCells_t, TT]
  have a4 : IntKind.u64.wrap (((n / 65536 : Nat)) : Int) = ((n / 65536 : Nat) : Int) := by rw [wu64] <;> omega
  have a5 : IntKind.u64.wrap (((n / 16777216 : Nat)) : Int) = ((n / 16777216 : Nat) : Int) := by rw [wu64] <;> omega
  simp only [a4, a5, tdiv256, tmod256, byteC_m, Nat.div_div_eq_div_mul, Nat.reduceMul]
  rfl


end Go.Proofs.Ytflccffjfnfoiaa.Sx
