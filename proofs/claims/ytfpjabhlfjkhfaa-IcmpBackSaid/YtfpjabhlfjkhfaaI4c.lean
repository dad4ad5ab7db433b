/- The symbolic executor, at work: messages of the net are laid. No condition. -/
import Derived.Test.YtfpjabhlfjkhfaaI4b
namespace Go.Proofs.Ytfpjabhlfjkhfaa.Sx
open Go
set_option linter.unusedSimpArgs false
set_option linter.unusedVariables false
set_option linter.unusedSectionVars false
set_option maxRecDepth 10000
set_option maxHeartbeats 2000000

def rightB (k : Int) : Bool := decide (k = 0) || decide (k = 3) || decide (k = 8)
theorem kind_spec (k : Int) : Spec cx.P 26 [.c (i64 k)] [] fun s _ => s.plain = true ∧ s = .c (bC (rightB k)) := by
  refine spec_of_X cx_ok Try.func26 rfl (by kernel_rfl) (by kernel_rfl) (Nat.le_of_ble_eq_true rfl) 400 3 ?_
  simp (maxSteps := 4000000) only [Try.results26, XX, Nat.reduceBEq, Nat.reduceLT, Nat.reduceAdd, Nat.reduceMul, Nat.reduceSub, Nat.reduceLeDiff, Nat.reduceEqDiff, Int.reduceToNat, Int.reduceLT, Int.reduceLE, Int.reduceAdd, Int.reduceSub, Int.reduceEq, reduceIte, Nat.reduceBNe, Int.reducePow, Nat.reducePow, Int.reduceMul, Int.reduceNeg, isB_i, isB_b, isB_y, isBv_i, isBv_b, eqCells_t, TT]
  cases h1 : decide (k = 0)
  · cases h2 : decide (k = 3)
    · simp (maxSteps := 4000000) only [Try.results26, h1, h2, XX, Nat.reduceBEq, Nat.reduceLT, Nat.reduceAdd, Nat.reduceMul, Nat.reduceSub, Nat.reduceLeDiff, Nat.reduceEqDiff, Int.reduceToNat, Int.reduceLT, Int.reduceLE, Int.reduceAdd, Int.reduceSub, Int.reduceEq, reduceIte, Nat.reduceBNe, Int.reducePow, Nat.reducePow, Int.reduceMul, Int.reduceNeg, isB_i, isB_b, isB_y, isBv_i, isBv_b, eqCells_t, TT]
      rw [rightB, h1, h2]; rfl
    · simp (maxSteps := 4000000) only [Try.results26, h1, h2, XX, Nat.reduceBEq, Nat.reduceLT, Nat.reduceAdd, Nat.reduceMul, Nat.reduceSub, Nat.reduceLeDiff, Nat.reduceEqDiff, Int.reduceToNat, Int.reduceLT, Int.reduceLE, Int.reduceAdd, Int.reduceSub, Int.reduceEq, reduceIte, Nat.reduceBNe, Int.reducePow, Nat.reducePow, Int.reduceMul, Int.reduceNeg, isB_i, isB_b, isB_y, isBv_i, isBv_b, eqCells_t, TT]
      rw [rightB, h1, h2]; rfl
  · simp (maxSteps := 4000000) only [Try.results26, h1, XX, Nat.reduceBEq, Nat.reduceLT, Nat.reduceAdd, Nat.reduceMul, Nat.reduceSub, Nat.reduceLeDiff, Nat.reduceEqDiff, Int.reduceToNat, Int.reduceLT, Int.reduceLE, Int.reduceAdd, Int.reduceSub, Int.reduceEq, reduceIte, Nat.reduceBNe, Int.reducePow, Nat.reducePow, Int.reduceMul, Int.reduceNeg, isB_i, isB_b, isB_y, isBv_i, isBv_b, eqCells_t, TT]
    rw [rightB, h1]; rfl
theorem right_spec (k : Int) : Spec cx.P 23 [.c (i64 k)] [] fun s _ => s.plain = true ∧ s = .c (bC (rightB k)) := by
  refine spec_of_X cx_ok Try.func23 rfl (by kernel_rfl) (by kernel_rfl) (Nat.le_of_ble_eq_true rfl) 400 4 ?_
  simp (maxSteps := 4000000) only [Try.results23, XX, Nat.reduceBEq, Nat.reduceLT, Nat.reduceAdd, Nat.reduceMul, Nat.reduceSub, Nat.reduceLeDiff, Nat.reduceEqDiff, Int.reduceToNat, Int.reduceLT, Int.reduceLE, Int.reduceAdd, Int.reduceSub, Int.reduceEq, reduceIte, Nat.reduceBNe, Int.reducePow, Nat.reducePow, Int.reduceMul, Int.reduceNeg, isB_i, isB_b, isB_y, isBv_i, isBv_b, eqCells_t, TT]
  cases h1 : decide (k = 0)
  · cases h2 : decide (k = 3)
    · cases h3 : decide (k = 8)
      · simp (maxSteps := 4000000) only [Try.results23, h1, h2, h3, XX, Nat.reduceBEq, Nat.reduceLT, Nat.reduceAdd, Nat.reduceMul, Nat.reduceSub, Nat.reduceLeDiff, Nat.reduceEqDiff, Int.reduceToNat, Int.reduceLT, Int.reduceLE, Int.reduceAdd, Int.reduceSub, Int.reduceEq, reduceIte, Nat.reduceBNe, Int.reducePow, Nat.reducePow, Int.reduceMul, Int.reduceNeg, isB_i, isB_b, isB_y, isBv_i, isBv_b, eqCells_t, TT]
        rw [rightB, h1, h2, h3]; rfl
      · simp (maxSteps := 4000000) only [Try.results23, h1, h2, h3, XX, Nat.reduceBEq, Nat.reduceLT, Nat.reduceAdd, Nat.reduceMul, Nat.reduceSub, Nat.reduceLeDiff, Nat.reduceEqDiff, Int.reduceToNat, Int.reduceLT, Int.reduceLE, Int.reduceAdd, Int.reduceSub, Int.reduceEq, reduceIte, Nat.reduceBNe, Int.reducePow, Nat.reducePow, Int.reduceMul, Int.reduceNeg, isB_i, isB_b, isB_y, isBv_i, isBv_b, eqCells_t, TT]
        rw [rightB, h1, h2, h3]; rfl
    · simp (maxSteps := 4000000) only [Try.results23, h1, h2, XX, Nat.reduceBEq, Nat.reduceLT, Nat.reduceAdd, Nat.reduceMul, Nat.reduceSub, Nat.reduceLeDiff, Nat.reduceEqDiff, Int.reduceToNat, Int.reduceLT, Int.reduceLE, Int.reduceAdd, Int.reduceSub, Int.reduceEq, reduceIte, Nat.reduceBNe, Int.reducePow, Nat.reducePow, Int.reduceMul, Int.reduceNeg, isB_i, isB_b, isB_y, isBv_i, isBv_b, eqCells_t, TT]
      rw [rightB, h1, h2]; rfl
  · simp (maxSteps := 4000000) only [Try.results23, h1, XX, Nat.reduceBEq, Nat.reduceLT, Nat.reduceAdd, Nat.reduceMul, Nat.reduceSub, Nat.reduceLeDiff, Nat.reduceEqDiff, Int.reduceToNat, Int.reduceLT, Int.reduceLE, Int.reduceAdd, Int.reduceSub, Int.reduceEq, reduceIte, Nat.reduceBNe, Int.reducePow, Nat.reducePow, Int.reduceMul, Int.reduceNeg, isB_i, isB_b, isB_y, isBv_i, isBv_b, eqCells_t, TT]
    rw [rightB, h1]; rfl

abbrev noC : SC := .v (.slice none 0 0)
/-- What laying comes to: the bytes, the error. -/
def iencR (k c : Int) (r : Nat) (l : List UInt8) : List UInt8 × Int :=
  if rightB k = false then ([], 140) else if c < 0 ∨ 255 < c then ([], 1) else if 1472 < l.length then ([], 2) else (icL k.toNat c.toNat r l (isum (icL k.toNat c.toNat r l 0)), 0)
theorem iencR_len (k c : Int) (r : Nat) (l : List UInt8) : (iencR k c r l).1.length ≤ 1600 := by
  unfold iencR
  repeat' split
  all_goals first | simp; done | (rw [icL_len]; omega)

theorem iencK_spec (k c : Int) (r : Nat) (x : SC) (h : rightB k = false) : Spec cx.P 10 [.agg (icC k c r x)] [] fun s _ => s.plain = true ∧ s = .tup [(false, [noC]), (false, [i64 140])] := by
  refine spec_of_X cx_ok Try.func10 rfl (by kernel_rfl) (by kernel_rfl) (Nat.le_of_ble_eq_true rfl) 400 5 ?_
  simp (maxSteps := 4000000) only [Try.results10, XX, Nat.reduceBEq, Nat.reduceLT, Nat.reduceAdd, Nat.reduceMul, Nat.reduceSub, Nat.reduceLeDiff, Nat.reduceEqDiff, Int.reduceToNat, Int.reduceLT, Int.reduceLE, Int.reduceAdd, Int.reduceSub, Int.reduceEq, reduceIte, Nat.reduceBNe, Int.reducePow, Nat.reducePow, Int.reduceMul, Int.reduceNeg, isB_i, isB_b, isB_y, isBv_i, isBv_b, eqCells_t, TT]
  refine call_plain (right_spec k) rfl ?_
  rintro _ rfl
  simp (maxSteps := 4000000) only [Try.results10, XX, Nat.reduceBEq, Nat.reduceLT, Nat.reduceAdd, Nat.reduceMul, Nat.reduceSub, Nat.reduceLeDiff, Nat.reduceEqDiff, Int.reduceToNat, Int.reduceLT, Int.reduceLE, Int.reduceAdd, Int.reduceSub, Int.reduceEq, reduceIte, Nat.reduceBNe, Int.reducePow, Nat.reducePow, Int.reduceMul, Int.reduceNeg, isB_i, isB_b, isB_y, isBv_i, isBv_b, eqCells_t, TT]
  rw [h]
  simp (maxSteps := 4000000) only [Try.results10, XX, Nat.reduceBEq, Nat.reduceLT, Nat.reduceAdd, Nat.reduceMul, Nat.reduceSub, Nat.reduceLeDiff, Nat.reduceEqDiff, Int.reduceToNat, Int.reduceLT, Int.reduceLE, Int.reduceAdd, Int.reduceSub, Int.reduceEq, reduceIte, Nat.reduceBNe, Int.reducePow, Nat.reducePow, Int.reduceMul, Int.reduceNeg, isB_i, isB_b, isB_y, isBv_i, isBv_b, eqCells_t, TT]
theorem riencK_spec (k c : Int) (r : Nat) (x : SC) (h : rightB k = false) : Spec cx.P 12 [.agg (icC k c r x)] [] fun s _ => s.plain = true ∧ s = .tup [(false, [noC]), (false, [i64 140])] := by
  refine spec_of_X cx_ok Try.func12 rfl (by kernel_rfl) (by kernel_rfl) (Nat.le_of_ble_eq_true rfl) 400 5 ?_
  simp (maxSteps := 4000000) only [Try.results12, XX, Nat.reduceBEq, Nat.reduceLT, Nat.reduceAdd, Nat.reduceMul, Nat.reduceSub, Nat.reduceLeDiff, Nat.reduceEqDiff, Int.reduceToNat, Int.reduceLT, Int.reduceLE, Int.reduceAdd, Int.reduceSub, Int.reduceEq, reduceIte, Nat.reduceBNe, Int.reducePow, Nat.reducePow, Int.reduceMul, Int.reduceNeg, isB_i, isB_b, isB_y, isBv_i, isBv_b, eqCells_t, TT]
  refine call_plain (kind_spec k) rfl ?_
  rintro _ rfl
  simp (maxSteps := 4000000) only [Try.results12, XX, Nat.reduceBEq, Nat.reduceLT, Nat.reduceAdd, Nat.reduceMul, Nat.reduceSub, Nat.reduceLeDiff, Nat.reduceEqDiff, Int.reduceToNat, Int.reduceLT, Int.reduceLE, Int.reduceAdd, Int.reduceSub, Int.reduceEq, reduceIte, Nat.reduceBNe, Int.reducePow, Nat.reducePow, Int.reduceMul, Int.reduceNeg, isB_i, isB_b, isB_y, isBv_i, isBv_b, eqCells_t, TT]
  rw [h]
  simp (maxSteps := 4000000) only [Try.results12, XX, Nat.reduceBEq, Nat.reduceLT, Nat.reduceAdd, Nat.reduceMul, Nat.reduceSub, Nat.reduceLeDiff, Nat.reduceEqDiff, Int.reduceToNat, Int.reduceLT, Int.reduceLE, Int.reduceAdd, Int.reduceSub, Int.reduceEq, reduceIte, Nat.reduceBNe, Int.reducePow, Nat.reducePow, Int.reduceMul, Int.reduceNeg, isB_i, isB_b, isB_y, isBv_i, isBv_b, eqCells_t, TT]
theorem iencC_spec (k c : Int) (r : Nat) (x : SC) (h : rightB k = true) (hc : c < 0 ∨ 255 < c) : Spec cx.P 10 [.agg (icC k c r x)] [] fun s _ => s.plain = true ∧ s = .tup [(false, [noC]), (false, [i64 1])] := by
  refine spec_of_X cx_ok Try.func10 rfl (by kernel_rfl) (by kernel_rfl) (Nat.le_of_ble_eq_true rfl) 400 5 ?_
  simp (maxSteps := 4000000) only [Try.results10, XX, Nat.reduceBEq, Nat.reduceLT, Nat.reduceAdd, Nat.reduceMul, Nat.reduceSub, Nat.reduceLeDiff, Nat.reduceEqDiff, Int.reduceToNat, Int.reduceLT, Int.reduceLE, Int.reduceAdd, Int.reduceSub, Int.reduceEq, reduceIte, Nat.reduceBNe, Int.reducePow, Nat.reducePow, Int.reduceMul, Int.reduceNeg, isB_i, isB_b, isB_y, isBv_i, isBv_b, eqCells_t, TT]
  refine call_plain (right_spec k) rfl ?_
  rintro _ rfl
  simp (maxSteps := 4000000) only [Try.results10, XX, Nat.reduceBEq, Nat.reduceLT, Nat.reduceAdd, Nat.reduceMul, Nat.reduceSub, Nat.reduceLeDiff, Nat.reduceEqDiff, Int.reduceToNat, Int.reduceLT, Int.reduceLE, Int.reduceAdd, Int.reduceSub, Int.reduceEq, reduceIte, Nat.reduceBNe, Int.reducePow, Nat.reducePow, Int.reduceMul, Int.reduceNeg, isB_i, isB_b, isB_y, isBv_i, isBv_b, eqCells_t, TT]
  rw [h]
  cases h1 : decide (c < 0)
  · have h2 : decide (255 < c) = true := by simp at h1 ⊢; omega
    simp (maxSteps := 4000000) only [Try.results10, h1, h2, XX, Nat.reduceBEq, Nat.reduceLT, Nat.reduceAdd, Nat.reduceMul, Nat.reduceSub, Nat.reduceLeDiff, Nat.reduceEqDiff, Int.reduceToNat, Int.reduceLT, Int.reduceLE, Int.reduceAdd, Int.reduceSub, Int.reduceEq, reduceIte, Nat.reduceBNe, Int.reducePow, Nat.reducePow, Int.reduceMul, Int.reduceNeg, isB_i, isB_b, isB_y, isBv_i, isBv_b, eqCells_t, TT]
  · simp (maxSteps := 4000000) only [Try.results10, h1, XX, Nat.reduceBEq, Nat.reduceLT, Nat.reduceAdd, Nat.reduceMul, Nat.reduceSub, Nat.reduceLeDiff, Nat.reduceEqDiff, Int.reduceToNat, Int.reduceLT, Int.reduceLE, Int.reduceAdd, Int.reduceSub, Int.reduceEq, reduceIte, Nat.reduceBNe, Int.reducePow, Nat.reducePow, Int.reduceMul, Int.reduceNeg, isB_i, isB_b, isB_y, isBv_i, isBv_b, eqCells_t, TT]
theorem riencC_spec (k c : Int) (r : Nat) (x : SC) (h : rightB k = true) (hc : c < 0 ∨ 255 < c) : Spec cx.P 12 [.agg (icC k c r x)] [] fun s _ => s.plain = true ∧ s = .tup [(false, [noC]), (false, [i64 1])] := by
  refine spec_of_X cx_ok Try.func12 rfl (by kernel_rfl) (by kernel_rfl) (Nat.le_of_ble_eq_true rfl) 400 5 ?_
  simp (maxSteps := 4000000) only [Try.results12, XX, Nat.reduceBEq, Nat.reduceLT, Nat.reduceAdd, Nat.reduceMul, Nat.reduceSub, Nat.reduceLeDiff, Nat.reduceEqDiff, Int.reduceToNat, Int.reduceLT, Int.reduceLE, Int.reduceAdd, Int.reduceSub, Int.reduceEq, reduceIte, Nat.reduceBNe, Int.reducePow, Nat.reducePow, Int.reduceMul, Int.reduceNeg, isB_i, isB_b, isB_y, isBv_i, isBv_b, eqCells_t, TT]
  refine call_plain (kind_spec k) rfl ?_
  rintro _ rfl
  simp (maxSteps := 4000000) only [Try.results12, XX, Nat.reduceBEq, Nat.reduceLT, Nat.reduceAdd, Nat.reduceMul, Nat.reduceSub, Nat.reduceLeDiff, Nat.reduceEqDiff, Int.reduceToNat, Int.reduceLT, Int.reduceLE, Int.reduceAdd, Int.reduceSub, Int.reduceEq, reduceIte, Nat.reduceBNe, Int.reducePow, Nat.reducePow, Int.reduceMul, Int.reduceNeg, isB_i, isB_b, isB_y, isBv_i, isBv_b, eqCells_t, TT]
  rw [h]
  cases h1 : decide (c < 0)
  · have h2 : decide (255 < c) = true := by simp at h1 ⊢; omega
    simp (maxSteps := 4000000) only [Try.results12, h1, h2, XX, Nat.reduceBEq, Nat.reduceLT, Nat.reduceAdd, Nat.reduceMul, Nat.reduceSub, Nat.reduceLeDiff, Nat.reduceEqDiff, Int.reduceToNat, Int.reduceLT, Int.reduceLE, Int.reduceAdd, Int.reduceSub, Int.reduceEq, reduceIte, Nat.reduceBNe, Int.reducePow, Nat.reducePow, Int.reduceMul, Int.reduceNeg, isB_i, isB_b, isB_y, isBv_i, isBv_b, eqCells_t, TT]
  · simp (maxSteps := 4000000) only [Try.results12, h1, XX, Nat.reduceBEq, Nat.reduceLT, Nat.reduceAdd, Nat.reduceMul, Nat.reduceSub, Nat.reduceLeDiff, Nat.reduceEqDiff, Int.reduceToNat, Int.reduceLT, Int.reduceLE, Int.reduceAdd, Int.reduceSub, Int.reduceEq, reduceIte, Nat.reduceBNe, Int.reducePow, Nat.reducePow, Int.reduceMul, Int.reduceNeg, isB_i, isB_b, isB_y, isBv_i, isBv_b, eqCells_t, TT]

section
variable (k : Int) (c r : Nat) (l sp : List UInt8) (cp : Nat) (h : rightB k = true) (hc : c < 256)
include h hc
theorem iencL_spec (hl : 1472 < l.length) : Spec cx.P 10 [.agg (icC k c r (roB l sp cp))] [] fun s _ => s.plain = true ∧ s = .tup [(false, [noC]), (false, [i64 2])] := by
  have h1 : decide ((c : Int) < 0) = false := by simp only [decide_eq_false_iff_not]; omega
  have h2 : decide (255 < (c : Int)) = false := by simp only [decide_eq_false_iff_not]; omega
  have h3 : decide (1472 < (l.length : Int)) = true := by simp only [decide_eq_true_eq]; omega
  refine spec_of_X cx_ok Try.func10 rfl (by kernel_rfl) (by kernel_rfl) (Nat.le_of_ble_eq_true rfl) 400 5 ?_
  simp (maxSteps := 4000000) only [Try.results10, XX, Nat.reduceBEq, Nat.reduceLT, Nat.reduceAdd, Nat.reduceMul, Nat.reduceSub, Nat.reduceLeDiff, Nat.reduceEqDiff, Int.reduceToNat, Int.reduceLT, Int.reduceLE, Int.reduceAdd, Int.reduceSub, Int.reduceEq, reduceIte, Nat.reduceBNe, Int.reducePow, Nat.reducePow, Int.reduceMul, Int.reduceNeg, isB_i, isB_b, isB_y, isBv_i, isBv_b, eqCells_t, TT]
  refine call_plain (right_spec k) rfl ?_
  rintro _ rfl
  simp (maxSteps := 4000000) only [Try.results10, XX, Nat.reduceBEq, Nat.reduceLT, Nat.reduceAdd, Nat.reduceMul, Nat.reduceSub, Nat.reduceLeDiff, Nat.reduceEqDiff, Int.reduceToNat, Int.reduceLT, Int.reduceLE, Int.reduceAdd, Int.reduceSub, Int.reduceEq, reduceIte, Nat.reduceBNe, Int.reducePow, Nat.reducePow, Int.reduceMul, Int.reduceNeg, isB_i, isB_b, isB_y, isBv_i, isBv_b, eqCells_t, TT]
  rw [h]
  simp (maxSteps := 4000000) only [Try.results10, h1, h2, h3, XX, Nat.reduceBEq, Nat.reduceLT, Nat.reduceAdd, Nat.reduceMul, Nat.reduceSub, Nat.reduceLeDiff, Nat.reduceEqDiff, Int.reduceToNat, Int.reduceLT, Int.reduceLE, Int.reduceAdd, Int.reduceSub, Int.reduceEq, reduceIte, Nat.reduceBNe, Int.reducePow, Nat.reducePow, Int.reduceMul, Int.reduceNeg, isB_i, isB_b, isB_y, isBv_i, isBv_b, eqCells_t, TT]
theorem riencL_spec (hl : 1472 < l.length) : Spec cx.P 12 [.agg (icC k c r (roB l sp cp))] [] fun s _ => s.plain = true ∧ s = .tup [(false, [noC]), (false, [i64 2])] := by
  have h1 : decide ((c : Int) < 0) = false := by simp only [decide_eq_false_iff_not]; omega
  have h2 : decide (255 < (c : Int)) = false := by simp only [decide_eq_false_iff_not]; omega
  have h3 : decide (1472 < (l.length : Int)) = true := by simp only [decide_eq_true_eq]; omega
  refine spec_of_X cx_ok Try.func12 rfl (by kernel_rfl) (by kernel_rfl) (Nat.le_of_ble_eq_true rfl) 400 5 ?_
  simp (maxSteps := 4000000) only [Try.results12, XX, Nat.reduceBEq, Nat.reduceLT, Nat.reduceAdd, Nat.reduceMul, Nat.reduceSub, Nat.reduceLeDiff, Nat.reduceEqDiff, Int.reduceToNat, Int.reduceLT, Int.reduceLE, Int.reduceAdd, Int.reduceSub, Int.reduceEq, reduceIte, Nat.reduceBNe, Int.reducePow, Nat.reducePow, Int.reduceMul, Int.reduceNeg, isB_i, isB_b, isB_y, isBv_i, isBv_b, eqCells_t, TT]
  refine call_plain (kind_spec k) rfl ?_
  rintro _ rfl
  simp (maxSteps := 4000000) only [Try.results12, XX, Nat.reduceBEq, Nat.reduceLT, Nat.reduceAdd, Nat.reduceMul, Nat.reduceSub, Nat.reduceLeDiff, Nat.reduceEqDiff, Int.reduceToNat, Int.reduceLT, Int.reduceLE, Int.reduceAdd, Int.reduceSub, Int.reduceEq, reduceIte, Nat.reduceBNe, Int.reducePow, Nat.reducePow, Int.reduceMul, Int.reduceNeg, isB_i, isB_b, isB_y, isBv_i, isBv_b, eqCells_t, TT]
  rw [h]
  simp (maxSteps := 4000000) only [Try.results12, h1, h2, h3, XX, Nat.reduceBEq, Nat.reduceLT, Nat.reduceAdd, Nat.reduceMul, Nat.reduceSub, Nat.reduceLeDiff, Nat.reduceEqDiff, Int.reduceToNat, Int.reduceLT, Int.reduceLE, Int.reduceAdd, Int.reduceSub, Int.reduceEq, reduceIte, Nat.reduceBNe, Int.reducePow, Nat.reducePow, Int.reduceMul, Int.reduceNeg, isB_i, isB_b, isB_y, isBv_i, isBv_b, eqCells_t, TT]
end

theorem right_lt {k : Int} (h : rightB k = true) : 0 ≤ k ∧ k < 256 := by
  simp only [rightB, Bool.or_eq_true, decide_eq_true_eq] at h; omega

theorem rienc_spec (k c r : Nat) (l sp : List UInt8) (cp : Nat) (h : rightB k = true) (hc : c < 256) (hr : r < 4294967296) (hl : l.length ≤ 1472) : Spec cx.P 12 [.agg (icC k c r (roB l sp cp))] [] (resB (icL k c r l (isum (icL k c r l 0))) 0) := by
  refine resB_of ?_
  have hk := right_lt h
  have h1 : decide ((c : Int) < 0) = false := by simp only [decide_eq_false_iff_not]; omega
  have h2 : decide (255 < (c : Int)) = false := by simp only [decide_eq_false_iff_not]; omega
  have h3 : decide (1472 < (l.length : Int)) = false := by simp only [decide_eq_false_iff_not]; omega
  have p := form_spec k c r l sp cp (by omega) hc hr (by omega)
  refine spec_of_X cx_ok Try.func12 rfl (by kernel_rfl) (by kernel_rfl) (Nat.le_of_ble_eq_true rfl) 400 5 ?_
  simp (maxSteps := 4000000) only [Try.results12, XX, Nat.reduceBEq, Nat.reduceLT, Nat.reduceAdd, Nat.reduceMul, Nat.reduceSub, Nat.reduceLeDiff, Nat.reduceEqDiff, Int.reduceToNat, Int.reduceLT, Int.reduceLE, Int.reduceAdd, Int.reduceSub, Int.reduceEq, reduceIte, Nat.reduceBNe, Int.reducePow, Nat.reducePow, Int.reduceMul, Int.reduceNeg, isB_i, isB_b, isB_y, isBv_i, isBv_b, eqCells_t, TT]
  refine call_plain (kind_spec k) rfl ?_
  rintro _ rfl
  simp (maxSteps := 4000000) only [Try.results12, XX, Nat.reduceBEq, Nat.reduceLT, Nat.reduceAdd, Nat.reduceMul, Nat.reduceSub, Nat.reduceLeDiff, Nat.reduceEqDiff, Int.reduceToNat, Int.reduceLT, Int.reduceLE, Int.reduceAdd, Int.reduceSub, Int.reduceEq, reduceIte, Nat.reduceBNe, Int.reducePow, Nat.reducePow, Int.reduceMul, Int.reduceNeg, isB_i, isB_b, isB_y, isBv_i, isBv_b, eqCells_t, TT]
  rw [h]
  simp (maxSteps := 4000000) only [Try.results12, h1, h2, h3, XX, Nat.reduceBEq, Nat.reduceLT, Nat.reduceAdd, Nat.reduceMul, Nat.reduceSub, Nat.reduceLeDiff, Nat.reduceEqDiff, Int.reduceToNat, Int.reduceLT, Int.reduceLE, Int.reduceAdd, Int.reduceSub, Int.reduceEq, reduceIte, Nat.reduceBNe, Int.reducePow, Nat.reducePow, Int.reduceMul, Int.reduceNeg, isB_i, isB_b, isB_y, isBv_i, isBv_b, eqCells_t, TT]
  refine call_fz [.agg (icC k c r (roB l sp cp))] p (fun t h' h => resS_noRo h) ⟨.inl ⟨rfl, rfl⟩, trivial⟩ ?_
  rintro _ _ ⟨z, o, rfl, rfl, ho⟩
  simp (maxSteps := 4000000) only [Try.results12, ids_bsC, ren_bsC, noRo_bsC, plain_bsC, lt_bsC, ids_byte, ren_byte, noRo_byte, plain_byte, lt_byte, XX, Nat.reduceBEq, Nat.reduceLT, Nat.reduceAdd, Nat.reduceMul, Nat.reduceSub, Nat.reduceLeDiff, Nat.reduceEqDiff, Int.reduceToNat, Int.reduceLT, Int.reduceLE, Int.reduceAdd, Int.reduceSub, Int.reduceEq, reduceIte, Nat.reduceBNe, Int.reducePow, Nat.reducePow, Int.reduceMul, Int.reduceNeg, isB_i, isB_b, isB_y, isBv_i, isBv_b, eqCells_t, TT]
  exact ⟨1, z, o, rfl, rfl, ho⟩

theorem ienc_spec (k c r : Nat) (l sp : List UInt8) (cp : Nat) (h : rightB k = true) (hc : c < 256) (hr : r < 4294967296) (hl : l.length ≤ 1472) : Spec cx.P 10 [.agg (icC k c r (roB l sp cp))] [] (resB (icL k c r l (isum (icL k c r l 0))) 0) := by
  refine resB_of ?_
  have hk := right_lt h
  have h1 : decide ((c : Int) < 0) = false := by simp only [decide_eq_false_iff_not]; omega
  have h2 : decide (255 < (c : Int)) = false := by simp only [decide_eq_false_iff_not]; omega
  have h3 : decide (1472 < (l.length : Int)) = false := by simp only [decide_eq_false_iff_not]; omega
  have e1 : IntKind.u64.wrap (r : Int) = (r : Int) := by rw [wu64] <;> omega
  have p1 := put4_spec r (by omega)
  have l1 : (be4 r).length = 4 := rfl
  have eA : [UInt8.ofNat k, UInt8.ofNat c] ++ ([0, 0] ++ (be4 r ++ l)) = icL k c r l 0 := rfl
  have eB : ∀ s, [UInt8.ofNat k, UInt8.ofNat c] ++ (be2 s ++ (be4 r ++ l)) = icL k c r l s := fun _ => rfl
  have nA := icL_len k c r l 0
  generalize be4 r = R4 at p1 l1 eA eB
  have t1 : (bsC R4).take 4 = bsC R4 := List.take_of_length_le (by simp; omega)
  have m1 : (bsC R4).length = 4 := by simp [l1]
  refine spec_of_X cx_ok Try.func10 rfl (by kernel_rfl) (by kernel_rfl) (Nat.le_of_ble_eq_true rfl) 400 5 ?_
  simp (maxSteps := 4000000) only [Try.results10, XX, Nat.reduceBEq, Nat.reduceLT, Nat.reduceAdd, Nat.reduceMul, Nat.reduceSub, Nat.reduceLeDiff, Nat.reduceEqDiff, Int.reduceToNat, Int.reduceLT, Int.reduceLE, Int.reduceAdd, Int.reduceSub, Int.reduceEq, reduceIte, Nat.reduceBNe, Int.reducePow, Nat.reducePow, Int.reduceMul, Int.reduceNeg, isB_i, isB_b, isB_y, isBv_i, isBv_b, eqCells_t, TT]
  refine call_plain (right_spec k) rfl ?_
  rintro _ rfl
  simp (maxSteps := 4000000) only [Try.results10, XX, Nat.reduceBEq, Nat.reduceLT, Nat.reduceAdd, Nat.reduceMul, Nat.reduceSub, Nat.reduceLeDiff, Nat.reduceEqDiff, Int.reduceToNat, Int.reduceLT, Int.reduceLE, Int.reduceAdd, Int.reduceSub, Int.reduceEq, reduceIte, Nat.reduceBNe, Int.reducePow, Nat.reducePow, Int.reduceMul, Int.reduceNeg, isB_i, isB_b, isB_y, isBv_i, isBv_b, eqCells_t, TT]
  rw [h]
  simp (maxSteps := 4000000) only [Try.results10, h1, h2, h3, e1, byteC_n, List.replicate_succ, List.replicate_zero, List.flatten_cons, List.flatten_nil, XX, Nat.reduceBEq, Nat.reduceLT, Nat.reduceAdd, Nat.reduceMul, Nat.reduceSub, Nat.reduceLeDiff, Nat.reduceEqDiff, Int.reduceToNat, Int.reduceLT, Int.reduceLE, Int.reduceAdd, Int.reduceSub, Int.reduceEq, reduceIte, Nat.reduceBNe, Int.reducePow, Nat.reducePow, Int.reduceMul, Int.reduceNeg, isB_i, isB_b, isB_y, isBv_i, isBv_b, eqCells_t, TT]
  refine call_frame (p1) [] rfl rfl trivial rfl rfl ?_
  rintro _ _ ⟨rfl, rfl⟩
  simp (maxSteps := 4000000) only [Try.results10, ids_bsC, ren_bsC, noRo_bsC, plain_bsC, lt_bsC, ids_byte, ren_byte, noRo_byte, plain_byte, lt_byte, XX, Nat.reduceBEq, Nat.reduceLT, Nat.reduceAdd, Nat.reduceMul, Nat.reduceSub, Nat.reduceLeDiff, Nat.reduceEqDiff, Int.reduceToNat, Int.reduceLT, Int.reduceLE, Int.reduceAdd, Int.reduceSub, Int.reduceEq, reduceIte, Nat.reduceBNe, Int.reducePow, Nat.reducePow, Int.reduceMul, Int.reduceNeg, isB_i, isB_b, isB_y, isBv_i, isBv_b, eqCells_t, TT]
  simp (maxSteps := 4000000) only [Try.results10, t1, m1, rep_flat, bsC_len, XX, Nat.reduceBEq, Nat.reduceLT, Nat.reduceAdd, Nat.reduceMul, Nat.reduceSub, Nat.reduceLeDiff, Nat.reduceEqDiff, Int.reduceToNat, Int.reduceLT, Int.reduceLE, Int.reduceAdd, Int.reduceSub, Int.reduceEq, reduceIte, Nat.reduceBNe, Int.reducePow, Nat.reducePow, Int.reduceMul, Int.reduceNeg, isB_i, isB_b, isB_y, isBv_i, isBv_b, eqCells_t, TT]
  refine ⟨by unfold maxLen; omega, ?_⟩
  refine xapp_more0 (H := [⟨true, 26, icC k c r (roB l sp cp)⟩, wB true [UInt8.ofNat k, UInt8.ofNat c, 0, 0], wB true R4]) (w := 1) (n := 4) (m := 4) (o := true) (l := [UInt8.ofNat k, UInt8.ofNat c, 0, 0]) (sp := []) (news := R4) ⟨rfl, fun _ => rfl⟩ rfl l1 rfl rfl (by omega) fun H w z B g1 g2 g3 => ?_
  have b0 : H[0]? = some ⟨true, 26, icC k c r (roB l sp cp)⟩ := g2 0 (by simp) (by decide)
  have n0 : w ≠ 0 := by simp at g3; omega
  clear g1 g2 g3
  have lK8 : ([UInt8.ofNat k, UInt8.ofNat c, 0, 0] ++ R4).length = 8 := by simp [l1]
  have eA' : ([UInt8.ofNat k, UInt8.ofNat c, 0, 0] ++ R4) ++ l = icL k c r l 0 := by rw [List.append_assoc]; exact eA
  generalize [UInt8.ofNat k, UInt8.ofNat c, 0, 0] ++ R4 = K8 at B lK8 eA'
  have m9 : (bsR (l ++ sp)).take l.length = bsR l := by rw [rs_take, List.take_left' rfl]
  have m10 : (bsR l).map RC.toSC = bsC l := bsR_toSC l
  simp only [slB, lK8]
  simp (maxSteps := 4000000) only [Try.results10, b0, lt_of b0, B.at_, lt_of B.at_, m9, m10, bsC_len, List.append_assoc, List.getElem?_append_left, List.getElem?_append_right, List.length_append, List.length_set, List.set_append_left, gset, List.getElem?_set_ne, Nat.add_sub_cancel_left, Nat.sub_self, Nat.le_refl, Nat.le_add_right, List.replicate_one, List.flatten_cons, List.flatten_nil, rep_flat, XX, Nat.reduceBEq, Nat.reduceLT, Nat.reduceAdd, Nat.reduceMul, Nat.reduceSub, Nat.reduceLeDiff, Nat.reduceEqDiff, Int.reduceToNat, Int.reduceLT, Int.reduceLE, Int.reduceAdd, Int.reduceSub, Int.reduceEq, reduceIte, Nat.reduceBNe, Int.reducePow, Nat.reducePow, Int.reduceMul, Int.reduceNeg, isB_i, isB_b, isB_y, isBv_i, isBv_b, eqCells_t, TT]
  refine ⟨⟨⟨by omega, by unfold maxLen; omega, by omega, fun h => by omega⟩, by simp⟩, ?_⟩
  refine xapp_more0 B lK8 rfl rfl rfl (by omega) fun H2 w2 z2 B2 g1 g2 g3 => ?_
  clear g1 g2 g3 B b0
  rw [eA'] at B2 ⊢
  simp only [slB, nA]
  simp (maxSteps := 4000000) only [Try.results10, XX, Nat.reduceBEq, Nat.reduceLT, Nat.reduceAdd, Nat.reduceMul, Nat.reduceSub, Nat.reduceLeDiff, Nat.reduceEqDiff, Int.reduceToNat, Int.reduceLT, Int.reduceLE, Int.reduceAdd, Int.reduceSub, Int.reduceEq, reduceIte, Nat.reduceBNe, Int.reducePow, Nat.reducePow, Int.reduceMul, Int.reduceNeg, isB_i, isB_b, isB_y, isBv_i, isBv_b, eqCells_t, TT]
  refine draw_of cx_ok (by kernel_rfl) 400 [] [(0, true), (1, true), (2, true), (3, false), (4, false), (5, true), (6, false), (7, false)] (by kernel_rfl) rfl ?_
  simp (maxSteps := 4000000) only [Try.results10, List.replicate_one, List.flatten_cons, List.flatten_nil, maskL_nil, XX, Nat.reduceBEq, Nat.reduceLT, Nat.reduceAdd, Nat.reduceMul, Nat.reduceSub, Nat.reduceLeDiff, Nat.reduceEqDiff, Int.reduceToNat, Int.reduceLT, Int.reduceLE, Int.reduceAdd, Int.reduceSub, Int.reduceEq, reduceIte, Nat.reduceBNe, Int.reducePow, Nat.reducePow, Int.reduceMul, Int.reduceNeg, isB_i, isB_b, isB_y, isBv_i, isBv_b, eqCells_t, TT]
  refine ⟨⟨by omega, by omega, by omega⟩, ?_⟩
  have lt2 := lt_of B2.at_
  have hn1 : H2.length ≠ w2 := by omega
  have p3 := osum_spec [(icL k c r l 0, z2, 8 + l.length + z2.length)] [] 1 (by simp) (by simp [bytesOf, nA]; omega)
  rw [show bytesOf [(icL k c r l 0, z2, 8 + l.length + z2.length)] = icL k c r l 0 by simp [bytesOf]] at p3
  have hrow : (H2 ++ [⟨true, 24, [SC.sl w2 0 (8 + l.length) (8 + l.length + z2.length)]⟩])[H2.length]? = some ⟨true, 24, [SC.sl w2 0 (8 + l.length) (8 + l.length + z2.length)]⟩ := by rw [List.getElem?_append_right (Nat.le_refl _), Nat.sub_self]; rfl
  have hwin : (H2 ++ [⟨true, 24, [SC.sl w2 0 (8 + l.length) (8 + l.length + z2.length)]⟩])[w2]? = some (wB true (icL k c r l 0 ++ z2)) := by rw [List.getElem?_append_left lt2]; exact B2.at_
  refine call_pureF [.c (.ro ([(icL k c r l 0, z2, 8 + l.length + z2.length)].map partR ++ []) 1 1)] p3 ⟨fz_rows hrow rfl ⟨fr_win hwin rfl rfl nA, trivial⟩, trivial⟩ ?_
  rintro _ rfl
  have hx := isum_le (icL k c r l 0)
  generalize isum (icL k c r l 0) = x at hx ⊢
  have e2 : IntKind.u64.wrap (x : Int) = (x : Int) := by rw [wu64] <;> omega
  have p2 := put2_spec x (by omega)
  have l2 : (be2 x).length = 2 := rfl
  have eB := eB x
  generalize be2 x = S2 at p2 l2 eB
  simp (maxSteps := 4000000) only [Try.results10, e2, XX, Nat.reduceBEq, Nat.reduceLT, Nat.reduceAdd, Nat.reduceMul, Nat.reduceSub, Nat.reduceLeDiff, Nat.reduceEqDiff, Int.reduceToNat, Int.reduceLT, Int.reduceLE, Int.reduceAdd, Int.reduceSub, Int.reduceEq, reduceIte, Nat.reduceBNe, Int.reducePow, Nat.reducePow, Int.reduceMul, Int.reduceNeg, isB_i, isB_b, isB_y, isBv_i, isBv_b, eqCells_t, TT]
  refine call_frame (p2) [] rfl rfl trivial rfl rfl ?_
  rintro _ _ ⟨rfl, rfl⟩
  simp (maxSteps := 4000000) only [Try.results10, ids_bsC, ren_bsC, noRo_bsC, plain_bsC, lt_bsC, ids_byte, ren_byte, noRo_byte, plain_byte, lt_byte, XX, Nat.reduceBEq, Nat.reduceLT, Nat.reduceAdd, Nat.reduceMul, Nat.reduceSub, Nat.reduceLeDiff, Nat.reduceEqDiff, Int.reduceToNat, Int.reduceLT, Int.reduceLE, Int.reduceAdd, Int.reduceSub, Int.reduceEq, reduceIte, Nat.reduceBNe, Int.reducePow, Nat.reducePow, Int.reduceMul, Int.reduceNeg, isB_i, isB_b, isB_y, isBv_i, isBv_b, eqCells_t, TT]
  have m2 : min 2 (8 + l.length - 2) = 2 := by omega
  have t2 : (bsC S2).take 2 = bsC S2 := List.take_of_length_le (by simp; omega)
  have l2' : (bsC S2).length = 2 := by simp [l2]
  simp (maxSteps := 4000000) only [Try.results10, B2.at_, lt2, m2, t2, l2', maskL_nil, unL_nil, List.append_assoc, List.getElem?_append_left, List.getElem?_append_right, List.length_append, List.length_set, List.set_append_left, gset, List.getElem?_set_ne, Nat.add_sub_cancel_left, Nat.sub_self, Nat.le_refl, Nat.le_add_right, List.replicate_one, List.flatten_cons, List.flatten_nil, rep_flat, XX, Nat.reduceBEq, Nat.reduceLT, Nat.reduceAdd, Nat.reduceMul, Nat.reduceSub, Nat.reduceLeDiff, Nat.reduceEqDiff, Int.reduceToNat, Int.reduceLT, Int.reduceLE, Int.reduceAdd, Int.reduceSub, Int.reduceEq, reduceIte, Nat.reduceBNe, Int.reducePow, Nat.reducePow, Int.reduceMul, Int.reduceNeg, isB_i, isB_b, isB_y, isBv_i, isBv_b, eqCells_t, TT]
  have e5 : List.take 2 (bsC (icL k c r l 0 ++ z2)) ++ (bsC S2 ++ List.drop 4 (bsC (icL k c r l 0 ++ z2))) = bsC (icL k c r l x ++ z2) := by
    rw [← eA, ← eB]
    simp
  rw [e5]
  have nX := icL_len k c r l x
  refine ⟨by simp [nA]; omega, w2, z2, true, by rw [nX], ⟨?_, fun _ => rfl⟩⟩
  rw [List.getElem?_append_left (by simpa using lt2), gset, B2.at_]; rfl

theorem iencA_spec (k c : Int) (r : Nat) (l sp : List UInt8) (cp : Nat) (hr : r < 4294967296) : Spec cx.P 10 [.agg (icC k c r (roB l sp cp))] [] (resB (iencR k c r l).1 (iencR k c r l).2) := by
  unfold iencR
  by_cases h : rightB k = false
  · rw [if_pos h]; exact resB_nil (iencK_spec k c r _ h)
  rw [if_neg h]
  have h : rightB k = true := by simpa using h
  by_cases hc : c < 0 ∨ 255 < c
  · rw [if_pos hc]; exact resB_nil (iencC_spec k c r _ h hc)
  rw [if_neg hc]
  obtain ⟨b, rfl⟩ : ∃ b : Nat, c = b := ⟨c.toNat, by omega⟩
  have hk := right_lt h
  obtain ⟨a, rfl⟩ : ∃ a : Nat, k = a := ⟨k.toNat, by omega⟩
  by_cases hl : 1472 < l.length
  · rw [if_pos hl]; exact resB_nil (iencL_spec a b r l sp cp h (by omega) hl)
  rw [if_neg hl]
  exact ienc_spec a b r l sp cp h (by omega) hr (by omega)
theorem riencA_spec (k c : Int) (r : Nat) (l sp : List UInt8) (cp : Nat) (hr : r < 4294967296) : Spec cx.P 12 [.agg (icC k c r (roB l sp cp))] [] (resB (iencR k c r l).1 (iencR k c r l).2) := by
  unfold iencR
  by_cases h : rightB k = false
  · rw [if_pos h]; exact resB_nil (riencK_spec k c r _ h)
  rw [if_neg h]
  have h : rightB k = true := by simpa using h
  by_cases hc : c < 0 ∨ 255 < c
  · rw [if_pos hc]; exact resB_nil (riencC_spec k c r _ h hc)
  rw [if_neg hc]
  obtain ⟨b, rfl⟩ : ∃ b : Nat, c = b := ⟨c.toNat, by omega⟩
  have hk := right_lt h
  obtain ⟨a, rfl⟩ : ∃ a : Nat, k = a := ⟨k.toNat, by omega⟩
  by_cases hl : 1472 < l.length
  · rw [if_pos hl]; exact resB_nil (riencL_spec a b r l sp cp h (by omega) hl)
  rw [if_neg hl]
  exact rienc_spec a b r l sp cp h (by omega) hr (by omega)

end Go.Proofs.Ytfpjabhlfjkhfaa.Sx
