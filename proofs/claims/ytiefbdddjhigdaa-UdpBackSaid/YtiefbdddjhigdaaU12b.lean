/- The symbolic executor, at work: datagrams are laid. No condition. -/
import Derived.Test.YtiefbdddjhigdaaU12a
namespace Go.Proofs.Ytiefbdddjhigdaa.Sx
open Go
set_option linter.unusedSimpArgs false
set_option linter.unusedVariables false
set_option linter.unusedSectionVars false
set_option maxRecDepth 10000
set_option maxHeartbeats 1000000

theorem isum_le (l : List UInt8) : isum l ≤ 65535 := by unfold isum; omega

/-- The sum as it is laid. -/
def usum (src dst s d : Nat) (l : List UInt8) : Nat := if isum (overL src dst (udpL s d l 0)) = 0 then 65535 else isum (overL src dst (udpL s d l 0))
theorem usum_lt (src dst s d : Nat) (l : List UInt8) : usum src dst s d l < 65536 := by
  have := isum_le (overL src dst (udpL s d l 0))
  unfold usum
  split <;> omega
/-- What laying comes to: the bytes, the error. -/
def uencR (src dst : Nat) (s d : Int) (l : List UInt8) : List UInt8 × Int :=
  if s < 0 ∨ 65535 < s ∨ d < 0 ∨ 65535 < d then ([], 1) else if d = 0 then ([], 120) else if 1472 < l.length then ([], 2) else (udpL s.toNat d.toNat l (usum src dst s.toNat d.toNat l), 0)

abbrev noC : SC := .v (.slice none 0 0)

theorem arg_cases {s d : Int} (h : s < 0 ∨ 65535 < s ∨ d < 0 ∨ 65535 < d) : (decide (s < 0) = true) ∨ (decide (s < 0) = false ∧ decide (65535 < s) = true) ∨ (decide (s < 0) = false ∧ decide (65535 < s) = false ∧ decide (d < 0) = true) ∨ (decide (s < 0) = false ∧ decide (65535 < s) = false ∧ decide (d < 0) = false ∧ decide (65535 < d) = true) := by
  simp only [decide_eq_true_eq, decide_eq_false_iff_not]
  omega

theorem ruencA_spec (src dst : Nat) (s d : Int) (x : SC) (h : s < 0 ∨ 65535 < s ∨ d < 0 ∨ 65535 < d) : Spec cx.P 8 [.c (i32 src), .c (i32 dst), .agg (udpC s d x)] [] fun t _ => t.plain = true ∧ t = .tup [(false, [noC]), (false, [i64 1])] := by
  refine spec_of_X cx_ok Try.func8 rfl (by kernel_rfl) (by kernel_rfl) (Nat.le_of_ble_eq_true rfl) 400 10 ?_
  simp (maxSteps := 4000000) only [Try.results8, XX, Nat.reduceBEq, Nat.reduceLT, Nat.reduceAdd, Nat.reduceMul, Nat.reduceSub, Nat.reduceLeDiff, Nat.reduceEqDiff, Int.reduceToNat, Int.reduceLT, Int.reduceLE, Int.reduceAdd, Int.reduceSub, Int.reduceEq, reduceIte, Nat.reduceBNe, Int.reducePow, Nat.reducePow, Int.reduceMul, Int.reduceNeg, isB_i, isB_b, isB_y, isBv_i, isBv_b, eqCells_t, TT]
  rcases arg_cases h with q1 | ⟨q1, q2⟩ | ⟨q1, q2, q3⟩ | ⟨q1, q2, q3, q4⟩
  · simp (maxSteps := 4000000) only [Try.results8, q1, XX, Nat.reduceBEq, Nat.reduceLT, Nat.reduceAdd, Nat.reduceMul, Nat.reduceSub, Nat.reduceLeDiff, Nat.reduceEqDiff, Int.reduceToNat, Int.reduceLT, Int.reduceLE, Int.reduceAdd, Int.reduceSub, Int.reduceEq, reduceIte, Nat.reduceBNe, Int.reducePow, Nat.reducePow, Int.reduceMul, Int.reduceNeg, isB_i, isB_b, isB_y, isBv_i, isBv_b, eqCells_t, TT]
  · simp (maxSteps := 4000000) only [Try.results8, q1, q2, XX, Nat.reduceBEq, Nat.reduceLT, Nat.reduceAdd, Nat.reduceMul, Nat.reduceSub, Nat.reduceLeDiff, Nat.reduceEqDiff, Int.reduceToNat, Int.reduceLT, Int.reduceLE, Int.reduceAdd, Int.reduceSub, Int.reduceEq, reduceIte, Nat.reduceBNe, Int.reducePow, Nat.reducePow, Int.reduceMul, Int.reduceNeg, isB_i, isB_b, isB_y, isBv_i, isBv_b, eqCells_t, TT]
  · simp (maxSteps := 4000000) only [Try.results8, q1, q2, q3, XX, Nat.reduceBEq, Nat.reduceLT, Nat.reduceAdd, Nat.reduceMul, Nat.reduceSub, Nat.reduceLeDiff, Nat.reduceEqDiff, Int.reduceToNat, Int.reduceLT, Int.reduceLE, Int.reduceAdd, Int.reduceSub, Int.reduceEq, reduceIte, Nat.reduceBNe, Int.reducePow, Nat.reducePow, Int.reduceMul, Int.reduceNeg, isB_i, isB_b, isB_y, isBv_i, isBv_b, eqCells_t, TT]
  · simp (maxSteps := 4000000) only [Try.results8, q1, q2, q3, q4, XX, Nat.reduceBEq, Nat.reduceLT, Nat.reduceAdd, Nat.reduceMul, Nat.reduceSub, Nat.reduceLeDiff, Nat.reduceEqDiff, Int.reduceToNat, Int.reduceLT, Int.reduceLE, Int.reduceAdd, Int.reduceSub, Int.reduceEq, reduceIte, Nat.reduceBNe, Int.reducePow, Nat.reducePow, Int.reduceMul, Int.reduceNeg, isB_i, isB_b, isB_y, isBv_i, isBv_b, eqCells_t, TT]
theorem uencA_spec (src dst : Nat) (s d : Int) (x : SC) (h : s < 0 ∨ 65535 < s ∨ d < 0 ∨ 65535 < d) : Spec cx.P 10 [.c (i32 src), .c (i32 dst), .agg (udpC s d x)] [] fun t _ => t.plain = true ∧ t = .tup [(false, [noC]), (false, [i64 1])] := by
  refine spec_of_X cx_ok Try.func10 rfl (by kernel_rfl) (by kernel_rfl) (Nat.le_of_ble_eq_true rfl) 400 10 ?_
  simp (maxSteps := 4000000) only [Try.results10, XX, Nat.reduceBEq, Nat.reduceLT, Nat.reduceAdd, Nat.reduceMul, Nat.reduceSub, Nat.reduceLeDiff, Nat.reduceEqDiff, Int.reduceToNat, Int.reduceLT, Int.reduceLE, Int.reduceAdd, Int.reduceSub, Int.reduceEq, reduceIte, Nat.reduceBNe, Int.reducePow, Nat.reducePow, Int.reduceMul, Int.reduceNeg, isB_i, isB_b, isB_y, isBv_i, isBv_b, eqCells_t, TT]
  rcases arg_cases h with q1 | ⟨q1, q2⟩ | ⟨q1, q2, q3⟩ | ⟨q1, q2, q3, q4⟩
  · simp (maxSteps := 4000000) only [Try.results10, q1, XX, Nat.reduceBEq, Nat.reduceLT, Nat.reduceAdd, Nat.reduceMul, Nat.reduceSub, Nat.reduceLeDiff, Nat.reduceEqDiff, Int.reduceToNat, Int.reduceLT, Int.reduceLE, Int.reduceAdd, Int.reduceSub, Int.reduceEq, reduceIte, Nat.reduceBNe, Int.reducePow, Nat.reducePow, Int.reduceMul, Int.reduceNeg, isB_i, isB_b, isB_y, isBv_i, isBv_b, eqCells_t, TT]
  · simp (maxSteps := 4000000) only [Try.results10, q1, q2, XX, Nat.reduceBEq, Nat.reduceLT, Nat.reduceAdd, Nat.reduceMul, Nat.reduceSub, Nat.reduceLeDiff, Nat.reduceEqDiff, Int.reduceToNat, Int.reduceLT, Int.reduceLE, Int.reduceAdd, Int.reduceSub, Int.reduceEq, reduceIte, Nat.reduceBNe, Int.reducePow, Nat.reducePow, Int.reduceMul, Int.reduceNeg, isB_i, isB_b, isB_y, isBv_i, isBv_b, eqCells_t, TT]
  · simp (maxSteps := 4000000) only [Try.results10, q1, q2, q3, XX, Nat.reduceBEq, Nat.reduceLT, Nat.reduceAdd, Nat.reduceMul, Nat.reduceSub, Nat.reduceLeDiff, Nat.reduceEqDiff, Int.reduceToNat, Int.reduceLT, Int.reduceLE, Int.reduceAdd, Int.reduceSub, Int.reduceEq, reduceIte, Nat.reduceBNe, Int.reducePow, Nat.reducePow, Int.reduceMul, Int.reduceNeg, isB_i, isB_b, isB_y, isBv_i, isBv_b, eqCells_t, TT]
  · simp (maxSteps := 4000000) only [Try.results10, q1, q2, q3, q4, XX, Nat.reduceBEq, Nat.reduceLT, Nat.reduceAdd, Nat.reduceMul, Nat.reduceSub, Nat.reduceLeDiff, Nat.reduceEqDiff, Int.reduceToNat, Int.reduceLT, Int.reduceLE, Int.reduceAdd, Int.reduceSub, Int.reduceEq, reduceIte, Nat.reduceBNe, Int.reducePow, Nat.reducePow, Int.reduceMul, Int.reduceNeg, isB_i, isB_b, isB_y, isBv_i, isBv_b, eqCells_t, TT]

section
variable (src dst s d : Nat) (hs : s < 65536) (hd : d < 65536)
include hs hd
theorem nA : decide ((s : Int) < 0) = false ∧ decide (65535 < (s : Int)) = false ∧ decide ((d : Int) < 0) = false ∧ decide (65535 < (d : Int)) = false := by
  simp only [decide_eq_false_iff_not]; omega

theorem ruencZ_spec (x : SC) (h0 : d = 0) : Spec cx.P 8 [.c (i32 src), .c (i32 dst), .agg (udpC s d x)] [] fun t _ => t.plain = true ∧ t = .tup [(false, [noC]), (false, [i64 120])] := by
  obtain ⟨q1, q2, q3, q4⟩ := nA s d hs hd
  have q5 : decide ((d : Int) = 0) = true := by simp only [decide_eq_true_eq]; omega
  refine spec_of_X cx_ok Try.func8 rfl (by kernel_rfl) (by kernel_rfl) (Nat.le_of_ble_eq_true rfl) 400 10 ?_
  simp (maxSteps := 4000000) only [Try.results8, XX, Nat.reduceBEq, Nat.reduceLT, Nat.reduceAdd, Nat.reduceMul, Nat.reduceSub, Nat.reduceLeDiff, Nat.reduceEqDiff, Int.reduceToNat, Int.reduceLT, Int.reduceLE, Int.reduceAdd, Int.reduceSub, Int.reduceEq, reduceIte, Nat.reduceBNe, Int.reducePow, Nat.reducePow, Int.reduceMul, Int.reduceNeg, isB_i, isB_b, isB_y, isBv_i, isBv_b, eqCells_t, TT]
  simp (maxSteps := 4000000) only [Try.results8, q1, q2, q3, q4, q5, XX, Nat.reduceBEq, Nat.reduceLT, Nat.reduceAdd, Nat.reduceMul, Nat.reduceSub, Nat.reduceLeDiff, Nat.reduceEqDiff, Int.reduceToNat, Int.reduceLT, Int.reduceLE, Int.reduceAdd, Int.reduceSub, Int.reduceEq, reduceIte, Nat.reduceBNe, Int.reducePow, Nat.reducePow, Int.reduceMul, Int.reduceNeg, isB_i, isB_b, isB_y, isBv_i, isBv_b, eqCells_t, TT]
theorem uencZ_spec (x : SC) (h0 : d = 0) : Spec cx.P 10 [.c (i32 src), .c (i32 dst), .agg (udpC s d x)] [] fun t _ => t.plain = true ∧ t = .tup [(false, [noC]), (false, [i64 120])] := by
  obtain ⟨q1, q2, q3, q4⟩ := nA s d hs hd
  have q5 : decide ((d : Int) = 0) = true := by simp only [decide_eq_true_eq]; omega
  refine spec_of_X cx_ok Try.func10 rfl (by kernel_rfl) (by kernel_rfl) (Nat.le_of_ble_eq_true rfl) 400 10 ?_
  simp (maxSteps := 4000000) only [Try.results10, XX, Nat.reduceBEq, Nat.reduceLT, Nat.reduceAdd, Nat.reduceMul, Nat.reduceSub, Nat.reduceLeDiff, Nat.reduceEqDiff, Int.reduceToNat, Int.reduceLT, Int.reduceLE, Int.reduceAdd, Int.reduceSub, Int.reduceEq, reduceIte, Nat.reduceBNe, Int.reducePow, Nat.reducePow, Int.reduceMul, Int.reduceNeg, isB_i, isB_b, isB_y, isBv_i, isBv_b, eqCells_t, TT]
  simp (maxSteps := 4000000) only [Try.results10, q1, q2, q3, q4, q5, XX, Nat.reduceBEq, Nat.reduceLT, Nat.reduceAdd, Nat.reduceMul, Nat.reduceSub, Nat.reduceLeDiff, Nat.reduceEqDiff, Int.reduceToNat, Int.reduceLT, Int.reduceLE, Int.reduceAdd, Int.reduceSub, Int.reduceEq, reduceIte, Nat.reduceBNe, Int.reducePow, Nat.reducePow, Int.reduceMul, Int.reduceNeg, isB_i, isB_b, isB_y, isBv_i, isBv_b, eqCells_t, TT]
theorem ruencL_spec (l sp : List UInt8) (c : Nat) (h0 : d ≠ 0) (hl : 1472 < l.length) : Spec cx.P 8 [.c (i32 src), .c (i32 dst), .agg (udpC s d (roB l sp c))] [] fun t _ => t.plain = true ∧ t = .tup [(false, [noC]), (false, [i64 2])] := by
  obtain ⟨q1, q2, q3, q4⟩ := nA s d hs hd
  have q5 : decide ((d : Int) = 0) = false := by simp only [decide_eq_false_iff_not]; omega
  have q6 : decide (1472 < (l.length : Int)) = true := by simp only [decide_eq_true_eq]; omega
  refine spec_of_X cx_ok Try.func8 rfl (by kernel_rfl) (by kernel_rfl) (Nat.le_of_ble_eq_true rfl) 400 10 ?_
  simp (maxSteps := 4000000) only [Try.results8, XX, Nat.reduceBEq, Nat.reduceLT, Nat.reduceAdd, Nat.reduceMul, Nat.reduceSub, Nat.reduceLeDiff, Nat.reduceEqDiff, Int.reduceToNat, Int.reduceLT, Int.reduceLE, Int.reduceAdd, Int.reduceSub, Int.reduceEq, reduceIte, Nat.reduceBNe, Int.reducePow, Nat.reducePow, Int.reduceMul, Int.reduceNeg, isB_i, isB_b, isB_y, isBv_i, isBv_b, eqCells_t, TT]
  simp (maxSteps := 4000000) only [Try.results8, q1, q2, q3, q4, q5, q6, XX, Nat.reduceBEq, Nat.reduceLT, Nat.reduceAdd, Nat.reduceMul, Nat.reduceSub, Nat.reduceLeDiff, Nat.reduceEqDiff, Int.reduceToNat, Int.reduceLT, Int.reduceLE, Int.reduceAdd, Int.reduceSub, Int.reduceEq, reduceIte, Nat.reduceBNe, Int.reducePow, Nat.reducePow, Int.reduceMul, Int.reduceNeg, isB_i, isB_b, isB_y, isBv_i, isBv_b, eqCells_t, TT]
theorem uencL_spec (l sp : List UInt8) (c : Nat) (h0 : d ≠ 0) (hl : 1472 < l.length) : Spec cx.P 10 [.c (i32 src), .c (i32 dst), .agg (udpC s d (roB l sp c))] [] fun t _ => t.plain = true ∧ t = .tup [(false, [noC]), (false, [i64 2])] := by
  obtain ⟨q1, q2, q3, q4⟩ := nA s d hs hd
  have q5 : decide ((d : Int) = 0) = false := by simp only [decide_eq_false_iff_not]; omega
  have q6 : decide (1472 < (l.length : Int)) = true := by simp only [decide_eq_true_eq]; omega
  refine spec_of_X cx_ok Try.func10 rfl (by kernel_rfl) (by kernel_rfl) (Nat.le_of_ble_eq_true rfl) 400 10 ?_
  simp (maxSteps := 4000000) only [Try.results10, XX, Nat.reduceBEq, Nat.reduceLT, Nat.reduceAdd, Nat.reduceMul, Nat.reduceSub, Nat.reduceLeDiff, Nat.reduceEqDiff, Int.reduceToNat, Int.reduceLT, Int.reduceLE, Int.reduceAdd, Int.reduceSub, Int.reduceEq, reduceIte, Nat.reduceBNe, Int.reducePow, Nat.reducePow, Int.reduceMul, Int.reduceNeg, isB_i, isB_b, isB_y, isBv_i, isBv_b, eqCells_t, TT]
  simp (maxSteps := 4000000) only [Try.results10, q1, q2, q3, q4, q5, q6, XX, Nat.reduceBEq, Nat.reduceLT, Nat.reduceAdd, Nat.reduceMul, Nat.reduceSub, Nat.reduceLeDiff, Nat.reduceEqDiff, Int.reduceToNat, Int.reduceLT, Int.reduceLE, Int.reduceAdd, Int.reduceSub, Int.reduceEq, reduceIte, Nat.reduceBNe, Int.reducePow, Nat.reducePow, Int.reduceMul, Int.reduceNeg, isB_i, isB_b, isB_y, isBv_i, isBv_b, eqCells_t, TT]

theorem ruenc_spec (l sp : List UInt8) (c : Nat) (hsrc : src < 4294967296) (hdst : dst < 4294967296) (h0 : d ≠ 0) (hl : l.length ≤ 1472) : Spec cx.P 8 [.c (i32 src), .c (i32 dst), .agg (udpC s d (roB l sp c))] [] (resB (udpL s d l (usum src dst s d l)) 0) := by
  refine resB_of ?_
  obtain ⟨q1, q2, q3, q4⟩ := nA s d hs hd
  have q5 : decide ((d : Int) = 0) = false := by simp only [decide_eq_false_iff_not]; omega
  have q6 : decide (1472 < (l.length : Int)) = false := by simp only [decide_eq_false_iff_not]; omega
  have n0 := udpL_len s d l 0
  have p0 := rlaid_spec s d l sp c 0 hs hd (by omega) hl
  have p1 := rlaid_spec s d l sp c (usum src dst s d l) hs hd (usum_lt ..) hl
  have p2 := fun z => rusum_spec src dst (udpL s d l 0) z ((udpL s d l 0).length + z.length) hsrc hdst (by omega)
  have le := isum_le (overL src dst (udpL s d l 0))
  generalize hx : isum (overL src dst (udpL s d l 0)) = x at p2 le
  have hu : usum src dst s d l = if x = 0 then 65535 else x := by unfold usum; rw [hx]
  generalize udpL s d l 0 = O at n0 p0 p2
  generalize udpL s d l (usum src dst s d l) = R at p1 ⊢
  refine spec_of_X cx_ok Try.func8 rfl (by kernel_rfl) (by kernel_rfl) (Nat.le_of_ble_eq_true rfl) 400 10 ?_
  simp (maxSteps := 4000000) only [Try.results8, XX, Nat.reduceBEq, Nat.reduceLT, Nat.reduceAdd, Nat.reduceMul, Nat.reduceSub, Nat.reduceLeDiff, Nat.reduceEqDiff, Int.reduceToNat, Int.reduceLT, Int.reduceLE, Int.reduceAdd, Int.reduceSub, Int.reduceEq, reduceIte, Nat.reduceBNe, Int.reducePow, Nat.reducePow, Int.reduceMul, Int.reduceNeg, isB_i, isB_b, isB_y, isBv_i, isBv_b, eqCells_t, TT]
  simp (maxSteps := 4000000) only [Try.results8, q1, q2, q3, q4, q5, q6, XX, Nat.reduceBEq, Nat.reduceLT, Nat.reduceAdd, Nat.reduceMul, Nat.reduceSub, Nat.reduceLeDiff, Nat.reduceEqDiff, Int.reduceToNat, Int.reduceLT, Int.reduceLE, Int.reduceAdd, Int.reduceSub, Int.reduceEq, reduceIte, Nat.reduceBNe, Int.reducePow, Nat.reducePow, Int.reduceMul, Int.reduceNeg, isB_i, isB_b, isB_y, isBv_i, isBv_b, eqCells_t, TT]
  refine call_fz [.agg (udpC s d (roB l sp c)), .c (i64 0)] p0 (fun t h' h => by obtain ⟨z, o, rfl, rfl, _⟩ := h; exact ⟨rfl, by simp only [XX, Nat.reduceBEq, Nat.reduceLT, Nat.reduceAdd, Nat.reduceMul, Nat.reduceSub, Nat.reduceLeDiff, Nat.reduceEqDiff, Int.reduceToNat, Int.reduceLT, Int.reduceLE, Int.reduceAdd, Int.reduceSub, Int.reduceEq, reduceIte, Nat.reduceBNe, Int.reducePow, Nat.reducePow, Int.reduceMul, Int.reduceNeg, isB_i, isB_b, isB_y, isBv_i, isBv_b, eqCells_t, TT, ids_bsC, ren_bsC, noRo_bsC, plain_bsC, lt_bsC, ids_byte, ren_byte, noRo_byte, plain_byte, lt_byte]⟩) ⟨.inl ⟨rfl, rfl⟩, .inl ⟨rfl, rfl⟩, trivial⟩ ?_
  rintro _ _ ⟨z, o, rfl, rfl, rfl⟩
  simp (maxSteps := 4000000) only [Try.results8, ids_bsC, ren_bsC, noRo_bsC, plain_bsC, lt_bsC, ids_byte, ren_byte, noRo_byte, plain_byte, lt_byte, XX, Nat.reduceBEq, Nat.reduceLT, Nat.reduceAdd, Nat.reduceMul, Nat.reduceSub, Nat.reduceLeDiff, Nat.reduceEqDiff, Int.reduceToNat, Int.reduceLT, Int.reduceLE, Int.reduceAdd, Int.reduceSub, Int.reduceEq, reduceIte, Nat.reduceBNe, Int.reducePow, Nat.reducePow, Int.reduceMul, Int.reduceNeg, isB_i, isB_b, isB_y, isBv_i, isBv_b, eqCells_t, TT]
  refine call_pureF [.c (i32 src), .c (i32 dst), .c (roB O z (O.length + z.length))] (p2 z) ⟨.inl ⟨rfl, rfl⟩, .inl ⟨rfl, rfl⟩, fz_c (fz_sl rfl rfl rfl), trivial⟩ ?_
  rintro _ rfl
  have e1 : IntKind.i64.wrap (x : Int) = (x : Int) := by rw [w64] <;> omega
  by_cases h : x = 0
  · have q7 : decide ((x : Int) = 0) = true := by simp only [decide_eq_true_eq]; omega
    rw [if_pos h] at hu
    rw [hu] at p1
    simp (maxSteps := 4000000) only [Try.results8, e1, q7, XX, Nat.reduceBEq, Nat.reduceLT, Nat.reduceAdd, Nat.reduceMul, Nat.reduceSub, Nat.reduceLeDiff, Nat.reduceEqDiff, Int.reduceToNat, Int.reduceLT, Int.reduceLE, Int.reduceAdd, Int.reduceSub, Int.reduceEq, reduceIte, Nat.reduceBNe, Int.reducePow, Nat.reducePow, Int.reduceMul, Int.reduceNeg, isB_i, isB_b, isB_y, isBv_i, isBv_b, eqCells_t, TT]
    refine call_fz [.agg (udpC s d (roB l sp c)), .c (i64 (65535 : Nat))] p1 (fun t h' h => by obtain ⟨z, o, rfl, rfl, _⟩ := h; exact ⟨rfl, by simp only [XX, Nat.reduceBEq, Nat.reduceLT, Nat.reduceAdd, Nat.reduceMul, Nat.reduceSub, Nat.reduceLeDiff, Nat.reduceEqDiff, Int.reduceToNat, Int.reduceLT, Int.reduceLE, Int.reduceAdd, Int.reduceSub, Int.reduceEq, reduceIte, Nat.reduceBNe, Int.reducePow, Nat.reducePow, Int.reduceMul, Int.reduceNeg, isB_i, isB_b, isB_y, isBv_i, isBv_b, eqCells_t, TT, ids_bsC, ren_bsC, noRo_bsC, plain_bsC, lt_bsC, ids_byte, ren_byte, noRo_byte, plain_byte, lt_byte]⟩) ⟨.inl ⟨rfl, rfl⟩, .inl ⟨rfl, rfl⟩, trivial⟩ ?_
    rintro _ _ ⟨z2, o, rfl, rfl, rfl⟩
    simp (maxSteps := 4000000) only [Try.results8, ids_bsC, ren_bsC, noRo_bsC, plain_bsC, lt_bsC, ids_byte, ren_byte, noRo_byte, plain_byte, lt_byte, XX, Nat.reduceBEq, Nat.reduceLT, Nat.reduceAdd, Nat.reduceMul, Nat.reduceSub, Nat.reduceLeDiff, Nat.reduceEqDiff, Int.reduceToNat, Int.reduceLT, Int.reduceLE, Int.reduceAdd, Int.reduceSub, Int.reduceEq, reduceIte, Nat.reduceBNe, Int.reducePow, Nat.reducePow, Int.reduceMul, Int.reduceNeg, isB_i, isB_b, isB_y, isBv_i, isBv_b, eqCells_t, TT]
    exact ⟨_, z2, true, rfl, rfl, fun _ => rfl⟩
  · have q7 : decide ((x : Int) = 0) = false := by simp only [decide_eq_false_iff_not]; omega
    rw [if_neg h] at hu
    rw [hu] at p1
    simp (maxSteps := 4000000) only [Try.results8, e1, q7, XX, Nat.reduceBEq, Nat.reduceLT, Nat.reduceAdd, Nat.reduceMul, Nat.reduceSub, Nat.reduceLeDiff, Nat.reduceEqDiff, Int.reduceToNat, Int.reduceLT, Int.reduceLE, Int.reduceAdd, Int.reduceSub, Int.reduceEq, reduceIte, Nat.reduceBNe, Int.reducePow, Nat.reducePow, Int.reduceMul, Int.reduceNeg, isB_i, isB_b, isB_y, isBv_i, isBv_b, eqCells_t, TT]
    refine call_fz [.agg (udpC s d (roB l sp c)), .c (i64 x)] p1 (fun t h' h => by obtain ⟨z, o, rfl, rfl, _⟩ := h; exact ⟨rfl, by simp only [XX, Nat.reduceBEq, Nat.reduceLT, Nat.reduceAdd, Nat.reduceMul, Nat.reduceSub, Nat.reduceLeDiff, Nat.reduceEqDiff, Int.reduceToNat, Int.reduceLT, Int.reduceLE, Int.reduceAdd, Int.reduceSub, Int.reduceEq, reduceIte, Nat.reduceBNe, Int.reducePow, Nat.reducePow, Int.reduceMul, Int.reduceNeg, isB_i, isB_b, isB_y, isBv_i, isBv_b, eqCells_t, TT, ids_bsC, ren_bsC, noRo_bsC, plain_bsC, lt_bsC, ids_byte, ren_byte, noRo_byte, plain_byte, lt_byte]⟩) ⟨.inl ⟨rfl, rfl⟩, .inl ⟨rfl, rfl⟩, trivial⟩ ?_
    rintro _ _ ⟨z2, o, rfl, rfl, rfl⟩
    simp (maxSteps := 4000000) only [Try.results8, ids_bsC, ren_bsC, noRo_bsC, plain_bsC, lt_bsC, ids_byte, ren_byte, noRo_byte, plain_byte, lt_byte, XX, Nat.reduceBEq, Nat.reduceLT, Nat.reduceAdd, Nat.reduceMul, Nat.reduceSub, Nat.reduceLeDiff, Nat.reduceEqDiff, Int.reduceToNat, Int.reduceLT, Int.reduceLE, Int.reduceAdd, Int.reduceSub, Int.reduceEq, reduceIte, Nat.reduceBNe, Int.reducePow, Nat.reducePow, Int.reduceMul, Int.reduceNeg, isB_i, isB_b, isB_y, isBv_i, isBv_b, eqCells_t, TT]
    exact ⟨_, z2, true, rfl, rfl, fun _ => rfl⟩
end

end Go.Proofs.Ytiefbdddjhigdaa.Sx
