/- The symbolic executor, at work: datagrams are read by the reference. No condition. -/
import Derived.Test.YtiefbdddjhigdaaU12e
namespace Go.Proofs.Ytiefbdddjhigdaa.Sx
open Go
set_option linter.unusedSimpArgs false
set_option linter.unusedVariables false
set_option linter.unusedSectionVars false
set_option maxRecDepth 10000
set_option maxHeartbeats 2000000

theorem eight {l : List UInt8} (h : 8 ≤ l.length) : ∃ a0 a1 a2 a3 a4 a5 a6 a7 t, l = a0 :: a1 :: a2 :: a3 :: a4 :: a5 :: a6 :: a7 :: t := by
  match l, h with
  | a0 :: a1 :: a2 :: a3 :: a4 :: a5 :: a6 :: a7 :: t, _ => exact ⟨_, _, _, _, _, _, _, _, _, rfl⟩
theorem two_mul (a b : UInt8) : IntKind.i64.wrap (IntKind.i64.wrap (IntKind.i64.wrap (a.toNat : Int) * 256) + IntKind.i64.wrap (b.toNat : Int)) = ((a.toNat * 256 + b.toNat : Nat) : Int) := by
  have := a.toNat_lt
  have := b.toNat_lt
  rw [w64 (x := (a.toNat : Int)) (by omega) (by omega), w64 (x := (b.toNat : Int)) (by omega) (by omega), w64 (x := (a.toNat : Int) * 256) (by omega) (by omega), w64 (by omega) (by omega)]
  omega

section
variable (src dst : Nat) (l sp : List UInt8) (c : Nat) (hsrc : src < 4294967296) (hdst : dst < 4294967296) (h8 : 8 ≤ l.length) (hc : l.length ≤ c) (hl : l.length ≤ 140737488355328)
include h8 hc hl
theorem rudecL_spec (h : n16 l 4 < 8 ∨ l.length < n16 l 4) : Spec cx.P 14 [.c (i32 src), .c (i32 dst), .c (roB l sp c)] [] fun t _ => t.plain = true ∧ t = .tup [(true, udpC 0 0 noC), (false, [i64 92])] := by
  have q1 : decide ((l.length : Int) < 8) = false := by simp only [decide_eq_false_iff_not]; omega
  obtain ⟨a0, a1, a2, a3, a4, a5, a6, a7, t, hll⟩ := eight h8
  have eL : bsR (l ++ sp) = byteR a0 :: byteR a1 :: byteR a2 :: byteR a3 :: byteR a4 :: byteR a5 :: byteR a6 :: byteR a7 :: bsR (t ++ sp) := by rw [hll]; rfl
  have e4 : a4.toNat * 256 + a5.toNat = n16 l 4 := by rw [hll]; rfl
  have eb : ∀ b : UInt8, (byteR b).toSC = SC.v (.int .u8 b.toNat) := fun _ => rfl
  refine spec_of_X cx_ok Try.func14 rfl (by kernel_rfl) (by kernel_rfl) (Nat.le_of_ble_eq_true rfl) 400 11 ?_
  simp (maxSteps := 4000000) only [Try.results14, XX, Nat.reduceBEq, Nat.reduceLT, Nat.reduceAdd, Nat.reduceMul, Nat.reduceSub, Nat.reduceLeDiff, Nat.reduceEqDiff, Int.reduceToNat, Int.reduceLT, Int.reduceLE, Int.reduceAdd, Int.reduceSub, Int.reduceEq, reduceIte, Nat.reduceBNe, Int.reducePow, Nat.reducePow, Int.reduceMul, Int.reduceNeg, isB_i, isB_b, isB_y, isBv_i, isBv_b, eqCells_t, TT]
  simp (maxSteps := 4000000) only [Try.results14, q1, XX, Nat.reduceBEq, Nat.reduceLT, Nat.reduceAdd, Nat.reduceMul, Nat.reduceSub, Nat.reduceLeDiff, Nat.reduceEqDiff, Int.reduceToNat, Int.reduceLT, Int.reduceLE, Int.reduceAdd, Int.reduceSub, Int.reduceEq, reduceIte, Nat.reduceBNe, Int.reducePow, Nat.reducePow, Int.reduceMul, Int.reduceNeg, isB_i, isB_b, isB_y, isBv_i, isBv_b, eqCells_t, TT]
  refine draw_of cx_ok (by kernel_rfl) 400 [] [(0, true), (1, true), (2, true), (3, true), (4, true), (5, true), (6, true), (7, true), (8, true), (9, true), (10, true)] (by kernel_rfl) rfl ?_
  simp (maxSteps := 4000000) only [Try.results14, eL, eb, two_mul, e4, XX, Nat.reduceBEq, Nat.reduceLT, Nat.reduceAdd, Nat.reduceMul, Nat.reduceSub, Nat.reduceLeDiff, Nat.reduceEqDiff, Int.reduceToNat, Int.reduceLT, Int.reduceLE, Int.reduceAdd, Int.reduceSub, Int.reduceEq, reduceIte, Nat.reduceBNe, Int.reducePow, Nat.reducePow, Int.reduceMul, Int.reduceNeg, isB_i, isB_b, isB_y, isBv_i, isBv_b, eqCells_t, TT]
  by_cases h' : n16 l 4 < 8
  · have q2 : decide ((n16 l 4 : Int) < 8) = true := by simp only [decide_eq_true_eq]; omega
    simp (maxSteps := 4000000) only [Try.results14, q2, XX, Nat.reduceBEq, Nat.reduceLT, Nat.reduceAdd, Nat.reduceMul, Nat.reduceSub, Nat.reduceLeDiff, Nat.reduceEqDiff, Int.reduceToNat, Int.reduceLT, Int.reduceLE, Int.reduceAdd, Int.reduceSub, Int.reduceEq, reduceIte, Nat.reduceBNe, Int.reducePow, Nat.reducePow, Int.reduceMul, Int.reduceNeg, isB_i, isB_b, isB_y, isBv_i, isBv_b, eqCells_t, TT]
    omega
  · have q2 : decide ((n16 l 4 : Int) < 8) = false := by simp only [decide_eq_false_iff_not]; omega
    have q3 : decide ((l.length : Int) < (n16 l 4 : Int)) = true := by simp only [decide_eq_true_eq]; omega
    simp (maxSteps := 4000000) only [Try.results14, q2, q3, XX, Nat.reduceBEq, Nat.reduceLT, Nat.reduceAdd, Nat.reduceMul, Nat.reduceSub, Nat.reduceLeDiff, Nat.reduceEqDiff, Int.reduceToNat, Int.reduceLT, Int.reduceLE, Int.reduceAdd, Int.reduceSub, Int.reduceEq, reduceIte, Nat.reduceBNe, Int.reducePow, Nat.reducePow, Int.reduceMul, Int.reduceNeg, isB_i, isB_b, isB_y, isBv_i, isBv_b, eqCells_t, TT]
    omega

include hsrc hdst in
theorem rudecV_spec (h4 : 8 ≤ n16 l 4) (h4' : n16 l 4 ≤ l.length) : Spec cx.P 14 [.c (i32 src), .c (i32 dst), .c (roB l sp c)] [] (resU (if n16 l 6 ≠ 0 ∧ isum (overL src dst (l.take (n16 l 4))) ≠ 0 then (0, 0, [], 93) else if n16 l 2 = 0 then (0, 0, [], 120) else (n16 l 0, n16 l 2, (l.take (n16 l 4)).drop 8, 0))) := by
  have q1 : decide ((l.length : Int) < 8) = false := by simp only [decide_eq_false_iff_not]; omega
  have q2 : decide ((n16 l 4 : Int) < 8) = false := by simp only [decide_eq_false_iff_not]; omega
  have q3 : decide ((l.length : Int) < (n16 l 4 : Int)) = false := by simp only [decide_eq_false_iff_not]; omega
  have lt4 := n16_lt l 4
  obtain ⟨a0, a1, a2, a3, a4, a5, a6, a7, t, hll⟩ := eight h8
  have eL : bsR (l ++ sp) = byteR a0 :: byteR a1 :: byteR a2 :: byteR a3 :: byteR a4 :: byteR a5 :: byteR a6 :: byteR a7 :: bsR (t ++ sp) := by rw [hll]; rfl
  have hlt : l.length = 8 + t.length := by rw [hll]; simp; omega
  have e0 : a0.toNat * 256 + a1.toNat = n16 l 0 := by rw [hll]; rfl
  have e2 : a2.toNat * 256 + a3.toNat = n16 l 2 := by rw [hll]; rfl
  have e4 : a4.toNat * 256 + a5.toNat = n16 l 4 := by rw [hll]; rfl
  have e6 : a6.toNat * 256 + a7.toNat = n16 l 6 := by rw [hll]; rfl
  have eb : ∀ b : UInt8, (byteR b).toSC = SC.v (.int .u8 b.toNat) := fun _ => rfl
  have eT : (l.take (n16 l 4)).length = n16 l 4 := by simp; omega
  have eR : bsR (l ++ sp) = bsR (l.take (n16 l 4) ++ (l.drop (n16 l 4) ++ sp)) := by rw [← List.append_assoc, List.take_append_drop]
  have p2 := rusum_spec src dst (l.take (n16 l 4)) (l.drop (n16 l 4) ++ sp) c hsrc hdst (by omega)
  have le := isum_le (overL src dst (l.take (n16 l 4)))
  unfold roB at p2
  rw [eT, ← eR, eL] at p2
  refine resU_raw ?_
  have eD : List.take (n16 l 4 - 8) (bsR (t ++ sp)) = bsR ((l.take (n16 l 4)).drop 8) := by
    have : bsR (t ++ sp) = List.drop 8 (bsR (l ++ sp)) := by rw [hll]; rfl
    rw [this, rs_drop, rs_take, ← List.drop_take, List.take_append_of_le_length h4']
  have eDl : ((l.take (n16 l 4)).drop 8).length = n16 l 4 - 8 := by simp; omega
  generalize hx : isum (overL src dst (l.take (n16 l 4))) = x at p2 le ⊢
  have c6 : (decide ((a6.toNat : Int) = 0) = false ∨ (decide ((a6.toNat : Int) = 0) = true ∧ decide ((a7.toNat : Int) = 0) = false)) ∨ (decide ((a6.toNat : Int) = 0) = true ∧ decide ((a7.toNat : Int) = 0) = true) := by
    simp only [decide_eq_true_eq, decide_eq_false_iff_not]; omega
  refine spec_of_X cx_ok Try.func14 rfl (by kernel_rfl) (by kernel_rfl) (Nat.le_of_ble_eq_true rfl) 400 11 ?_
  simp (maxSteps := 4000000) only [Try.results14, XX, Nat.reduceBEq, Nat.reduceLT, Nat.reduceAdd, Nat.reduceMul, Nat.reduceSub, Nat.reduceLeDiff, Nat.reduceEqDiff, Int.reduceToNat, Int.reduceLT, Int.reduceLE, Int.reduceAdd, Int.reduceSub, Int.reduceEq, reduceIte, Nat.reduceBNe, Int.reducePow, Nat.reducePow, Int.reduceMul, Int.reduceNeg, isB_i, isB_b, isB_y, isBv_i, isBv_b, eqCells_t, TT]
  simp (maxSteps := 4000000) only [Try.results14, q1, XX, Nat.reduceBEq, Nat.reduceLT, Nat.reduceAdd, Nat.reduceMul, Nat.reduceSub, Nat.reduceLeDiff, Nat.reduceEqDiff, Int.reduceToNat, Int.reduceLT, Int.reduceLE, Int.reduceAdd, Int.reduceSub, Int.reduceEq, reduceIte, Nat.reduceBNe, Int.reducePow, Nat.reducePow, Int.reduceMul, Int.reduceNeg, isB_i, isB_b, isB_y, isBv_i, isBv_b, eqCells_t, TT]
  refine draw_of cx_ok (by kernel_rfl) 400 [] [(0, true), (1, true), (2, true), (3, true), (4, true), (5, true), (6, true), (7, true), (8, true), (9, true), (10, true)] (by kernel_rfl) rfl ?_
  simp (maxSteps := 4000000) only [Try.results14, eL, eb, two_mul, e4, q2, q3, XX, Nat.reduceBEq, Nat.reduceLT, Nat.reduceAdd, Nat.reduceMul, Nat.reduceSub, Nat.reduceLeDiff, Nat.reduceEqDiff, Int.reduceToNat, Int.reduceLT, Int.reduceLE, Int.reduceAdd, Int.reduceSub, Int.reduceEq, reduceIte, Nat.reduceBNe, Int.reducePow, Nat.reducePow, Int.reduceMul, Int.reduceNeg, isB_i, isB_b, isB_y, isBv_i, isBv_b, eqCells_t, TT]
  refine ⟨by omega, by omega, by omega, by omega, ⟨by omega, by omega, by omega⟩, ?_⟩
  refine call_pureF [.c (i32 src), .c (i32 dst), .c (.ro (byteR a0 :: byteR a1 :: byteR a2 :: byteR a3 :: byteR a4 :: byteR a5 :: byteR a6 :: byteR a7 :: bsR (t ++ sp)) (n16 l 4) c)] p2 ⟨.inl ⟨rfl, rfl⟩, .inl ⟨rfl, rfl⟩, .inl ⟨rfl, rfl⟩, trivial⟩ ?_
  rintro _ rfl
  rcases c6 with (c6 | ⟨c6, c7⟩) | ⟨c6, c7⟩
  · have h6 : n16 l 6 ≠ 0 := by simp only [decide_eq_true_eq, decide_eq_false_iff_not] at c6; omega
    by_cases hx0 : x = 0
    · have q7 : decide ((x : Int) = 0) = true := by simp only [decide_eq_true_eq]; omega
      rw [if_neg (fun h => h.2 hx0)]
      simp (maxSteps := 4000000) only [Try.results14, eL, eb, c6, q7, XX, Nat.reduceBEq, Nat.reduceLT, Nat.reduceAdd, Nat.reduceMul, Nat.reduceSub, Nat.reduceLeDiff, Nat.reduceEqDiff, Int.reduceToNat, Int.reduceLT, Int.reduceLE, Int.reduceAdd, Int.reduceSub, Int.reduceEq, reduceIte, Nat.reduceBNe, Int.reducePow, Nat.reducePow, Int.reduceMul, Int.reduceNeg, isB_i, isB_b, isB_y, isBv_i, isBv_b, eqCells_t, TT]
      refine ⟨by omega, by omega, ?_⟩
      refine draw_of cx_ok (by kernel_rfl) 400 [] [(0, true), (1, true), (2, true), (3, true), (4, true), (5, true), (6, true), (7, true), (8, true), (9, true), (10, true), (11, true), (12, true), (13, true), (14, true), (15, true), (16, true), (17, true), (18, true), (19, true), (20, true), (21, false), (22, false)] (by kernel_rfl) rfl ?_
      simp (maxSteps := 4000000) only [Try.results14, eL, eb, two_mul, e0, e2, XX, Nat.reduceBEq, Nat.reduceLT, Nat.reduceAdd, Nat.reduceMul, Nat.reduceSub, Nat.reduceLeDiff, Nat.reduceEqDiff, Int.reduceToNat, Int.reduceLT, Int.reduceLE, Int.reduceAdd, Int.reduceSub, Int.reduceEq, reduceIte, Nat.reduceBNe, Int.reducePow, Nat.reducePow, Int.reduceMul, Int.reduceNeg, isB_i, isB_b, isB_y, isBv_i, isBv_b, eqCells_t, TT]
      refine ⟨by omega, by omega, by omega, by omega, by omega, by omega, by omega, by omega, ?_⟩
      by_cases h2 : n16 l 2 = 0
      · have q5 : decide ((n16 l 2 : Int) = 0) = true := by simp only [decide_eq_true_eq]; omega
        rw [if_pos h2]
        simp (maxSteps := 4000000) only [Try.results14, q5, XX, Nat.reduceBEq, Nat.reduceLT, Nat.reduceAdd, Nat.reduceMul, Nat.reduceSub, Nat.reduceLeDiff, Nat.reduceEqDiff, Int.reduceToNat, Int.reduceLT, Int.reduceLE, Int.reduceAdd, Int.reduceSub, Int.reduceEq, reduceIte, Nat.reduceBNe, Int.reducePow, Nat.reducePow, Int.reduceMul, Int.reduceNeg, isB_i, isB_b, isB_y, isBv_i, isBv_b, eqCells_t, TT]
        exact .inl ⟨rfl, rfl⟩
      · have q5 : decide ((n16 l 2 : Int) = 0) = false := by simp only [decide_eq_false_iff_not]; omega
        rw [if_neg h2]
        simp (maxSteps := 4000000) only [Try.results14, q5, XX, Nat.reduceBEq, Nat.reduceLT, Nat.reduceAdd, Nat.reduceMul, Nat.reduceSub, Nat.reduceLeDiff, Nat.reduceEqDiff, Int.reduceToNat, Int.reduceLT, Int.reduceLE, Int.reduceAdd, Int.reduceSub, Int.reduceEq, reduceIte, Nat.reduceBNe, Int.reducePow, Nat.reducePow, Int.reduceMul, Int.reduceNeg, isB_i, isB_b, isB_y, isBv_i, isBv_b, eqCells_t, TT]
        refine draw_of cx_ok (by kernel_rfl) 400 [] [(0, true), (2, true), (3, true), (4, true), (1, false), (5, false), (6, true), (7, false)] (by kernel_rfl) rfl ?_
        simp (maxSteps := 4000000) only [Try.results14, eL, eb, eD, bsR_toSC, bsC_len, eDl, XX, Nat.reduceBEq, Nat.reduceLT, Nat.reduceAdd, Nat.reduceMul, Nat.reduceSub, Nat.reduceLeDiff, Nat.reduceEqDiff, Int.reduceToNat, Int.reduceLT, Int.reduceLE, Int.reduceAdd, Int.reduceSub, Int.reduceEq, reduceIte, Nat.reduceBNe, Int.reducePow, Nat.reducePow, Int.reduceMul, Int.reduceNeg, isB_i, isB_b, isB_y, isBv_i, isBv_b, eqCells_t, TT]
        have tl : n16 l 4 - 8 ≤ (bsR (t ++ sp)).length := by simp; omega
        refine ⟨⟨by omega, by omega, by omega⟩, ⟨⟨by omega, by unfold maxLen; omega⟩, tl⟩, ?_⟩
        by_cases hn8 : n16 l 4 - 8 = 0
        · rw [hn8]
          refine xapp_room (by omega) ?_
          simp (maxSteps := 4000000) only [Try.results14, XX, Nat.reduceBEq, Nat.reduceLT, Nat.reduceAdd, Nat.reduceMul, Nat.reduceSub, Nat.reduceLeDiff, Nat.reduceEqDiff, Int.reduceToNat, Int.reduceLT, Int.reduceLE, Int.reduceAdd, Int.reduceSub, Int.reduceEq, reduceIte, Nat.reduceBNe, Int.reducePow, Nat.reducePow, Int.reduceMul, Int.reduceNeg, isB_i, isB_b, isB_y, isBv_i, isBv_b, eqCells_t, TT]
          exact .inl ⟨List.eq_nil_of_length_eq_zero (eDl.trans hn8), rfl⟩
        · refine xapp_grow (by omega) fun c3 hc3 _ => ?_
          obtain ⟨r3, rfl⟩ := Nat.exists_eq_add_of_le hc3
          simp (maxSteps := 4000000) only [Try.results14, Nat.add_sub_cancel_left, rep_flat, bsC_zeros, bs_app, XX, Nat.reduceBEq, Nat.reduceLT, Nat.reduceAdd, Nat.reduceMul, Nat.reduceSub, Nat.reduceLeDiff, Nat.reduceEqDiff, Int.reduceToNat, Int.reduceLT, Int.reduceLE, Int.reduceAdd, Int.reduceSub, Int.reduceEq, reduceIte, Nat.reduceBNe, Int.reducePow, Nat.reducePow, Int.reduceMul, Int.reduceNeg, isB_i, isB_b, isB_y, isBv_i, isBv_b, eqCells_t, TT]
          exact .inr ⟨2, List.replicate r3 0, true, by simp only [slB, eDl, List.length_replicate], ⟨rfl, fun _ => rfl⟩⟩
    · have q7 : decide ((x : Int) = 0) = false := by simp only [decide_eq_false_iff_not]; omega
      rw [if_pos ⟨h6, hx0⟩]
      simp (maxSteps := 4000000) only [Try.results14, eL, eb, c6, q7, XX, Nat.reduceBEq, Nat.reduceLT, Nat.reduceAdd, Nat.reduceMul, Nat.reduceSub, Nat.reduceLeDiff, Nat.reduceEqDiff, Int.reduceToNat, Int.reduceLT, Int.reduceLE, Int.reduceAdd, Int.reduceSub, Int.reduceEq, reduceIte, Nat.reduceBNe, Int.reducePow, Nat.reducePow, Int.reduceMul, Int.reduceNeg, isB_i, isB_b, isB_y, isBv_i, isBv_b, eqCells_t, TT]
      refine ⟨by omega, by omega, ?_⟩
      exact .inl ⟨rfl, rfl⟩
  · have h6 : n16 l 6 ≠ 0 := by simp only [decide_eq_true_eq, decide_eq_false_iff_not] at c6 c7; omega
    by_cases hx0 : x = 0
    · have q7 : decide ((x : Int) = 0) = true := by simp only [decide_eq_true_eq]; omega
      rw [if_neg (fun h => h.2 hx0)]
      simp (maxSteps := 4000000) only [Try.results14, eL, eb, c6, c7, q7, XX, Nat.reduceBEq, Nat.reduceLT, Nat.reduceAdd, Nat.reduceMul, Nat.reduceSub, Nat.reduceLeDiff, Nat.reduceEqDiff, Int.reduceToNat, Int.reduceLT, Int.reduceLE, Int.reduceAdd, Int.reduceSub, Int.reduceEq, reduceIte, Nat.reduceBNe, Int.reducePow, Nat.reducePow, Int.reduceMul, Int.reduceNeg, isB_i, isB_b, isB_y, isBv_i, isBv_b, eqCells_t, TT]
      refine ⟨by omega, by omega, by omega, by omega, ?_⟩
      refine draw_of cx_ok (by kernel_rfl) 400 [] [(0, true), (1, true), (2, true), (3, true), (4, true), (5, true), (6, true), (7, true), (8, true), (9, true), (10, true), (11, true), (12, true), (13, true), (14, true), (15, true), (16, true), (17, true), (18, true), (19, true), (20, true), (21, false), (22, false)] (by kernel_rfl) rfl ?_
      simp (maxSteps := 4000000) only [Try.results14, eL, eb, two_mul, e0, e2, XX, Nat.reduceBEq, Nat.reduceLT, Nat.reduceAdd, Nat.reduceMul, Nat.reduceSub, Nat.reduceLeDiff, Nat.reduceEqDiff, Int.reduceToNat, Int.reduceLT, Int.reduceLE, Int.reduceAdd, Int.reduceSub, Int.reduceEq, reduceIte, Nat.reduceBNe, Int.reducePow, Nat.reducePow, Int.reduceMul, Int.reduceNeg, isB_i, isB_b, isB_y, isBv_i, isBv_b, eqCells_t, TT]
      refine ⟨by omega, by omega, by omega, by omega, by omega, by omega, by omega, by omega, ?_⟩
      by_cases h2 : n16 l 2 = 0
      · have q5 : decide ((n16 l 2 : Int) = 0) = true := by simp only [decide_eq_true_eq]; omega
        rw [if_pos h2]
        simp (maxSteps := 4000000) only [Try.results14, q5, XX, Nat.reduceBEq, Nat.reduceLT, Nat.reduceAdd, Nat.reduceMul, Nat.reduceSub, Nat.reduceLeDiff, Nat.reduceEqDiff, Int.reduceToNat, Int.reduceLT, Int.reduceLE, Int.reduceAdd, Int.reduceSub, Int.reduceEq, reduceIte, Nat.reduceBNe, Int.reducePow, Nat.reducePow, Int.reduceMul, Int.reduceNeg, isB_i, isB_b, isB_y, isBv_i, isBv_b, eqCells_t, TT]
        exact .inl ⟨rfl, rfl⟩
      · have q5 : decide ((n16 l 2 : Int) = 0) = false := by simp only [decide_eq_false_iff_not]; omega
        rw [if_neg h2]
        simp (maxSteps := 4000000) only [Try.results14, q5, XX, Nat.reduceBEq, Nat.reduceLT, Nat.reduceAdd, Nat.reduceMul, Nat.reduceSub, Nat.reduceLeDiff, Nat.reduceEqDiff, Int.reduceToNat, Int.reduceLT, Int.reduceLE, Int.reduceAdd, Int.reduceSub, Int.reduceEq, reduceIte, Nat.reduceBNe, Int.reducePow, Nat.reducePow, Int.reduceMul, Int.reduceNeg, isB_i, isB_b, isB_y, isBv_i, isBv_b, eqCells_t, TT]
        refine draw_of cx_ok (by kernel_rfl) 400 [] [(0, true), (2, true), (3, true), (4, true), (1, false), (5, false), (6, true), (7, false)] (by kernel_rfl) rfl ?_
        simp (maxSteps := 4000000) only [Try.results14, eL, eb, eD, bsR_toSC, bsC_len, eDl, XX, Nat.reduceBEq, Nat.reduceLT, Nat.reduceAdd, Nat.reduceMul, Nat.reduceSub, Nat.reduceLeDiff, Nat.reduceEqDiff, Int.reduceToNat, Int.reduceLT, Int.reduceLE, Int.reduceAdd, Int.reduceSub, Int.reduceEq, reduceIte, Nat.reduceBNe, Int.reducePow, Nat.reducePow, Int.reduceMul, Int.reduceNeg, isB_i, isB_b, isB_y, isBv_i, isBv_b, eqCells_t, TT]
        have tl : n16 l 4 - 8 ≤ (bsR (t ++ sp)).length := by simp; omega
        refine ⟨⟨by omega, by omega, by omega⟩, ⟨⟨by omega, by unfold maxLen; omega⟩, tl⟩, ?_⟩
        by_cases hn8 : n16 l 4 - 8 = 0
        · rw [hn8]
          refine xapp_room (by omega) ?_
          simp (maxSteps := 4000000) only [Try.results14, XX, Nat.reduceBEq, Nat.reduceLT, Nat.reduceAdd, Nat.reduceMul, Nat.reduceSub, Nat.reduceLeDiff, Nat.reduceEqDiff, Int.reduceToNat, Int.reduceLT, Int.reduceLE, Int.reduceAdd, Int.reduceSub, Int.reduceEq, reduceIte, Nat.reduceBNe, Int.reducePow, Nat.reducePow, Int.reduceMul, Int.reduceNeg, isB_i, isB_b, isB_y, isBv_i, isBv_b, eqCells_t, TT]
          exact .inl ⟨List.eq_nil_of_length_eq_zero (eDl.trans hn8), rfl⟩
        · refine xapp_grow (by omega) fun c3 hc3 _ => ?_
          obtain ⟨r3, rfl⟩ := Nat.exists_eq_add_of_le hc3
          simp (maxSteps := 4000000) only [Try.results14, Nat.add_sub_cancel_left, rep_flat, bsC_zeros, bs_app, XX, Nat.reduceBEq, Nat.reduceLT, Nat.reduceAdd, Nat.reduceMul, Nat.reduceSub, Nat.reduceLeDiff, Nat.reduceEqDiff, Int.reduceToNat, Int.reduceLT, Int.reduceLE, Int.reduceAdd, Int.reduceSub, Int.reduceEq, reduceIte, Nat.reduceBNe, Int.reducePow, Nat.reducePow, Int.reduceMul, Int.reduceNeg, isB_i, isB_b, isB_y, isBv_i, isBv_b, eqCells_t, TT]
          exact .inr ⟨2, List.replicate r3 0, true, by simp only [slB, eDl, List.length_replicate], ⟨rfl, fun _ => rfl⟩⟩
    · have q7 : decide ((x : Int) = 0) = false := by simp only [decide_eq_false_iff_not]; omega
      rw [if_pos ⟨h6, hx0⟩]
      simp (maxSteps := 4000000) only [Try.results14, eL, eb, c6, c7, q7, XX, Nat.reduceBEq, Nat.reduceLT, Nat.reduceAdd, Nat.reduceMul, Nat.reduceSub, Nat.reduceLeDiff, Nat.reduceEqDiff, Int.reduceToNat, Int.reduceLT, Int.reduceLE, Int.reduceAdd, Int.reduceSub, Int.reduceEq, reduceIte, Nat.reduceBNe, Int.reducePow, Nat.reducePow, Int.reduceMul, Int.reduceNeg, isB_i, isB_b, isB_y, isBv_i, isBv_b, eqCells_t, TT]
      refine ⟨by omega, by omega, by omega, by omega, ?_⟩
      exact .inl ⟨rfl, rfl⟩
  · have h6 : n16 l 6 = 0 := by simp only [decide_eq_true_eq] at c6 c7; omega
    rw [if_neg (fun h => h.1 h6)]
    simp (maxSteps := 4000000) only [Try.results14, eL, eb, c6, c7, XX, Nat.reduceBEq, Nat.reduceLT, Nat.reduceAdd, Nat.reduceMul, Nat.reduceSub, Nat.reduceLeDiff, Nat.reduceEqDiff, Int.reduceToNat, Int.reduceLT, Int.reduceLE, Int.reduceAdd, Int.reduceSub, Int.reduceEq, reduceIte, Nat.reduceBNe, Int.reducePow, Nat.reducePow, Int.reduceMul, Int.reduceNeg, isB_i, isB_b, isB_y, isBv_i, isBv_b, eqCells_t, TT]
    refine ⟨by omega, by omega, by omega, by omega, ?_⟩
    refine draw_of cx_ok (by kernel_rfl) 400 [] [(0, true), (1, true), (2, true), (3, true), (4, true), (5, true), (6, true), (7, true), (8, true), (9, true), (10, true), (11, true), (12, true), (13, true), (14, true), (15, true), (16, true), (17, true), (18, true), (19, true), (20, true), (21, false), (22, false)] (by kernel_rfl) rfl ?_
    simp (maxSteps := 4000000) only [Try.results14, eL, eb, two_mul, e0, e2, XX, Nat.reduceBEq, Nat.reduceLT, Nat.reduceAdd, Nat.reduceMul, Nat.reduceSub, Nat.reduceLeDiff, Nat.reduceEqDiff, Int.reduceToNat, Int.reduceLT, Int.reduceLE, Int.reduceAdd, Int.reduceSub, Int.reduceEq, reduceIte, Nat.reduceBNe, Int.reducePow, Nat.reducePow, Int.reduceMul, Int.reduceNeg, isB_i, isB_b, isB_y, isBv_i, isBv_b, eqCells_t, TT]
    refine ⟨by omega, by omega, by omega, by omega, by omega, by omega, by omega, by omega, ?_⟩
    by_cases h2 : n16 l 2 = 0
    · have q5 : decide ((n16 l 2 : Int) = 0) = true := by simp only [decide_eq_true_eq]; omega
      rw [if_pos h2]
      simp (maxSteps := 4000000) only [Try.results14, q5, XX, Nat.reduceBEq, Nat.reduceLT, Nat.reduceAdd, Nat.reduceMul, Nat.reduceSub, Nat.reduceLeDiff, Nat.reduceEqDiff, Int.reduceToNat, Int.reduceLT, Int.reduceLE, Int.reduceAdd, Int.reduceSub, Int.reduceEq, reduceIte, Nat.reduceBNe, Int.reducePow, Nat.reducePow, Int.reduceMul, Int.reduceNeg, isB_i, isB_b, isB_y, isBv_i, isBv_b, eqCells_t, TT]
      exact .inl ⟨rfl, rfl⟩
    · have q5 : decide ((n16 l 2 : Int) = 0) = false := by simp only [decide_eq_false_iff_not]; omega
      rw [if_neg h2]
      simp (maxSteps := 4000000) only [Try.results14, q5, XX, Nat.reduceBEq, Nat.reduceLT, Nat.reduceAdd, Nat.reduceMul, Nat.reduceSub, Nat.reduceLeDiff, Nat.reduceEqDiff, Int.reduceToNat, Int.reduceLT, Int.reduceLE, Int.reduceAdd, Int.reduceSub, Int.reduceEq, reduceIte, Nat.reduceBNe, Int.reducePow, Nat.reducePow, Int.reduceMul, Int.reduceNeg, isB_i, isB_b, isB_y, isBv_i, isBv_b, eqCells_t, TT]
      refine draw_of cx_ok (by kernel_rfl) 400 [] [(0, true), (2, true), (3, true), (4, true), (1, false), (5, false), (6, true), (7, false)] (by kernel_rfl) rfl ?_
      simp (maxSteps := 4000000) only [Try.results14, eL, eb, eD, bsR_toSC, bsC_len, eDl, XX, Nat.reduceBEq, Nat.reduceLT, Nat.reduceAdd, Nat.reduceMul, Nat.reduceSub, Nat.reduceLeDiff, Nat.reduceEqDiff, Int.reduceToNat, Int.reduceLT, Int.reduceLE, Int.reduceAdd, Int.reduceSub, Int.reduceEq, reduceIte, Nat.reduceBNe, Int.reducePow, Nat.reducePow, Int.reduceMul, Int.reduceNeg, isB_i, isB_b, isB_y, isBv_i, isBv_b, eqCells_t, TT]
      have tl : n16 l 4 - 8 ≤ (bsR (t ++ sp)).length := by simp; omega
      refine ⟨⟨by omega, by omega, by omega⟩, ⟨⟨by omega, by unfold maxLen; omega⟩, tl⟩, ?_⟩
      by_cases hn8 : n16 l 4 - 8 = 0
      · rw [hn8]
        refine xapp_room (by omega) ?_
        simp (maxSteps := 4000000) only [Try.results14, XX, Nat.reduceBEq, Nat.reduceLT, Nat.reduceAdd, Nat.reduceMul, Nat.reduceSub, Nat.reduceLeDiff, Nat.reduceEqDiff, Int.reduceToNat, Int.reduceLT, Int.reduceLE, Int.reduceAdd, Int.reduceSub, Int.reduceEq, reduceIte, Nat.reduceBNe, Int.reducePow, Nat.reducePow, Int.reduceMul, Int.reduceNeg, isB_i, isB_b, isB_y, isBv_i, isBv_b, eqCells_t, TT]
        exact .inl ⟨List.eq_nil_of_length_eq_zero (eDl.trans hn8), rfl⟩
      · refine xapp_grow (by omega) fun c3 hc3 _ => ?_
        obtain ⟨r3, rfl⟩ := Nat.exists_eq_add_of_le hc3
        simp (maxSteps := 4000000) only [Try.results14, Nat.add_sub_cancel_left, rep_flat, bsC_zeros, bs_app, XX, Nat.reduceBEq, Nat.reduceLT, Nat.reduceAdd, Nat.reduceMul, Nat.reduceSub, Nat.reduceLeDiff, Nat.reduceEqDiff, Int.reduceToNat, Int.reduceLT, Int.reduceLE, Int.reduceAdd, Int.reduceSub, Int.reduceEq, reduceIte, Nat.reduceBNe, Int.reducePow, Nat.reducePow, Int.reduceMul, Int.reduceNeg, isB_i, isB_b, isB_y, isBv_i, isBv_b, eqCells_t, TT]
        exact .inr ⟨2, List.replicate r3 0, true, by simp only [slB, eDl, List.length_replicate], ⟨rfl, fun _ => rfl⟩⟩

end

end Go.Proofs.Ytiefbdddjhigdaa.Sx
