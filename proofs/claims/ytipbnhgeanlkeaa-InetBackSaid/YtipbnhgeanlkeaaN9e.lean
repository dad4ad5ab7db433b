/- The symbolic executor, at work: heads are read, as the document says. No condition. -/
import Derived.Test.YtipbnhgeanlkeaaN9d
namespace Go.Proofs.Ytipbnhgeanlkeaa.Sx
open Go
set_option linter.unusedSimpArgs false
set_option linter.unusedVariables false
set_option maxRecDepth 10000
set_option maxHeartbeats 2000000

theorem rget2_spec (l sp : List UInt8) (c at' : Nat) (hb : at' + 2 ≤ l.length) (hc : l.length ≤ c) (hl : l.length ≤ 140737488355328) : Spec cx.P 31 [.c (roB l sp c), .c (i64 at'), .c (i64 2)] [] fun s h' => s = .tup [(false, [u64 (n16 l at' : Nat)]), (false, [.v (.int .i64 0)])] ∧ h' = [] := by
  have d0 : decide ((at' : Int) < 0) = false := by simp only [decide_eq_false_iff_not]; omega
  have d1 : decide (((l.length : Nat) : Int) < (at' : Int)) = false := by simp only [decide_eq_false_iff_not]; omega
  have d2 : decide ((((l.length - at' : Nat)) : Int) < 2) = false := by simp only [decide_eq_false_iff_not]; omega
  have e1 : IntKind.i64.wrap ((l.length : Int) - (at' : Int)) = ((l.length - at' : Nat) : Int) := by rw [w64] <;> omega
  refine spec_of_X cx_ok Try.func31 rfl (by kernel_rfl) (by kernel_rfl) (Nat.le_of_ble_eq_true rfl) 400 10 ?_
  simp (maxSteps := 4000000) only [Try.results31, XX, Nat.reduceBEq, Nat.reduceLT, Nat.reduceAdd, Nat.reduceMul, Nat.reduceSub, Nat.reduceLeDiff, Nat.reduceEqDiff, Int.reduceToNat, Int.reduceLT, Int.reduceLE, Int.reduceAdd, Int.reduceSub, Int.reduceEq, reduceIte, Nat.reduceBNe, Int.reducePow, Nat.reducePow, Int.reduceMul, Int.reduceNeg, isB_i, isB_b, isB_y, isBv_i, isBv_b, eqCells_t, TT]
  simp (maxSteps := 4000000) only [Try.results31, d0, d1, d2, e1, XX, Nat.reduceBEq, Nat.reduceLT, Nat.reduceAdd, Nat.reduceMul, Nat.reduceSub, Nat.reduceLeDiff, Nat.reduceEqDiff, Int.reduceToNat, Int.reduceLT, Int.reduceLE, Int.reduceAdd, Int.reduceSub, Int.reduceEq, reduceIte, Nat.reduceBNe, Int.reducePow, Nat.reducePow, Int.reduceMul, Int.reduceNeg, isB_i, isB_b, isB_y, isBv_i, isBv_b, eqCells_t, TT]
  refine loop_rounds cx_ok 400 3 ?_
  have i0 : IntKind.i64.wrap ((at' : Int) + 0) = ((at' : Nat) : Int) := by rw [w64] <;> omega
  have i1 : IntKind.i64.wrap ((at' : Int) + 1) = ((at' + 1 : Nat) : Int) := by rw [w64] <;> omega
  obtain ⟨R0, h0⟩ := drop1 (sp := sp) (l := l) (k := at') (by omega)
  obtain ⟨R1, h1⟩ := drop1 (sp := sp) (l := l) (k := at' + 1) (by omega)
  have q0 := (l.getD at' 0).toNat_lt
  have q1 := (l.getD (at' + 1) 0).toNat_lt
  have z : IntKind.u64.wrap (0 + IntKind.u64.wrap ((l.getD at' 0).toNat : Int)) = ((l.getD at' 0).toNat : Int) := by
    rw [wu64 (x := ((l.getD at' 0).toNat : Int)) (by omega) (by omega), wu64] <;> omega
  have z1 := mul_next (a := (l.getD at' 0).toNat) (b := (l.getD (at' + 1) 0).toNat) (by omega) (by omega)
  rw [show (l.getD at' 0).toNat * 256 + (l.getD (at' + 1) 0).toNat = n16 l at' from rfl] at z1
  simp (maxSteps := 4000000) only [Try.results31, w64, wu64, i0, i1, h0, h1, z, z1, Int.reduceToNat, XX, Nat.reduceBEq, Nat.reduceLT, Nat.reduceAdd, Nat.reduceMul, Nat.reduceSub, Nat.reduceLeDiff, Nat.reduceEqDiff, Int.reduceToNat, Int.reduceLT, Int.reduceLE, Int.reduceAdd, Int.reduceSub, Int.reduceEq, reduceIte, Nat.reduceBNe, Int.reducePow, Nat.reducePow, Int.reduceMul, Int.reduceNeg, isB_i, isB_b, isB_y, isBv_i, isBv_b, eqCells_t, TT]
  omega

theorem rnum2_spec (l sp : List UInt8) (c k : Nat) (hk : k + 2 ≤ l.length) (hc : l.length ≤ c) (hl : l.length ≤ 140737488355328) : Spec cx.P 22 [.c (roB l sp c), .c (i64 k), .c (i64 2)] [] fun t h' => t = .c (i64 (n16 l k : Nat)) ∧ h' = [] := by
  have hn := n16_lt l k
  have e : IntKind.i64.wrap ((n16 l k : Nat) : Int) = ((n16 l k : Nat) : Int) := by rw [w64] <;> omega
  refine spec_of_X cx_ok Try.func22 rfl (by kernel_rfl) (by kernel_rfl) (Nat.le_of_ble_eq_true rfl) 400 8 ?_
  simp (maxSteps := 4000000) only [Try.results22, XX, Nat.reduceBEq, Nat.reduceLT, Nat.reduceAdd, Nat.reduceMul, Nat.reduceSub, Nat.reduceLeDiff, Nat.reduceEqDiff, Int.reduceToNat, Int.reduceLT, Int.reduceLE, Int.reduceAdd, Int.reduceSub, Int.reduceEq, reduceIte, Nat.reduceBNe, Int.reducePow, Nat.reducePow, Int.reduceMul, Int.reduceNeg, isB_i, isB_b, isB_y, isBv_i, isBv_b, eqCells_t, TT]
  refine call_is (rget2_spec l sp c k hk hc hl) ?_
  rintro _ _ ⟨rfl, rfl⟩
  simp (maxSteps := 4000000) only [Try.results22, e, XX, Nat.reduceBEq, Nat.reduceLT, Nat.reduceAdd, Nat.reduceMul, Nat.reduceSub, Nat.reduceLeDiff, Nat.reduceEqDiff, Int.reduceToNat, Int.reduceLT, Int.reduceLE, Int.reduceAdd, Int.reduceSub, Int.reduceEq, reduceIte, Nat.reduceBNe, Int.reducePow, Nat.reducePow, Int.reduceMul, Int.reduceNeg, isB_i, isB_b, isB_y, isBv_i, isBv_b, eqCells_t, TT]
theorem rnum4_spec (l sp : List UInt8) (c k : Nat) (hk : k + 4 ≤ l.length) (hc : l.length ≤ c) (hl : l.length ≤ 140737488355328) : Spec cx.P 22 [.c (roB l sp c), .c (i64 k), .c (i64 4)] [] fun t h' => t = .c (i64 (get4 l k : Nat)) ∧ h' = [] := by
  have hn := get4_lt l k
  have p := rget4_spec l sp c k hk hc hl
  generalize get4 l k = g at *
  have e : IntKind.i64.wrap ((g : Nat) : Int) = ((g : Nat) : Int) := by rw [w64] <;> omega
  refine spec_of_X cx_ok Try.func22 rfl (by kernel_rfl) (by kernel_rfl) (Nat.le_of_ble_eq_true rfl) 400 8 ?_
  simp (maxSteps := 4000000) only [Try.results22, XX, Nat.reduceBEq, Nat.reduceLT, Nat.reduceAdd, Nat.reduceMul, Nat.reduceSub, Nat.reduceLeDiff, Nat.reduceEqDiff, Int.reduceToNat, Int.reduceLT, Int.reduceLE, Int.reduceAdd, Int.reduceSub, Int.reduceEq, reduceIte, Nat.reduceBNe, Int.reducePow, Nat.reducePow, Int.reduceMul, Int.reduceNeg, isB_i, isB_b, isB_y, isBv_i, isBv_b, eqCells_t, TT]
  refine call_is p ?_
  rintro _ _ ⟨rfl, rfl⟩
  simp (maxSteps := 4000000) only [Try.results22, e, XX, Nat.reduceBEq, Nat.reduceLT, Nat.reduceAdd, Nat.reduceMul, Nat.reduceSub, Nat.reduceLeDiff, Nat.reduceEqDiff, Int.reduceToNat, Int.reduceLT, Int.reduceLE, Int.reduceAdd, Int.reduceSub, Int.reduceEq, reduceIte, Nat.reduceBNe, Int.reducePow, Nat.reducePow, Int.reduceMul, Int.reduceNeg, isB_i, isB_b, isB_y, isBv_i, isBv_b, eqCells_t, TT]

theorem rdec_spec (l sp : List UInt8) (c : Nat) (hc : l.length ≤ c) (hl : l.length ≤ 140737488355328) : Spec cx.P 15 [.c (roB l sp c)] [] (resP (decI l) (decD l) (decE l)) := by
  have fail : ∀ {e : Int} {h' : List SB}, decE l = e → e ≠ 0 → rawP (decI l) (decD l) (decE l) (.tup [(true, ipZ), (false, [noC]), (false, [i64 e])]) h' := by
    rintro e h' rfl h0
    exact .inl ⟨by simp [decD, h0], by simp [decI, h0, IP.z]⟩
  refine resP_raw ?_
  by_cases h20 : l.length < 20
  · have d1 : decide ((l.length : Int) < 20) = true := by simp only [decide_eq_true_eq]; omega
    refine spec_of_X cx_ok Try.func15 rfl (by kernel_rfl) (by kernel_rfl) (Nat.le_of_ble_eq_true rfl) 400 12 ?_
    simp (maxSteps := 4000000) only [Try.results15, XX, Nat.reduceBEq, Nat.reduceLT, Nat.reduceAdd, Nat.reduceMul, Nat.reduceSub, Nat.reduceLeDiff, Nat.reduceEqDiff, Int.reduceToNat, Int.reduceLT, Int.reduceLE, Int.reduceAdd, Int.reduceSub, Int.reduceEq, reduceIte, Nat.reduceBNe, Int.reducePow, Nat.reducePow, Int.reduceMul, Int.reduceNeg, isB_i, isB_b, isB_y, isBv_i, isBv_b, eqCells_t, TT]
    simp (maxSteps := 4000000) only [Try.results15, d1, XX, Nat.reduceBEq, Nat.reduceLT, Nat.reduceAdd, Nat.reduceMul, Nat.reduceSub, Nat.reduceLeDiff, Nat.reduceEqDiff, Int.reduceToNat, Int.reduceLT, Int.reduceLE, Int.reduceAdd, Int.reduceSub, Int.reduceEq, reduceIte, Nat.reduceBNe, Int.reducePow, Nat.reducePow, Int.reduceMul, Int.reduceNeg, isB_i, isB_b, isB_y, isBv_i, isBv_b, eqCells_t, TT]
    exact fail (if_pos h20) (by decide)
  have d1 : decide ((l.length : Int) < 20) = false := by simp only [decide_eq_false_iff_not]; omega
  obtain ⟨R0, r0⟩ := dropAt (sp := sp) (l := l) (j := 0) (by omega)
  have r0' : ((bsR (l ++ sp)).getD 0 (RC.v undef)) = .v (.int .u8 (l.getD 0 0).toNat) := by rw [List.drop_zero] at r0; rw [r0]; rfl
  have r0l : 0 < (bsR (l ++ sp)).length := by simp; omega
  have b0 := (l.getD 0 0).toNat_lt
  have n2 := n16_lt l 2
  have n6 := n16_lt l 6
  have e5 : decE l = if (l.getD 0 0).toNat / 16 ≠ 4 then 90 else if 5 < (l.getD 0 0).toNat % 16 then 91 else if (l.getD 0 0).toNat % 16 ≠ 5 ∨ n16 l 2 < 20 ∨ l.length < n16 l 2 then 92 else if isum (l.take 20) ≠ 0 then 93 else if n16 l 6 % 16384 ≠ 0 then 94 else if (l.getD 8 0).toNat = 0 then 95 else 0 := if_neg h20
  generalize hx : (l.getD 0 0).toNat = x at *
  have w0 : IntKind.i64.wrap (x : Int) = (x : Int) := by rw [w64] <;> omega
  have m0 : (x : Int).tmod 16 = ((x % 16 : Nat) : Int) := rfl
  have v0 : IntKind.i64.wrap ((x : Int).tdiv 16) = ((x / 16 : Nat) : Int) := by
    show IntKind.i64.wrap ((x / 16 : Nat) : Int) = _
    rw [w64] <;> omega
  have eR : bsR (l ++ sp) = bsR (l.take 20 ++ (l.drop 20 ++ sp)) := by rw [← List.append_assoc, List.take_append_drop]
  have lT : (l.take 20).length = 20 := by simp; omega
  have p3 := rsumOf_spec (l.take 20) (l.drop 20 ++ sp) c (by omega)
  unfold roB at p3
  rw [lT, ← eR] at p3
  refine spec_of_X cx_ok Try.func15 rfl (by kernel_rfl) (by kernel_rfl) (Nat.le_of_ble_eq_true rfl) 400 12 ?_
  simp (maxSteps := 4000000) only [Try.results15, XX, Nat.reduceBEq, Nat.reduceLT, Nat.reduceAdd, Nat.reduceMul, Nat.reduceSub, Nat.reduceLeDiff, Nat.reduceEqDiff, Int.reduceToNat, Int.reduceLT, Int.reduceLE, Int.reduceAdd, Int.reduceSub, Int.reduceEq, reduceIte, Nat.reduceBNe, Int.reducePow, Nat.reducePow, Int.reduceMul, Int.reduceNeg, isB_i, isB_b, isB_y, isBv_i, isBv_b, eqCells_t, TT]
  simp (maxSteps := 4000000) only [Try.results15, d1, r0', w0, m0, XX, Nat.reduceBEq, Nat.reduceLT, Nat.reduceAdd, Nat.reduceMul, Nat.reduceSub, Nat.reduceLeDiff, Nat.reduceEqDiff, Int.reduceToNat, Int.reduceLT, Int.reduceLE, Int.reduceAdd, Int.reduceSub, Int.reduceEq, reduceIte, Nat.reduceBNe, Int.reducePow, Nat.reducePow, Int.reduceMul, Int.reduceNeg, isB_i, isB_b, isB_y, isBv_i, isBv_b, eqCells_t, TT]
  refine ⟨by omega, r0l, ?_⟩
  refine call_fz [.c (roB l sp c), .c (i64 2), .c (i64 2)] (rnum2_spec l sp c 2 (by omega) hc hl) (fun t h' h => by obtain ⟨rfl, rfl⟩ := h; exact ⟨rfl, rfl⟩) ⟨.inl ⟨rfl, rfl⟩, .inl ⟨rfl, rfl⟩, .inl ⟨rfl, rfl⟩, trivial⟩ ?_
  rintro _ _ ⟨rfl, rfl⟩
  simp (maxSteps := 4000000) only [Try.results15, XX, Nat.reduceBEq, Nat.reduceLT, Nat.reduceAdd, Nat.reduceMul, Nat.reduceSub, Nat.reduceLeDiff, Nat.reduceEqDiff, Int.reduceToNat, Int.reduceLT, Int.reduceLE, Int.reduceAdd, Int.reduceSub, Int.reduceEq, reduceIte, Nat.reduceBNe, Int.reducePow, Nat.reducePow, Int.reduceMul, Int.reduceNeg, isB_i, isB_b, isB_y, isBv_i, isBv_b, eqCells_t, TT]
  refine ⟨by omega, ?_⟩
  refine call_pureF [.c (.ro (bsR (l ++ sp)) 20 c)] p3 ⟨.inl ⟨rfl, rfl⟩, trivial⟩ ?_
  rintro _ rfl
  simp (maxSteps := 4000000) only [Try.results15, XX, Nat.reduceBEq, Nat.reduceLT, Nat.reduceAdd, Nat.reduceMul, Nat.reduceSub, Nat.reduceLeDiff, Nat.reduceEqDiff, Int.reduceToNat, Int.reduceLT, Int.reduceLE, Int.reduceAdd, Int.reduceSub, Int.reduceEq, reduceIte, Nat.reduceBNe, Int.reducePow, Nat.reducePow, Int.reduceMul, Int.reduceNeg, isB_i, isB_b, isB_y, isBv_i, isBv_b, eqCells_t, TT]
  refine call_fz [.c (roB l sp c), .c (i64 6), .c (i64 2)] (rnum2_spec l sp c 6 (by omega) hc hl) (fun t h' h => by obtain ⟨rfl, rfl⟩ := h; exact ⟨rfl, rfl⟩) ⟨.inl ⟨rfl, rfl⟩, .inl ⟨rfl, rfl⟩, .inl ⟨rfl, rfl⟩, trivial⟩ ?_
  rintro _ _ ⟨rfl, rfl⟩
  simp (maxSteps := 4000000) only [Try.results15, r0', w0, v0, XX, Nat.reduceBEq, Nat.reduceLT, Nat.reduceAdd, Nat.reduceMul, Nat.reduceSub, Nat.reduceLeDiff, Nat.reduceEqDiff, Int.reduceToNat, Int.reduceLT, Int.reduceLE, Int.reduceAdd, Int.reduceSub, Int.reduceEq, reduceIte, Nat.reduceBNe, Int.reducePow, Nat.reducePow, Int.reduceMul, Int.reduceNeg, isB_i, isB_b, isB_y, isBv_i, isBv_b, eqCells_t, TT]
  refine ⟨by omega, r0l, ?_⟩
  by_cases hv : x / 16 ≠ 4
  · have d2 : decide (((x / 16 : Nat) : Int) = 4) = false := by simp only [decide_eq_false_iff_not]; omega
    simp (maxSteps := 4000000) only [Try.results15, d2, XX, Nat.reduceBEq, Nat.reduceLT, Nat.reduceAdd, Nat.reduceMul, Nat.reduceSub, Nat.reduceLeDiff, Nat.reduceEqDiff, Int.reduceToNat, Int.reduceLT, Int.reduceLE, Int.reduceAdd, Int.reduceSub, Int.reduceEq, reduceIte, Nat.reduceBNe, Int.reducePow, Nat.reducePow, Int.reduceMul, Int.reduceNeg, isB_i, isB_b, isB_y, isBv_i, isBv_b, eqCells_t, TT]
    exact fail (e5.trans (if_pos hv)) (by decide)
  have d2 : decide (((x / 16 : Nat) : Int) = 4) = true := by simp only [decide_eq_true_eq]; omega
  rw [if_neg hv] at e5
  by_cases ho : 5 < x % 16
  · have d3 : decide (5 < ((x % 16 : Nat) : Int)) = true := by simp only [decide_eq_true_eq]; omega
    simp (maxSteps := 4000000) only [Try.results15, d2, d3, XX, Nat.reduceBEq, Nat.reduceLT, Nat.reduceAdd, Nat.reduceMul, Nat.reduceSub, Nat.reduceLeDiff, Nat.reduceEqDiff, Int.reduceToNat, Int.reduceLT, Int.reduceLE, Int.reduceAdd, Int.reduceSub, Int.reduceEq, reduceIte, Nat.reduceBNe, Int.reducePow, Nat.reducePow, Int.reduceMul, Int.reduceNeg, isB_i, isB_b, isB_y, isBv_i, isBv_b, eqCells_t, TT]
    exact fail (e5.trans (if_pos ho)) (by decide)
  have d3 : decide (5 < ((x % 16 : Nat) : Int)) = false := by simp only [decide_eq_false_iff_not]; omega
  rw [if_neg ho] at e5
  by_cases hw : x % 16 ≠ 5 ∨ n16 l 2 < 20 ∨ l.length < n16 l 2
  · rw [if_pos hw] at e5
    by_cases h5 : x % 16 < 5
    · have d4 : decide (((x % 16 : Nat) : Int) < 5) = true := by simp only [decide_eq_true_eq]; omega
      simp (maxSteps := 4000000) only [Try.results15, d2, d3, d4, XX, Nat.reduceBEq, Nat.reduceLT, Nat.reduceAdd, Nat.reduceMul, Nat.reduceSub, Nat.reduceLeDiff, Nat.reduceEqDiff, Int.reduceToNat, Int.reduceLT, Int.reduceLE, Int.reduceAdd, Int.reduceSub, Int.reduceEq, reduceIte, Nat.reduceBNe, Int.reducePow, Nat.reducePow, Int.reduceMul, Int.reduceNeg, isB_i, isB_b, isB_y, isBv_i, isBv_b, eqCells_t, TT]
      exact fail e5 (by decide)
    · have d4 : decide (((x % 16 : Nat) : Int) < 5) = false := by simp only [decide_eq_false_iff_not]; omega
      by_cases h6 : n16 l 2 < 20
      · have d5 : decide ((n16 l 2 : Int) < 20) = true := by simp only [decide_eq_true_eq]; omega
        simp (maxSteps := 4000000) only [Try.results15, d2, d3, d4, d5, XX, Nat.reduceBEq, Nat.reduceLT, Nat.reduceAdd, Nat.reduceMul, Nat.reduceSub, Nat.reduceLeDiff, Nat.reduceEqDiff, Int.reduceToNat, Int.reduceLT, Int.reduceLE, Int.reduceAdd, Int.reduceSub, Int.reduceEq, reduceIte, Nat.reduceBNe, Int.reducePow, Nat.reducePow, Int.reduceMul, Int.reduceNeg, isB_i, isB_b, isB_y, isBv_i, isBv_b, eqCells_t, TT]
        exact fail e5 (by decide)
      · have d5 : decide ((n16 l 2 : Int) < 20) = false := by simp only [decide_eq_false_iff_not]; omega
        have d6 : decide ((l.length : Int) < (n16 l 2 : Int)) = true := by simp only [decide_eq_true_eq]; omega
        simp (maxSteps := 4000000) only [Try.results15, d2, d3, d4, d5, d6, XX, Nat.reduceBEq, Nat.reduceLT, Nat.reduceAdd, Nat.reduceMul, Nat.reduceSub, Nat.reduceLeDiff, Nat.reduceEqDiff, Int.reduceToNat, Int.reduceLT, Int.reduceLE, Int.reduceAdd, Int.reduceSub, Int.reduceEq, reduceIte, Nat.reduceBNe, Int.reducePow, Nat.reducePow, Int.reduceMul, Int.reduceNeg, isB_i, isB_b, isB_y, isBv_i, isBv_b, eqCells_t, TT]
        exact fail e5 (by decide)
  rw [if_neg hw] at e5
  have d4 : decide (((x % 16 : Nat) : Int) < 5) = false := by simp only [decide_eq_false_iff_not]; omega
  have d5 : decide ((n16 l 2 : Int) < 20) = false := by simp only [decide_eq_false_iff_not]; omega
  have d6 : decide ((l.length : Int) < (n16 l 2 : Int)) = false := by simp only [decide_eq_false_iff_not]; omega
  by_cases hs : isum (l.take 20) ≠ 0
  · have d7 : decide ((isum (l.take 20) : Int) = 0) = false := by simp only [decide_eq_false_iff_not]; omega
    simp (maxSteps := 4000000) only [Try.results15, d2, d3, d4, d5, d6, d7, XX, Nat.reduceBEq, Nat.reduceLT, Nat.reduceAdd, Nat.reduceMul, Nat.reduceSub, Nat.reduceLeDiff, Nat.reduceEqDiff, Int.reduceToNat, Int.reduceLT, Int.reduceLE, Int.reduceAdd, Int.reduceSub, Int.reduceEq, reduceIte, Nat.reduceBNe, Int.reducePow, Nat.reducePow, Int.reduceMul, Int.reduceNeg, isB_i, isB_b, isB_y, isBv_i, isBv_b, eqCells_t, TT]
    exact fail (e5.trans (if_pos hs)) (by decide)
  have d7 : decide ((isum (l.take 20) : Int) = 0) = true := by simp only [decide_eq_true_eq]; omega
  rw [if_neg hs] at e5
  have f1 : IntKind.i64.wrap ((n16 l 6 : Int).tdiv 8192) = ((n16 l 6 / 8192 : Nat) : Int) := by
    show IntKind.i64.wrap ((n16 l 6 / 8192 : Nat) : Int) = _
    rw [w64] <;> omega
  have f2 : ((n16 l 6 / 8192 : Nat) : Int).tmod 2 = ((n16 l 6 / 8192 % 2 : Nat) : Int) := rfl
  have f3 : (n16 l 6 : Int).tmod 8192 = ((n16 l 6 % 8192 : Nat) : Int) := rfl
  by_cases hf : n16 l 6 % 16384 ≠ 0
  · rw [if_pos hf] at e5
    by_cases h7 : n16 l 6 / 8192 % 2 = 1
    · have d8 : decide (((n16 l 6 / 8192 % 2 : Nat) : Int) = 1) = true := by simp only [decide_eq_true_eq]; omega
      simp (maxSteps := 4000000) only [Try.results15, d2, d3, d4, d5, d6, d7, f1, f2, f3, d8, XX, Nat.reduceBEq, Nat.reduceLT, Nat.reduceAdd, Nat.reduceMul, Nat.reduceSub, Nat.reduceLeDiff, Nat.reduceEqDiff, Int.reduceToNat, Int.reduceLT, Int.reduceLE, Int.reduceAdd, Int.reduceSub, Int.reduceEq, reduceIte, Nat.reduceBNe, Int.reducePow, Nat.reducePow, Int.reduceMul, Int.reduceNeg, isB_i, isB_b, isB_y, isBv_i, isBv_b, eqCells_t, TT]
      exact fail e5 (by decide)
    · have d8 : decide (((n16 l 6 / 8192 % 2 : Nat) : Int) = 1) = false := by simp only [decide_eq_false_iff_not]; omega
      have d9 : decide (((n16 l 6 % 8192 : Nat) : Int) = 0) = false := by simp only [decide_eq_false_iff_not]; omega
      simp (maxSteps := 4000000) only [Try.results15, d2, d3, d4, d5, d6, d7, f1, f2, f3, d8, d9, XX, Nat.reduceBEq, Nat.reduceLT, Nat.reduceAdd, Nat.reduceMul, Nat.reduceSub, Nat.reduceLeDiff, Nat.reduceEqDiff, Int.reduceToNat, Int.reduceLT, Int.reduceLE, Int.reduceAdd, Int.reduceSub, Int.reduceEq, reduceIte, Nat.reduceBNe, Int.reducePow, Nat.reducePow, Int.reduceMul, Int.reduceNeg, isB_i, isB_b, isB_y, isBv_i, isBv_b, eqCells_t, TT]
      exact fail e5 (by decide)
  have d8 : decide (((n16 l 6 / 8192 % 2 : Nat) : Int) = 1) = false := by simp only [decide_eq_false_iff_not]; omega
  have d9 : decide (((n16 l 6 % 8192 : Nat) : Int) = 0) = true := by simp only [decide_eq_true_eq]; omega
  rw [if_neg hf] at e5
  obtain ⟨R8, r8⟩ := dropAt (sp := sp) (l := l) (j := 8) (by omega)
  obtain ⟨R1, r1⟩ := dropAt (sp := sp) (l := l) (j := 1) (by omega)
  obtain ⟨R9, r9⟩ := dropAt (sp := sp) (l := l) (j := 9) (by omega)
  have b8 := (l.getD 8 0).toNat_lt
  have b1 := (l.getD 1 0).toNat_lt
  have b9 := (l.getD 9 0).toNat_lt
  by_cases ht : (l.getD 8 0).toNat = 0
  · have dA : decide (((l.getD 8 0).toNat : Int) = 0) = true := by simp only [decide_eq_true_eq]; omega
    simp (maxSteps := 4000000) only [Try.results15, d2, d3, d4, d5, d6, d7, f1, f2, f3, d8, d9, r8, dA, XX, Nat.reduceBEq, Nat.reduceLT, Nat.reduceAdd, Nat.reduceMul, Nat.reduceSub, Nat.reduceLeDiff, Nat.reduceEqDiff, Int.reduceToNat, Int.reduceLT, Int.reduceLE, Int.reduceAdd, Int.reduceSub, Int.reduceEq, reduceIte, Nat.reduceBNe, Int.reducePow, Nat.reducePow, Int.reduceMul, Int.reduceNeg, isB_i, isB_b, isB_y, isBv_i, isBv_b, eqCells_t, TT]
    refine ⟨by omega, by omega, ?_⟩
    exact fail (e5.trans (if_pos ht)) (by decide)
  have dA : decide (((l.getD 8 0).toNat : Int) = 0) = false := by simp only [decide_eq_false_iff_not]; omega
  rw [if_neg ht] at e5
  simp (maxSteps := 4000000) only [Try.results15, d2, d3, d4, d5, d6, d7, f1, f2, f3, d8, d9, r8, dA, XX, Nat.reduceBEq, Nat.reduceLT, Nat.reduceAdd, Nat.reduceMul, Nat.reduceSub, Nat.reduceLeDiff, Nat.reduceEqDiff, Int.reduceToNat, Int.reduceLT, Int.reduceLE, Int.reduceAdd, Int.reduceSub, Int.reduceEq, reduceIte, Nat.reduceBNe, Int.reducePow, Nat.reducePow, Int.reduceMul, Int.reduceNeg, isB_i, isB_b, isB_y, isBv_i, isBv_b, eqCells_t, TT]
  refine ⟨by omega, by omega, ?_⟩
  simp only [decI, decD, e5, if_true, decH0]
  have g12 := get4_lt l 12
  have g16 := get4_lt l 16
  have w8 : IntKind.i64.wrap ((l.getD 8 0).toNat : Int) = ((l.getD 8 0).toNat : Int) := by rw [w64] <;> omega
  have w1 : IntKind.i64.wrap ((l.getD 1 0).toNat : Int) = ((l.getD 1 0).toNat : Int) := by rw [w64] <;> omega
  have w9 : IntKind.i64.wrap ((l.getD 9 0).toNat : Int) = ((l.getD 9 0).toNat : Int) := by rw [w64] <;> omega
  have w12 : IntKind.u32.wrap ((get4 l 12 : Nat) : Int) = ((get4 l 12 : Nat) : Int) := by rw [wu32] <;> omega
  have w16 : IntKind.u32.wrap ((get4 l 16 : Nat) : Int) = ((get4 l 16 : Nat) : Int) := by rw [wu32] <;> omega
  have f4 : IntKind.i64.wrap ((n16 l 6 : Int).tdiv 16384) = ((n16 l 6 / 16384 : Nat) : Int) := by
    show IntKind.i64.wrap ((n16 l 6 / 16384 : Nat) : Int) = _
    rw [w64] <;> omega
  have f5 : ((n16 l 6 / 16384 : Nat) : Int).tmod 2 = ((n16 l 6 / 16384 % 2 : Nat) : Int) := rfl
  have f6 : decide (((n16 l 6 / 16384 % 2 : Nat) : Int) = 1) = decide (n16 l 6 / 16384 % 2 = 1) := by
    by_cases h : n16 l 6 / 16384 % 2 = 1
    · simp [h]
    · have : ¬ ((n16 l 6 / 16384 % 2 : Nat) : Int) = 1 := by omega
      simp [h]; omega
  have eT : bsR (l ++ sp) = bsR (l.take (n16 l 2) ++ (l.drop (n16 l 2) ++ sp)) := by rw [← List.append_assoc, List.take_append_drop]
  have lD : ((l.take (n16 l 2)).drop 20).length = n16 l 2 - 20 := by simp; omega
  have eD : ((bsR (l ++ sp)).drop 20).take (n16 l 2 - 20) = bsR ((l.take (n16 l 2)).drop 20) := by
    rw [eT, rs_drop, List.drop_append_of_le_length (by simp; omega), rs_take, List.take_left' lD]
  refine draw2_of cx_ok (by kernel_rfl) 400 [] (.pair [(0, true), (1, true), (2, true), (3, true), (4, true), (6, true), (7, true), (8, true), (9, true), (10, true), (11, true), (12, true), (13, true), (14, true), (15, true), (16, true), (17, true), (18, true), (21, true)] 5 25 (.pair [] 19 25 (.pair [(20, true)] 22 25 (.done [(23, true), (24, true), (25, false), (26, false)]) (.done [(22, false), (23, true), (24, true), (26, false)])) (.done [(19, false), (20, true), (22, false), (23, true), (24, true), (26, false)])) (.done [(5, false), (19, false), (20, true), (22, false), (23, true), (24, true), (26, false)])) (by kernel_rfl) rfl ?_
  simp (maxSteps := 4000000) only [Try.results15, PXT_done, PXT_pair, r8, r1, r9, f4, f5, f6, w8, w1, w9, w12, w16, XX, Nat.reduceBEq, Nat.reduceLT, Nat.reduceAdd, Nat.reduceMul, Nat.reduceSub, Nat.reduceLeDiff, Nat.reduceEqDiff, Int.reduceToNat, Int.reduceLT, Int.reduceLE, Int.reduceAdd, Int.reduceSub, Int.reduceEq, reduceIte, Nat.reduceBNe, Int.reducePow, Nat.reducePow, Int.reduceMul, Int.reduceNeg, isB_i, isB_b, isB_y, isBv_i, isBv_b, eqCells_t, TT]
  refine ⟨by omega, by omega, by omega, by omega, by omega, by omega, ?_, ?_⟩
  · skip
    refine call_fz [.c (roB l sp c), .c (i64 4), .c (i64 2)] (rnum2_spec l sp c 4 (by omega) hc hl) (fun t h' h => by obtain ⟨rfl, rfl⟩ := h; exact ⟨rfl, rfl⟩) ⟨.inl ⟨rfl, rfl⟩, .inl ⟨rfl, rfl⟩, .inl ⟨rfl, rfl⟩, trivial⟩ ?_
    rintro _ _ ⟨rfl, rfl⟩
    simp (maxSteps := 4000000) only [Try.results15, r8, r1, r9, f4, f5, f6, w8, w1, w9, w12, w16, PXT_pair, PXT_done, XX, Nat.reduceBEq, Nat.reduceLT, Nat.reduceAdd, Nat.reduceMul, Nat.reduceSub, Nat.reduceLeDiff, Nat.reduceEqDiff, Int.reduceToNat, Int.reduceLT, Int.reduceLE, Int.reduceAdd, Int.reduceSub, Int.reduceEq, reduceIte, Nat.reduceBNe, Int.reducePow, Nat.reducePow, Int.reduceMul, Int.reduceNeg, isB_i, isB_b, isB_y, isBv_i, isBv_b, eqCells_t, TT]
    refine ⟨?_, ?_⟩
    · skip
      refine call_fz [.c (roB l sp c), .c (i64 12), .c (i64 4)] (rnum4_spec l sp c 12 (by omega) hc hl) (fun t h' h => by obtain ⟨rfl, rfl⟩ := h; exact ⟨rfl, rfl⟩) ⟨.inl ⟨rfl, rfl⟩, .inl ⟨rfl, rfl⟩, .inl ⟨rfl, rfl⟩, trivial⟩ ?_
      rintro _ _ ⟨rfl, rfl⟩
      simp (maxSteps := 4000000) only [Try.results15, r8, r1, r9, f4, f5, f6, w8, w1, w9, w12, w16, PXT_pair, PXT_done, XX, Nat.reduceBEq, Nat.reduceLT, Nat.reduceAdd, Nat.reduceMul, Nat.reduceSub, Nat.reduceLeDiff, Nat.reduceEqDiff, Int.reduceToNat, Int.reduceLT, Int.reduceLE, Int.reduceAdd, Int.reduceSub, Int.reduceEq, reduceIte, Nat.reduceBNe, Int.reducePow, Nat.reducePow, Int.reduceMul, Int.reduceNeg, isB_i, isB_b, isB_y, isBv_i, isBv_b, eqCells_t, TT]
      refine ⟨?_, ?_⟩
      · skip
        refine call_fz [.c (roB l sp c), .c (i64 16), .c (i64 4)] (rnum4_spec l sp c 16 (by omega) hc hl) (fun t h' h => by obtain ⟨rfl, rfl⟩ := h; exact ⟨rfl, rfl⟩) ⟨.inl ⟨rfl, rfl⟩, .inl ⟨rfl, rfl⟩, .inl ⟨rfl, rfl⟩, trivial⟩ ?_
        rintro _ _ ⟨rfl, rfl⟩
        simp (maxSteps := 4000000) only [Try.results15, r8, r1, r9, f4, f5, f6, w8, w1, w9, w12, w16, PXT_pair, PXT_done, XX, Nat.reduceBEq, Nat.reduceLT, Nat.reduceAdd, Nat.reduceMul, Nat.reduceSub, Nat.reduceLeDiff, Nat.reduceEqDiff, Int.reduceToNat, Int.reduceLT, Int.reduceLE, Int.reduceAdd, Int.reduceSub, Int.reduceEq, reduceIte, Nat.reduceBNe, Int.reducePow, Nat.reducePow, Int.reduceMul, Int.reduceNeg, isB_i, isB_b, isB_y, isBv_i, isBv_b, eqCells_t, TT]
        refine ⟨⟨by omega, by omega, by omega⟩, ⟨⟨by omega, by unfold maxLen; omega⟩, by rw [rs_drop, rs_len]; simp; omega⟩, ?_⟩
        refine xapp_nil (ty := 5) (news := bsC ((l.take (n16 l 2)).drop 20)) (z := [.v (.int .u8 0)]) (fun h => by rw [List.eq_nil_of_length_eq_zero (lD.trans h)]; rfl) rfl (fun y3 o1 ho1 => ?_) (fun c => by simp only [eD, bsR_toSC]; rfl)
        simp (maxSteps := 4000000) only [Try.results15, zeros_flat, bs_app, XX, Nat.reduceBEq, Nat.reduceLT, Nat.reduceAdd, Nat.reduceMul, Nat.reduceSub, Nat.reduceLeDiff, Nat.reduceEqDiff, Int.reduceToNat, Int.reduceLT, Int.reduceLE, Int.reduceAdd, Int.reduceSub, Int.reduceEq, reduceIte, Nat.reduceBNe, Int.reducePow, Nat.reducePow, Int.reduceMul, Int.reduceNeg, isB_i, isB_b, isB_y, isBv_i, isBv_b, eqCells_t, TT]
        exact .inr ⟨2, List.replicate y3 0, o1, by simp only [slB, lD, List.length_replicate], ⟨rfl, by rw [lD, List.length_replicate]; exact ho1⟩⟩
      · skip
        refine call_fz [.c (roB l sp c), .c (i64 16), .c (i64 4)] (rnum4_spec l sp c 16 (by omega) hc hl) (fun t h' h => by obtain ⟨rfl, rfl⟩ := h; exact ⟨rfl, rfl⟩) ⟨.inl ⟨rfl, rfl⟩, .inl ⟨rfl, rfl⟩, .inl ⟨rfl, rfl⟩, trivial⟩ ?_
        rintro _ _ ⟨rfl, rfl⟩
        simp (maxSteps := 4000000) only [Try.results15, r8, r1, r9, f4, f5, f6, w8, w1, w9, w12, w16, PXT_pair, PXT_done, XX, Nat.reduceBEq, Nat.reduceLT, Nat.reduceAdd, Nat.reduceMul, Nat.reduceSub, Nat.reduceLeDiff, Nat.reduceEqDiff, Int.reduceToNat, Int.reduceLT, Int.reduceLE, Int.reduceAdd, Int.reduceSub, Int.reduceEq, reduceIte, Nat.reduceBNe, Int.reducePow, Nat.reducePow, Int.reduceMul, Int.reduceNeg, isB_i, isB_b, isB_y, isBv_i, isBv_b, eqCells_t, TT]
        refine ⟨⟨by omega, by omega, by omega⟩, ⟨⟨by omega, by unfold maxLen; omega⟩, by rw [rs_drop, rs_len]; simp; omega⟩, ?_⟩
        refine xapp_nil (ty := 5) (news := bsC ((l.take (n16 l 2)).drop 20)) (z := [.v (.int .u8 0)]) (fun h => by rw [List.eq_nil_of_length_eq_zero (lD.trans h)]; rfl) rfl (fun y3 o1 ho1 => ?_) (fun c => by simp only [eD, bsR_toSC]; rfl)
        simp (maxSteps := 4000000) only [Try.results15, zeros_flat, bs_app, XX, Nat.reduceBEq, Nat.reduceLT, Nat.reduceAdd, Nat.reduceMul, Nat.reduceSub, Nat.reduceLeDiff, Nat.reduceEqDiff, Int.reduceToNat, Int.reduceLT, Int.reduceLE, Int.reduceAdd, Int.reduceSub, Int.reduceEq, reduceIte, Nat.reduceBNe, Int.reducePow, Nat.reducePow, Int.reduceMul, Int.reduceNeg, isB_i, isB_b, isB_y, isBv_i, isBv_b, eqCells_t, TT]
        exact .inr ⟨2, List.replicate y3 0, o1, by simp only [slB, lD, List.length_replicate], ⟨rfl, by rw [lD, List.length_replicate]; exact ho1⟩⟩
    · skip
      refine call_fz [.c (roB l sp c), .c (i64 12), .c (i64 4)] (rnum4_spec l sp c 12 (by omega) hc hl) (fun t h' h => by obtain ⟨rfl, rfl⟩ := h; exact ⟨rfl, rfl⟩) ⟨.inl ⟨rfl, rfl⟩, .inl ⟨rfl, rfl⟩, .inl ⟨rfl, rfl⟩, trivial⟩ ?_
      rintro _ _ ⟨rfl, rfl⟩
      simp (maxSteps := 4000000) only [Try.results15, r8, r1, r9, f4, f5, f6, w8, w1, w9, w12, w16, PXT_pair, PXT_done, XX, Nat.reduceBEq, Nat.reduceLT, Nat.reduceAdd, Nat.reduceMul, Nat.reduceSub, Nat.reduceLeDiff, Nat.reduceEqDiff, Int.reduceToNat, Int.reduceLT, Int.reduceLE, Int.reduceAdd, Int.reduceSub, Int.reduceEq, reduceIte, Nat.reduceBNe, Int.reducePow, Nat.reducePow, Int.reduceMul, Int.reduceNeg, isB_i, isB_b, isB_y, isBv_i, isBv_b, eqCells_t, TT]
      refine call_fz [.c (roB l sp c), .c (i64 16), .c (i64 4)] (rnum4_spec l sp c 16 (by omega) hc hl) (fun t h' h => by obtain ⟨rfl, rfl⟩ := h; exact ⟨rfl, rfl⟩) ⟨.inl ⟨rfl, rfl⟩, .inl ⟨rfl, rfl⟩, .inl ⟨rfl, rfl⟩, trivial⟩ ?_
      rintro _ _ ⟨rfl, rfl⟩
      simp (maxSteps := 4000000) only [Try.results15, r8, r1, r9, f4, f5, f6, w8, w1, w9, w12, w16, PXT_pair, PXT_done, XX, Nat.reduceBEq, Nat.reduceLT, Nat.reduceAdd, Nat.reduceMul, Nat.reduceSub, Nat.reduceLeDiff, Nat.reduceEqDiff, Int.reduceToNat, Int.reduceLT, Int.reduceLE, Int.reduceAdd, Int.reduceSub, Int.reduceEq, reduceIte, Nat.reduceBNe, Int.reducePow, Nat.reducePow, Int.reduceMul, Int.reduceNeg, isB_i, isB_b, isB_y, isBv_i, isBv_b, eqCells_t, TT]
      refine ⟨⟨by omega, by omega, by omega⟩, ⟨⟨by omega, by unfold maxLen; omega⟩, by rw [rs_drop, rs_len]; simp; omega⟩, ?_⟩
      refine xapp_nil (ty := 5) (news := bsC ((l.take (n16 l 2)).drop 20)) (z := [.v (.int .u8 0)]) (fun h => by rw [List.eq_nil_of_length_eq_zero (lD.trans h)]; rfl) rfl (fun y3 o1 ho1 => ?_) (fun c => by simp only [eD, bsR_toSC]; rfl)
      simp (maxSteps := 4000000) only [Try.results15, zeros_flat, bs_app, XX, Nat.reduceBEq, Nat.reduceLT, Nat.reduceAdd, Nat.reduceMul, Nat.reduceSub, Nat.reduceLeDiff, Nat.reduceEqDiff, Int.reduceToNat, Int.reduceLT, Int.reduceLE, Int.reduceAdd, Int.reduceSub, Int.reduceEq, reduceIte, Nat.reduceBNe, Int.reducePow, Nat.reducePow, Int.reduceMul, Int.reduceNeg, isB_i, isB_b, isB_y, isBv_i, isBv_b, eqCells_t, TT]
      exact .inr ⟨2, List.replicate y3 0, o1, by simp only [slB, lD, List.length_replicate], ⟨rfl, by rw [lD, List.length_replicate]; exact ho1⟩⟩
  · skip
    refine call_fz [.c (roB l sp c), .c (i64 4), .c (i64 2)] (rnum2_spec l sp c 4 (by omega) hc hl) (fun t h' h => by obtain ⟨rfl, rfl⟩ := h; exact ⟨rfl, rfl⟩) ⟨.inl ⟨rfl, rfl⟩, .inl ⟨rfl, rfl⟩, .inl ⟨rfl, rfl⟩, trivial⟩ ?_
    rintro _ _ ⟨rfl, rfl⟩
    simp (maxSteps := 4000000) only [Try.results15, r8, r1, r9, f4, f5, f6, w8, w1, w9, w12, w16, PXT_pair, PXT_done, XX, Nat.reduceBEq, Nat.reduceLT, Nat.reduceAdd, Nat.reduceMul, Nat.reduceSub, Nat.reduceLeDiff, Nat.reduceEqDiff, Int.reduceToNat, Int.reduceLT, Int.reduceLE, Int.reduceAdd, Int.reduceSub, Int.reduceEq, reduceIte, Nat.reduceBNe, Int.reducePow, Nat.reducePow, Int.reduceMul, Int.reduceNeg, isB_i, isB_b, isB_y, isBv_i, isBv_b, eqCells_t, TT]
    refine call_fz [.c (roB l sp c), .c (i64 12), .c (i64 4)] (rnum4_spec l sp c 12 (by omega) hc hl) (fun t h' h => by obtain ⟨rfl, rfl⟩ := h; exact ⟨rfl, rfl⟩) ⟨.inl ⟨rfl, rfl⟩, .inl ⟨rfl, rfl⟩, .inl ⟨rfl, rfl⟩, trivial⟩ ?_
    rintro _ _ ⟨rfl, rfl⟩
    simp (maxSteps := 4000000) only [Try.results15, r8, r1, r9, f4, f5, f6, w8, w1, w9, w12, w16, PXT_pair, PXT_done, XX, Nat.reduceBEq, Nat.reduceLT, Nat.reduceAdd, Nat.reduceMul, Nat.reduceSub, Nat.reduceLeDiff, Nat.reduceEqDiff, Int.reduceToNat, Int.reduceLT, Int.reduceLE, Int.reduceAdd, Int.reduceSub, Int.reduceEq, reduceIte, Nat.reduceBNe, Int.reducePow, Nat.reducePow, Int.reduceMul, Int.reduceNeg, isB_i, isB_b, isB_y, isBv_i, isBv_b, eqCells_t, TT]
    refine call_fz [.c (roB l sp c), .c (i64 16), .c (i64 4)] (rnum4_spec l sp c 16 (by omega) hc hl) (fun t h' h => by obtain ⟨rfl, rfl⟩ := h; exact ⟨rfl, rfl⟩) ⟨.inl ⟨rfl, rfl⟩, .inl ⟨rfl, rfl⟩, .inl ⟨rfl, rfl⟩, trivial⟩ ?_
    rintro _ _ ⟨rfl, rfl⟩
    simp (maxSteps := 4000000) only [Try.results15, r8, r1, r9, f4, f5, f6, w8, w1, w9, w12, w16, PXT_pair, PXT_done, XX, Nat.reduceBEq, Nat.reduceLT, Nat.reduceAdd, Nat.reduceMul, Nat.reduceSub, Nat.reduceLeDiff, Nat.reduceEqDiff, Int.reduceToNat, Int.reduceLT, Int.reduceLE, Int.reduceAdd, Int.reduceSub, Int.reduceEq, reduceIte, Nat.reduceBNe, Int.reducePow, Nat.reducePow, Int.reduceMul, Int.reduceNeg, isB_i, isB_b, isB_y, isBv_i, isBv_b, eqCells_t, TT]
    refine ⟨⟨by omega, by omega, by omega⟩, ⟨⟨by omega, by unfold maxLen; omega⟩, by rw [rs_drop, rs_len]; simp; omega⟩, ?_⟩
    refine xapp_nil (ty := 5) (news := bsC ((l.take (n16 l 2)).drop 20)) (z := [.v (.int .u8 0)]) (fun h => by rw [List.eq_nil_of_length_eq_zero (lD.trans h)]; rfl) rfl (fun y3 o1 ho1 => ?_) (fun c => by simp only [eD, bsR_toSC]; rfl)
    simp (maxSteps := 4000000) only [Try.results15, zeros_flat, bs_app, XX, Nat.reduceBEq, Nat.reduceLT, Nat.reduceAdd, Nat.reduceMul, Nat.reduceSub, Nat.reduceLeDiff, Nat.reduceEqDiff, Int.reduceToNat, Int.reduceLT, Int.reduceLE, Int.reduceAdd, Int.reduceSub, Int.reduceEq, reduceIte, Nat.reduceBNe, Int.reducePow, Nat.reducePow, Int.reduceMul, Int.reduceNeg, isB_i, isB_b, isB_y, isBv_i, isBv_b, eqCells_t, TT]
    exact .inr ⟨2, List.replicate y3 0, o1, by simp only [slB, lD, List.length_replicate], ⟨rfl, by rw [lD, List.length_replicate]; exact ho1⟩⟩

end Go.Proofs.Ytipbnhgeanlkeaa.Sx
