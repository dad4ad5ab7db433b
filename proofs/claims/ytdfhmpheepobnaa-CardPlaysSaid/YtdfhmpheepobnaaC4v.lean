/- The symbolic executor, at work: two pairs of cards play. No condition. -/
import Derived.Test.YtdfhmpheepobnaaC4u
namespace Go.Proofs.Ytdfhmpheepobnaa.Sx
open Go
set_option linter.unusedSimpArgs false
set_option linter.unusedVariables false
set_option maxRecDepth 10000
set_option maxHeartbeats 4000000

theorem cardPlays_walk : ∀ css, RTyL (RTy T reachBytes DEPTH) [3, 3, 3, 3, 33] css → Spec Try.prog 6 (svs T [3, 3, 3, 3, 33] css) [] fun r _ => r = .c (.v (.bool true)) := by
  intro css h
  obtain ⟨x1, xs1, rfl, h1, g1⟩ := RTyL_cons h
  obtain ⟨x2, xs2, rfl, h2, g2⟩ := RTyL_cons g1
  obtain ⟨x3, xs3, rfl, h3, g3⟩ := RTyL_cons g2
  obtain ⟨x4, xs4, rfl, h4, g4⟩ := RTyL_cons g3
  obtain ⟨x5, xs5, rfl, h5, g5⟩ := RTyL_cons g4
  obtain rfl := RTyL_nil g5
  obtain ⟨n, rfl, hn⟩ := RTy_int T_3 h1
  obtain ⟨m, rfl, hm⟩ := RTy_int T_3 h2
  obtain ⟨n', rfl, hn'⟩ := RTy_int T_3 h3
  obtain ⟨m', rfl, hm'⟩ := RTy_int T_3 h4
  obtain ⟨items, N, rfl, hlen, hmax, hit⟩ := RTy_slice T_33 T_37 h5
  obtain ⟨ops, rfl, hops⟩ := all_form fun x hx => OpC.form (n := 3) (hit.2 x hx)
  simp only [List.length_map] at hlen hmax
  unfold maxLen at hmax
  have e1 : ∀ a : Int, svOf T 3 [.v (.int .i64 a)] = .c (i64 a) := fun _ => rfl
  have e3 : svOf T 33 [.sl (ops.map OpC.rc).flatten N (ops.map OpC.rc).length] = .c (.ro (ops.map OpC.rc).flatten N (ops.map OpC.rc).length) := rfl
  simp only [svs, e1, e3]
  have hsz := hit.1
  clear h1 h2 h3 h4 h5 g1 g2 g3 g4 g5 h e1 e3
  by_cases hb : n < 1 ∨ 64 < n ∨ m < 1 ∨ 64 < m
  · by_cases hb' : n' < 1 ∨ 64 < n' ∨ m' < 1 ∨ 64 < m'
    · refine spec_of_X cx_ok Try.func6 rfl (by kernel_rfl) (by kernel_rfl) (Nat.le_of_ble_eq_true rfl) 400 22 ?_
      simp (maxSteps := 4000000) only [Try.results6, XX, Nat.reduceBEq, Nat.reduceLT, Nat.reduceAdd, Nat.reduceMul, Nat.reduceSub, Nat.reduceLeDiff, Nat.reduceEqDiff, Int.reduceToNat, Int.reduceLT, Int.reduceLE, Int.reduceAdd, Int.reduceSub, Int.reduceEq, reduceIte, Nat.reduceBNe, Int.reducePow, Nat.reducePow, Int.reduceMul, Int.reduceNeg, isB_i, isB_b, isB_y, isBv_i, isBv_b, eqCells_t, TT]
      refine call_plain (live_spec) rfl ?_
      rintro _ rfl
      simp (maxSteps := 4000000) only [Try.results6, XX, Nat.reduceBEq, Nat.reduceLT, Nat.reduceAdd, Nat.reduceMul, Nat.reduceSub, Nat.reduceLeDiff, Nat.reduceEqDiff, Int.reduceToNat, Int.reduceLT, Int.reduceLE, Int.reduceAdd, Int.reduceSub, Int.reduceEq, reduceIte, Nat.reduceBNe, Int.reducePow, Nat.reducePow, Int.reduceMul, Int.reduceNeg, isB_i, isB_b, isB_y, isBv_i, isBv_b, eqCells_t, TT]
      refine call_plain (newN_spec n m hb) rfl ?_
      rintro _ rfl
      simp (maxSteps := 4000000) only [Try.results6, XX, Nat.reduceBEq, Nat.reduceLT, Nat.reduceAdd, Nat.reduceMul, Nat.reduceSub, Nat.reduceLeDiff, Nat.reduceEqDiff, Int.reduceToNat, Int.reduceLT, Int.reduceLE, Int.reduceAdd, Int.reduceSub, Int.reduceEq, reduceIte, Nat.reduceBNe, Int.reducePow, Nat.reducePow, Int.reduceMul, Int.reduceNeg, isB_i, isB_b, isB_y, isBv_i, isBv_b, eqCells_t, TT]
      refine call_plain (rnewN_spec n m hb) rfl ?_
      rintro _ rfl
      simp (maxSteps := 4000000) only [Try.results6, XX, Nat.reduceBEq, Nat.reduceLT, Nat.reduceAdd, Nat.reduceMul, Nat.reduceSub, Nat.reduceLeDiff, Nat.reduceEqDiff, Int.reduceToNat, Int.reduceLT, Int.reduceLE, Int.reduceAdd, Int.reduceSub, Int.reduceEq, reduceIte, Nat.reduceBNe, Int.reducePow, Nat.reducePow, Int.reduceMul, Int.reduceNeg, isB_i, isB_b, isB_y, isBv_i, isBv_b, eqCells_t, TT]
      refine call_plain (newN_spec n' m' hb') rfl ?_
      rintro _ rfl
      simp (maxSteps := 4000000) only [Try.results6, XX, Nat.reduceBEq, Nat.reduceLT, Nat.reduceAdd, Nat.reduceMul, Nat.reduceSub, Nat.reduceLeDiff, Nat.reduceEqDiff, Int.reduceToNat, Int.reduceLT, Int.reduceLE, Int.reduceAdd, Int.reduceSub, Int.reduceEq, reduceIte, Nat.reduceBNe, Int.reducePow, Nat.reducePow, Int.reduceMul, Int.reduceNeg, isB_i, isB_b, isB_y, isBv_i, isBv_b, eqCells_t, TT]
      refine call_plain (rnewN_spec n' m' hb') rfl ?_
      rintro _ rfl
      simp (maxSteps := 4000000) only [Try.results6, XX, Nat.reduceBEq, Nat.reduceLT, Nat.reduceAdd, Nat.reduceMul, Nat.reduceSub, Nat.reduceLeDiff, Nat.reduceEqDiff, Int.reduceToNat, Int.reduceLT, Int.reduceLE, Int.reduceAdd, Int.reduceSub, Int.reduceEq, reduceIte, Nat.reduceBNe, Int.reducePow, Nat.reducePow, Int.reduceMul, Int.reduceNeg, isB_i, isB_b, isB_y, isBv_i, isBv_b, eqCells_t, TT]
      refine draw_of cx_ok (by kernel_rfl) 400 [1, 2] [(0, true), (1, true), (2, true), (3, true), (4, true), (5, true), (6, true), (7, true), (8, true), (9, true), (10, true), (11, true), (12, true), (13, true), (14, true), (15, true), (16, true), (17, true), (18, true), (19, true), (20, true), (21, true), (22, true), (23, true), (24, true), (25, true), (26, true), (27, true)] (by kernel_rfl) rfl ?_
      simp (maxSteps := 4000000) only [Try.results6, XX, Nat.reduceBEq, Nat.reduceLT, Nat.reduceAdd, Nat.reduceMul, Nat.reduceSub, Nat.reduceLeDiff, Nat.reduceEqDiff, Int.reduceToNat, Int.reduceLT, Int.reduceLE, Int.reduceAdd, Int.reduceSub, Int.reduceEq, reduceIte, Nat.reduceBNe, Int.reducePow, Nat.reducePow, Int.reduceMul, Int.reduceNeg, isB_i, isB_b, isB_y, isBv_i, isBv_b, eqCells_t, TT]
    · obtain ⟨n', rfl⟩ : ∃ k : Nat, n' = k := ⟨n'.toNat, by omega⟩
      obtain ⟨m', rfl⟩ : ∃ k : Nat, m' = k := ⟨m'.toNat, by omega⟩
      have hN := new_spec n' m' (by omega) (by omega) (by omega) (by omega)
      have hR := rnew_spec n' m' (by omega) (by omega) (by omega) (by omega)
      refine spec_of_X cx_ok Try.func6 rfl (by kernel_rfl) (by kernel_rfl) (Nat.le_of_ble_eq_true rfl) 400 22 ?_
      simp (maxSteps := 4000000) only [Try.results6, XX, Nat.reduceBEq, Nat.reduceLT, Nat.reduceAdd, Nat.reduceMul, Nat.reduceSub, Nat.reduceLeDiff, Nat.reduceEqDiff, Int.reduceToNat, Int.reduceLT, Int.reduceLE, Int.reduceAdd, Int.reduceSub, Int.reduceEq, reduceIte, Nat.reduceBNe, Int.reducePow, Nat.reducePow, Int.reduceMul, Int.reduceNeg, isB_i, isB_b, isB_y, isBv_i, isBv_b, eqCells_t, TT]
      refine call_plain (live_spec) rfl ?_
      rintro _ rfl
      simp (maxSteps := 4000000) only [Try.results6, XX, Nat.reduceBEq, Nat.reduceLT, Nat.reduceAdd, Nat.reduceMul, Nat.reduceSub, Nat.reduceLeDiff, Nat.reduceEqDiff, Int.reduceToNat, Int.reduceLT, Int.reduceLE, Int.reduceAdd, Int.reduceSub, Int.reduceEq, reduceIte, Nat.reduceBNe, Int.reducePow, Nat.reducePow, Int.reduceMul, Int.reduceNeg, isB_i, isB_b, isB_y, isBv_i, isBv_b, eqCells_t, TT]
      refine call_plain (newN_spec n m hb) rfl ?_
      rintro _ rfl
      simp (maxSteps := 4000000) only [Try.results6, XX, Nat.reduceBEq, Nat.reduceLT, Nat.reduceAdd, Nat.reduceMul, Nat.reduceSub, Nat.reduceLeDiff, Nat.reduceEqDiff, Int.reduceToNat, Int.reduceLT, Int.reduceLE, Int.reduceAdd, Int.reduceSub, Int.reduceEq, reduceIte, Nat.reduceBNe, Int.reducePow, Nat.reducePow, Int.reduceMul, Int.reduceNeg, isB_i, isB_b, isB_y, isBv_i, isBv_b, eqCells_t, TT]
      refine call_plain (rnewN_spec n m hb) rfl ?_
      rintro _ rfl
      simp (maxSteps := 4000000) only [Try.results6, XX, Nat.reduceBEq, Nat.reduceLT, Nat.reduceAdd, Nat.reduceMul, Nat.reduceSub, Nat.reduceLeDiff, Nat.reduceEqDiff, Int.reduceToNat, Int.reduceLT, Int.reduceLE, Int.reduceAdd, Int.reduceSub, Int.reduceEq, reduceIte, Nat.reduceBNe, Int.reducePow, Nat.reducePow, Int.reduceMul, Int.reduceNeg, isB_i, isB_b, isB_y, isBv_i, isBv_b, eqCells_t, TT]
      refine call_frame hN [] rfl rfl trivial rfl rfl ?_
      rintro _ _ ⟨rfl, rfl⟩
      simp (maxSteps := 4000000) only [Try.results6, ids_bsC, ren_bsC, noRo_bsC, plain_bsC, lt_bsC, ids_byte, ren_byte, noRo_byte, plain_byte, lt_byte, slC_ren, List.length_replicate, XX, Nat.reduceBEq, Nat.reduceLT, Nat.reduceAdd, Nat.reduceMul, Nat.reduceSub, Nat.reduceLeDiff, Nat.reduceEqDiff, Int.reduceToNat, Int.reduceLT, Int.reduceLE, Int.reduceAdd, Int.reduceSub, Int.reduceEq, reduceIte, Nat.reduceBNe, Int.reducePow, Nat.reducePow, Int.reduceMul, Int.reduceNeg, isB_i, isB_b, isB_y, isBv_i, isBv_b, eqCells_t, TT]
      refine call_frame hR [] rfl rfl trivial rfl rfl ?_
      rintro _ _ ⟨j1, j2, rfl, rfl⟩
      simp (maxSteps := 4000000) only [Try.results6, ids_bsC, ren_bsC, noRo_bsC, plain_bsC, lt_bsC, ids_byte, ren_byte, noRo_byte, plain_byte, lt_byte, dsN_ren, XX, Nat.reduceBEq, Nat.reduceLT, Nat.reduceAdd, Nat.reduceMul, Nat.reduceSub, Nat.reduceLeDiff, Nat.reduceEqDiff, Int.reduceToNat, Int.reduceLT, Int.reduceLE, Int.reduceAdd, Int.reduceSub, Int.reduceEq, reduceIte, Nat.reduceBNe, Int.reducePow, Nat.reducePow, Int.reduceMul, Int.reduceNeg, isB_i, isB_b, isB_y, isBv_i, isBv_b, eqCells_t, TT]
      refine draw_of cx_ok (by kernel_rfl) 400 [1, 8] [(0, true), (1, true), (2, true), (3, true), (4, true), (5, true), (6, true), (7, true), (8, true), (9, true), (10, true), (11, true), (12, true), (13, true), (14, true), (15, true), (16, true), (17, true), (18, true), (19, true), (20, true), (21, true), (22, true), (23, true), (24, true), (25, true), (26, true), (27, true)] (by kernel_rfl) rfl ?_
      simp (maxSteps := 4000000) only [Try.results6, XX, Nat.reduceBEq, Nat.reduceLT, Nat.reduceAdd, Nat.reduceMul, Nat.reduceSub, Nat.reduceLeDiff, Nat.reduceEqDiff, Int.reduceToNat, Int.reduceLT, Int.reduceLE, Int.reduceAdd, Int.reduceSub, Int.reduceEq, reduceIte, Nat.reduceBNe, Int.reducePow, Nat.reducePow, Int.reduceMul, Int.reduceNeg, isB_i, isB_b, isB_y, isBv_i, isBv_b, eqCells_t, TT]
  · obtain ⟨n, rfl⟩ : ∃ k : Nat, n = k := ⟨n.toNat, by omega⟩
    obtain ⟨m, rfl⟩ : ∃ k : Nat, m = k := ⟨m.toNat, by omega⟩
    have hN := new_spec n m (by omega) (by omega) (by omega) (by omega)
    have hR := rnew_spec n m (by omega) (by omega) (by omega) (by omega)
    by_cases hb' : n' < 1 ∨ 64 < n' ∨ m' < 1 ∨ 64 < m'
    · refine spec_of_X cx_ok Try.func6 rfl (by kernel_rfl) (by kernel_rfl) (Nat.le_of_ble_eq_true rfl) 400 22 ?_
      simp (maxSteps := 4000000) only [Try.results6, XX, Nat.reduceBEq, Nat.reduceLT, Nat.reduceAdd, Nat.reduceMul, Nat.reduceSub, Nat.reduceLeDiff, Nat.reduceEqDiff, Int.reduceToNat, Int.reduceLT, Int.reduceLE, Int.reduceAdd, Int.reduceSub, Int.reduceEq, reduceIte, Nat.reduceBNe, Int.reducePow, Nat.reducePow, Int.reduceMul, Int.reduceNeg, isB_i, isB_b, isB_y, isBv_i, isBv_b, eqCells_t, TT]
      refine call_plain (live_spec) rfl ?_
      rintro _ rfl
      simp (maxSteps := 4000000) only [Try.results6, XX, Nat.reduceBEq, Nat.reduceLT, Nat.reduceAdd, Nat.reduceMul, Nat.reduceSub, Nat.reduceLeDiff, Nat.reduceEqDiff, Int.reduceToNat, Int.reduceLT, Int.reduceLE, Int.reduceAdd, Int.reduceSub, Int.reduceEq, reduceIte, Nat.reduceBNe, Int.reducePow, Nat.reducePow, Int.reduceMul, Int.reduceNeg, isB_i, isB_b, isB_y, isBv_i, isBv_b, eqCells_t, TT]
      refine call_frame hN [] rfl rfl trivial rfl rfl ?_
      rintro _ _ ⟨rfl, rfl⟩
      simp (maxSteps := 4000000) only [Try.results6, ids_bsC, ren_bsC, noRo_bsC, plain_bsC, lt_bsC, ids_byte, ren_byte, noRo_byte, plain_byte, lt_byte, slC_ren, List.length_replicate, XX, Nat.reduceBEq, Nat.reduceLT, Nat.reduceAdd, Nat.reduceMul, Nat.reduceSub, Nat.reduceLeDiff, Nat.reduceEqDiff, Int.reduceToNat, Int.reduceLT, Int.reduceLE, Int.reduceAdd, Int.reduceSub, Int.reduceEq, reduceIte, Nat.reduceBNe, Int.reducePow, Nat.reducePow, Int.reduceMul, Int.reduceNeg, isB_i, isB_b, isB_y, isBv_i, isBv_b, eqCells_t, TT]
      refine call_frame hR [] rfl rfl trivial rfl rfl ?_
      rintro _ _ ⟨j1, j2, rfl, rfl⟩
      simp (maxSteps := 4000000) only [Try.results6, ids_bsC, ren_bsC, noRo_bsC, plain_bsC, lt_bsC, ids_byte, ren_byte, noRo_byte, plain_byte, lt_byte, dsN_ren, XX, Nat.reduceBEq, Nat.reduceLT, Nat.reduceAdd, Nat.reduceMul, Nat.reduceSub, Nat.reduceLeDiff, Nat.reduceEqDiff, Int.reduceToNat, Int.reduceLT, Int.reduceLE, Int.reduceAdd, Int.reduceSub, Int.reduceEq, reduceIte, Nat.reduceBNe, Int.reducePow, Nat.reducePow, Int.reduceMul, Int.reduceNeg, isB_i, isB_b, isB_y, isBv_i, isBv_b, eqCells_t, TT]
      refine call_plain (newN_spec n' m' hb') rfl ?_
      rintro _ rfl
      simp (maxSteps := 4000000) only [Try.results6, XX, Nat.reduceBEq, Nat.reduceLT, Nat.reduceAdd, Nat.reduceMul, Nat.reduceSub, Nat.reduceLeDiff, Nat.reduceEqDiff, Int.reduceToNat, Int.reduceLT, Int.reduceLE, Int.reduceAdd, Int.reduceSub, Int.reduceEq, reduceIte, Nat.reduceBNe, Int.reducePow, Nat.reducePow, Int.reduceMul, Int.reduceNeg, isB_i, isB_b, isB_y, isBv_i, isBv_b, eqCells_t, TT]
      refine call_plain (rnewN_spec n' m' hb') rfl ?_
      rintro _ rfl
      simp (maxSteps := 4000000) only [Try.results6, XX, Nat.reduceBEq, Nat.reduceLT, Nat.reduceAdd, Nat.reduceMul, Nat.reduceSub, Nat.reduceLeDiff, Nat.reduceEqDiff, Int.reduceToNat, Int.reduceLT, Int.reduceLE, Int.reduceAdd, Int.reduceSub, Int.reduceEq, reduceIte, Nat.reduceBNe, Int.reducePow, Nat.reducePow, Int.reduceMul, Int.reduceNeg, isB_i, isB_b, isB_y, isBv_i, isBv_b, eqCells_t, TT]
      refine draw_of cx_ok (by kernel_rfl) 400 [7, 8] [(0, true), (1, true), (2, true), (3, true), (4, true), (5, true), (6, true), (7, true), (8, true), (9, true), (10, true), (11, true), (12, true), (13, true), (14, true), (15, true), (16, true), (17, true), (18, true), (19, true), (20, true), (21, true), (22, true), (23, true), (24, true), (25, true), (26, true), (27, true)] (by kernel_rfl) rfl ?_
      simp (maxSteps := 4000000) only [Try.results6, XX, Nat.reduceBEq, Nat.reduceLT, Nat.reduceAdd, Nat.reduceMul, Nat.reduceSub, Nat.reduceLeDiff, Nat.reduceEqDiff, Int.reduceToNat, Int.reduceLT, Int.reduceLE, Int.reduceAdd, Int.reduceSub, Int.reduceEq, reduceIte, Nat.reduceBNe, Int.reducePow, Nat.reducePow, Int.reduceMul, Int.reduceNeg, isB_i, isB_b, isB_y, isBv_i, isBv_b, eqCells_t, TT]
    obtain ⟨n', rfl⟩ : ∃ k : Nat, n' = k := ⟨n'.toNat, by omega⟩
    obtain ⟨m', rfl⟩ : ∃ k : Nat, m' = k := ⟨m'.toNat, by omega⟩
    have hN' := new_spec n' m' (by omega) (by omega) (by omega) (by omega)
    have hR' := rnew_spec n' m' (by omega) (by omega) (by omega) (by omega)
    refine spec_of_X cx_ok Try.func6 rfl (by kernel_rfl) (by kernel_rfl) (Nat.le_of_ble_eq_true rfl) 400 22 ?_
    simp (maxSteps := 4000000) only [Try.results6, XX, Nat.reduceBEq, Nat.reduceLT, Nat.reduceAdd, Nat.reduceMul, Nat.reduceSub, Nat.reduceLeDiff, Nat.reduceEqDiff, Int.reduceToNat, Int.reduceLT, Int.reduceLE, Int.reduceAdd, Int.reduceSub, Int.reduceEq, reduceIte, Nat.reduceBNe, Int.reducePow, Nat.reducePow, Int.reduceMul, Int.reduceNeg, isB_i, isB_b, isB_y, isBv_i, isBv_b, eqCells_t, TT]
    refine call_plain (live_spec) rfl ?_
    rintro _ rfl
    simp (maxSteps := 4000000) only [Try.results6, XX, Nat.reduceBEq, Nat.reduceLT, Nat.reduceAdd, Nat.reduceMul, Nat.reduceSub, Nat.reduceLeDiff, Nat.reduceEqDiff, Int.reduceToNat, Int.reduceLT, Int.reduceLE, Int.reduceAdd, Int.reduceSub, Int.reduceEq, reduceIte, Nat.reduceBNe, Int.reducePow, Nat.reducePow, Int.reduceMul, Int.reduceNeg, isB_i, isB_b, isB_y, isBv_i, isBv_b, eqCells_t, TT]
    refine call_frame hN [] rfl rfl trivial rfl rfl ?_
    rintro _ _ ⟨rfl, rfl⟩
    simp (maxSteps := 4000000) only [Try.results6, ids_bsC, ren_bsC, noRo_bsC, plain_bsC, lt_bsC, ids_byte, ren_byte, noRo_byte, plain_byte, lt_byte, slC_ren, List.length_replicate, XX, Nat.reduceBEq, Nat.reduceLT, Nat.reduceAdd, Nat.reduceMul, Nat.reduceSub, Nat.reduceLeDiff, Nat.reduceEqDiff, Int.reduceToNat, Int.reduceLT, Int.reduceLE, Int.reduceAdd, Int.reduceSub, Int.reduceEq, reduceIte, Nat.reduceBNe, Int.reducePow, Nat.reducePow, Int.reduceMul, Int.reduceNeg, isB_i, isB_b, isB_y, isBv_i, isBv_b, eqCells_t, TT]
    refine call_frame hR [] rfl rfl trivial rfl rfl ?_
    rintro _ _ ⟨j1, j2, rfl, rfl⟩
    simp (maxSteps := 4000000) only [Try.results6, ids_bsC, ren_bsC, noRo_bsC, plain_bsC, lt_bsC, ids_byte, ren_byte, noRo_byte, plain_byte, lt_byte, dsN_ren, XX, Nat.reduceBEq, Nat.reduceLT, Nat.reduceAdd, Nat.reduceMul, Nat.reduceSub, Nat.reduceLeDiff, Nat.reduceEqDiff, Int.reduceToNat, Int.reduceLT, Int.reduceLE, Int.reduceAdd, Int.reduceSub, Int.reduceEq, reduceIte, Nat.reduceBNe, Int.reducePow, Nat.reducePow, Int.reduceMul, Int.reduceNeg, isB_i, isB_b, isB_y, isBv_i, isBv_b, eqCells_t, TT]
    refine call_frame hN' [] rfl rfl trivial rfl rfl ?_
    rintro _ _ ⟨rfl, rfl⟩
    simp (maxSteps := 4000000) only [Try.results6, ids_bsC, ren_bsC, noRo_bsC, plain_bsC, lt_bsC, ids_byte, ren_byte, noRo_byte, plain_byte, lt_byte, slC_ren, List.length_replicate, XX, Nat.reduceBEq, Nat.reduceLT, Nat.reduceAdd, Nat.reduceMul, Nat.reduceSub, Nat.reduceLeDiff, Nat.reduceEqDiff, Int.reduceToNat, Int.reduceLT, Int.reduceLE, Int.reduceAdd, Int.reduceSub, Int.reduceEq, reduceIte, Nat.reduceBNe, Int.reducePow, Nat.reducePow, Int.reduceMul, Int.reduceNeg, isB_i, isB_b, isB_y, isBv_i, isBv_b, eqCells_t, TT]
    refine call_frame hR' [] rfl rfl trivial rfl rfl ?_
    rintro _ _ ⟨j1', j2', rfl, rfl⟩
    simp (maxSteps := 4000000) only [Try.results6, ids_bsC, ren_bsC, noRo_bsC, plain_bsC, lt_bsC, ids_byte, ren_byte, noRo_byte, plain_byte, lt_byte, dsN_ren, XX, Nat.reduceBEq, Nat.reduceLT, Nat.reduceAdd, Nat.reduceMul, Nat.reduceSub, Nat.reduceLeDiff, Nat.reduceEqDiff, Int.reduceToNat, Int.reduceLT, Int.reduceLE, Int.reduceAdd, Int.reduceSub, Int.reduceEq, reduceIte, Nat.reduceBNe, Int.reducePow, Nat.reducePow, Int.reduceMul, Int.reduceNeg, isB_i, isB_b, isB_y, isBv_i, isBv_b, eqCells_t, TT]
    have dj : ∀ i, X6 8 9 10 11 12 13 i → ¬ X6 1 2 3 4 5 6 i := by
      intro i h h'
      simp only [X6] at h h'
      omega
    have dj' : ∀ i, X6 1 2 3 4 5 6 i → ¬ X6 8 9 10 11 12 13 i := fun i h h' => dj i h' h
    have n7 : ¬ X6 1 2 3 4 5 6 7 := by simp [X6]
    have n14 : ¬ X6 1 2 3 4 5 6 14 := by simp [X6]
    have m7 : ¬ X6 8 9 10 11 12 13 7 := by simp [X6]
    have m14 : ¬ X6 8 9 10 11 12 13 14 := by simp [X6]
    refine loop_any cx_ok 400 (fun μ σ => ∃ (i : Nat) (H : List SB) (S : Nat → Prop) (kp kq : CK) (es : List OE), μ = N - i ∧ i ≤ N ∧ J4 S H 1 2 3 4 5 6 0 kp kp es ∧ J4 S H 8 9 10 11 12 13 0 kq kq es ∧ kp.ok ∧ kq.ok ∧ H[7]? = some (pairB 1 4 0) ∧ H[14]? = some (pairB 8 11 0) ∧ es.length ≤ i ∧
        σ = ⟨⟨22, 0⟩, [(4, .c (.ro (ops.map OpC.rc).flatten N (ops.map OpC.rc).length)), (10, .c (.v (.bool false))), (12, .c (.ptr 0 0)), (13, .c (.ptr 7 0)), (14, .c (.ptr 14 0)), (15, .c (i64 i))], H⟩) N
      (⟨⟨22, 0⟩, [(4, .c (.ro (ops.map OpC.rc).flatten N (ops.map OpC.rc).length)), (10, .c (.v (.bool false))), (12, .c (.ptr 0 0)), (13, .c (.ptr 7 0)), (14, .c (.ptr 14 0)), (15, .c (i64 (0 : Nat)))], _⟩)
      ⟨0, _, fun _ => False, newK n m, newK n' m', [], rfl, Nat.zero_le _, J4.start (j1 := j1) (j2 := j2) (by omega) (by omega) (by omega) (by omega) rfl rfl rfl rfl rfl rfl rfl (by decide) (by decide), J4.start (j1 := j1') (j2 := j2') (by omega) (by omega) (by omega) (by omega) rfl rfl rfl rfl rfl rfl rfl (by decide) (by decide), newK_ok (by omega) (by omega) (by omega) (by omega), newK_ok (by omega) (by omega) (by omega) (by omega), rfl, rfl, Nat.le_refl _, rfl⟩ (.inl ⟨rfl, rfl, rfl, rfl, rfl, rfl, rfl, rfl, trivial⟩) ?_
    clear hN hR hN' hR'
    have p3 : (55 : Nat) ≠ 52 ∧ (55 : Nat) ≠ 35 ∧ (55 : Nat) ≠ 9 := ⟨by decide, by decide, by decide⟩
    have hsz2 : ops.length * 40 ≤ 140737488351232 := by
      simp only [List.length_map] at hsz
      exact hsz
    rintro μ σ ⟨i, H, S, kp, kq, es, rfl, hi, Jp, Jq, okp, okq, h7, h14, hes, rfl⟩
    by_cases hlt : i < N
    · have di : decide ((i : Int) < (N : Int)) = true := by simp only [decide_eq_true_eq]; omega
      have ei : IntKind.i64.wrap ((i : Int) + 1) = ((i + 1 : Nat) : Int) := by rw [w64] <;> omega
      obtain ⟨o, ho⟩ : ∃ o, ops[i]? = some o := ⟨_, List.getElem?_eq_getElem (by omega)⟩
      obtain ⟨R, hR⟩ := opsC_drop ho
      simp only [OpC.rc, List.cons_append, List.nil_append] at hR
      obtain ⟨hc1, hc2, hc3, hc4⟩ := hops o (List.mem_of_getElem? ho)
      by_cases h3 : i % 4 = 3
      · have d3 : decide ((i : Int).tmod 4 = 3) = true := by rw [show (i : Int).tmod 4 = ((i % 4 : Nat) : Int) from rfl]; simp only [decide_eq_true_eq]; omega
        simp (maxSteps := 4000000) only [Try.results6, di, d3, hR, XX, Nat.reduceBEq, Nat.reduceLT, Nat.reduceAdd, Nat.reduceMul, Nat.reduceSub, Nat.reduceLeDiff, Nat.reduceEqDiff, Int.reduceToNat, Int.reduceLT, Int.reduceLE, Int.reduceAdd, Int.reduceSub, Int.reduceEq, reduceIte, Nat.reduceBNe, Int.reducePow, Nat.reducePow, Int.reduceMul, Int.reduceNeg, isB_i, isB_b, isB_y, isBv_i, isBv_b, eqCells_t, TT]
        refine ⟨by omega, ?_⟩
        refine call_is (step_spec Jq okq h14 (by omega) o.k o.i o.l o.sp o.c hc1 (by omega)) ?_
        rintro _ h' ⟨rfl, S1, k1, es1, J1, ok1, K1, s1, s2, l1⟩
        have J2 := Jq.other Jp J1 K1 s2 dj'
        have g7 := K1.2 7 _ h7 m7 p3.1 p3.2.1 p3.2.2
        have g14 := K1.2 14 _ h14 m14 p3.1 p3.2.1 p3.2.2
        simp (maxSteps := 4000000) only [Try.results6, ei, XX, Nat.reduceBEq, Nat.reduceLT, Nat.reduceAdd, Nat.reduceMul, Nat.reduceSub, Nat.reduceLeDiff, Nat.reduceEqDiff, Int.reduceToNat, Int.reduceLT, Int.reduceLE, Int.reduceAdd, Int.reduceSub, Int.reduceEq, reduceIte, Nat.reduceBNe, Int.reducePow, Nat.reducePow, Int.reduceMul, Int.reduceNeg, isB_i, isB_b, isB_y, isBv_i, isBv_b, eqCells_t, TT]
        exact ⟨N - (i + 1), by omega, _, ⟨i + 1, h', S1, kp, k1, es1, rfl, by omega, J2, J1, okp, ok1, g7, g14, by omega, rfl⟩, .inl ⟨rfl, rfl, rfl, rfl, rfl, rfl, rfl, rfl, trivial⟩⟩
      · have d3 : decide ((i : Int).tmod 4 = 3) = false := by rw [show (i : Int).tmod 4 = ((i % 4 : Nat) : Int) from rfl]; simp only [decide_eq_false_iff_not]; omega
        simp (maxSteps := 4000000) only [Try.results6, di, d3, hR, XX, Nat.reduceBEq, Nat.reduceLT, Nat.reduceAdd, Nat.reduceMul, Nat.reduceSub, Nat.reduceLeDiff, Nat.reduceEqDiff, Int.reduceToNat, Int.reduceLT, Int.reduceLE, Int.reduceAdd, Int.reduceSub, Int.reduceEq, reduceIte, Nat.reduceBNe, Int.reducePow, Nat.reducePow, Int.reduceMul, Int.reduceNeg, isB_i, isB_b, isB_y, isBv_i, isBv_b, eqCells_t, TT]
        refine ⟨by omega, ?_⟩
        refine call_is (step_spec Jp okp h7 (by omega) o.k o.i o.l o.sp o.c hc1 (by omega)) ?_
        rintro _ h' ⟨rfl, S1, k1, es1, J1, ok1, K1, s1, s2, l1⟩
        have J2 := Jp.other Jq J1 K1 s2 dj
        have g7 := K1.2 7 _ h7 n7 p3.1 p3.2.1 p3.2.2
        have g14 := K1.2 14 _ h14 n14 p3.1 p3.2.1 p3.2.2
        simp (maxSteps := 4000000) only [Try.results6, ei, XX, Nat.reduceBEq, Nat.reduceLT, Nat.reduceAdd, Nat.reduceMul, Nat.reduceSub, Nat.reduceLeDiff, Nat.reduceEqDiff, Int.reduceToNat, Int.reduceLT, Int.reduceLE, Int.reduceAdd, Int.reduceSub, Int.reduceEq, reduceIte, Nat.reduceBNe, Int.reducePow, Nat.reducePow, Int.reduceMul, Int.reduceNeg, isB_i, isB_b, isB_y, isBv_i, isBv_b, eqCells_t, TT]
        exact ⟨N - (i + 1), by omega, _, ⟨i + 1, h', S1, k1, kq, es1, rfl, by omega, J1, J2, ok1, okq, g7, g14, by omega, rfl⟩, .inl ⟨rfl, rfl, rfl, rfl, rfl, rfl, rfl, rfl, trivial⟩⟩
    obtain rfl : i = N := by omega
    have di : decide ((i : Int) < (i : Int)) = false := by simp
    simp (maxSteps := 4000000) only [Try.results6, di, XX, Nat.reduceBEq, Nat.reduceLT, Nat.reduceAdd, Nat.reduceMul, Nat.reduceSub, Nat.reduceLeDiff, Nat.reduceEqDiff, Int.reduceToNat, Int.reduceLT, Int.reduceLE, Int.reduceAdd, Int.reduceSub, Int.reduceEq, reduceIte, Nat.reduceBNe, Int.reducePow, Nat.reducePow, Int.reduceMul, Int.reduceNeg, isB_i, isB_b, isB_y, isBv_i, isBv_b, eqCells_t, TT]
    refine call_is (last_spec Jp okp h7 (by omega)) ?_
    rintro _ H1 ⟨rfl, S1, kp1, es1, J1, okp1, K1, _, s2, l1⟩
    have Jq1 := Jp.other Jq J1 K1 s2 dj
    have a7 := K1.2 7 _ h7 n7 p3.1 p3.2.1 p3.2.2
    have a14 := K1.2 14 _ h14 n14 p3.1 p3.2.1 p3.2.2
    clear Jp Jq h7 h14 K1 s2
    simp (maxSteps := 4000000) only [Try.results6, XX, Nat.reduceBEq, Nat.reduceLT, Nat.reduceAdd, Nat.reduceMul, Nat.reduceSub, Nat.reduceLeDiff, Nat.reduceEqDiff, Int.reduceToNat, Int.reduceLT, Int.reduceLE, Int.reduceAdd, Int.reduceSub, Int.reduceEq, reduceIte, Nat.reduceBNe, Int.reducePow, Nat.reducePow, Int.reduceMul, Int.reduceNeg, isB_i, isB_b, isB_y, isBv_i, isBv_b, eqCells_t, TT]
    refine call_is (last_spec Jq1 okq a14 (by omega)) ?_
    rintro _ H2 ⟨rfl, S2, kq1, es2, J2, okq1, K2, _, s2, l2⟩
    have Jp2 := Jq1.other J1 J2 K2 s2 dj'
    have b7 := K2.2 7 _ a7 m7 p3.1 p3.2.1 p3.2.2
    have b14 := K2.2 14 _ a14 m14 p3.1 p3.2.1 p3.2.2
    clear J1 Jq1 a7 a14 K2 s2
    simp (maxSteps := 4000000) only [Try.results6, XX, Nat.reduceBEq, Nat.reduceLT, Nat.reduceAdd, Nat.reduceMul, Nat.reduceSub, Nat.reduceLeDiff, Nat.reduceEqDiff, Int.reduceToNat, Int.reduceLT, Int.reduceLE, Int.reduceAdd, Int.reduceSub, Int.reduceEq, reduceIte, Nat.reduceBNe, Int.reducePow, Nat.reducePow, Int.reduceMul, Int.reduceNeg, isB_i, isB_b, isB_y, isBv_i, isBv_b, eqCells_t, TT]
    refine call_is (ownedB_spec Jp2 (by omega)) ?_
    rintro _ H3 ⟨rfl, l3, K3⟩
    have key : ∀ (i : Nat) (b : SB), H2[i]? = some b → b.ty = 55 → ∀ e ∈ es2, e.w ≠ i := fun i b hi ht e he => by
      obtain ⟨j, hj, h⟩ := List.getElem_of_mem he
      exact Ne.symm (ty_ne hi (Jp2.O.at_ j e (by rw [List.getElem?_eq_getElem hj, h])) (by rw [ht]; exact (by decide : (55 : Nat) ≠ 5)))
    have c7 := K3 7 _ b7 p3.1 p3.2.1 p3.2.2 (key 7 _ b7 rfl)
    have c14 := K3 14 _ b14 p3.1 p3.2.1 p3.2.2 (key 14 _ b14 rfl)
    have q7 := lt_of c7
    have q14 := lt_of c14
    have d7 : ∀ y, (H3 ++ [y])[7]? = some (pairB 1 4 0) := fun y => by rw [List.getElem?_append_left q7]; exact c7
    have d14 : ∀ y z, ((H3 ++ [y]).set 7 z)[14]? = some (pairB 8 11 0) := fun y z => by rw [List.getElem?_set_ne (by omega), List.getElem?_append_left q14]; exact c14
    have e7 : ∀ y z, ((H3 ++ [y]).set 7 z)[7]? = some z := fun y z => List.getElem?_set_self (by simp; omega)
    have f7 : 7 < H3.length + 1 := by omega
    have f14 : 14 < H3.length + 1 := by omega
    simp (maxSteps := 4000000) only [Try.results6, d7, d14, e7, append_len1, List.length_set, f7, f14, XX, Nat.reduceBEq, Nat.reduceLT, Nat.reduceAdd, Nat.reduceMul, Nat.reduceSub, Nat.reduceLeDiff, Nat.reduceEqDiff, Int.reduceToNat, Int.reduceLT, Int.reduceLE, Int.reduceAdd, Int.reduceSub, Int.reduceEq, reduceIte, Nat.reduceBNe, Int.reducePow, Nat.reducePow, Int.reduceMul, Int.reduceNeg, isB_i, isB_b, isB_y, isBv_i, isBv_b, eqCells_t, TT]
    have Ja : J4 S2 (H3 ++ [bookB nilC nilC]) 1 2 3 4 5 6 H3.length kp1 kp1 [] := Jp2.anew (by simp; omega) (fun i b hi n1 n2 n3 n4 => by
      have := K3 i b hi n1 n2 n3 n4
      rw [List.getElem?_append_left (lt_of this)]; exact this) (append_at _)
    have Jb : J4 S2 (H3 ++ [bookB nilC nilC]) 8 9 10 11 12 13 H3.length kq1 kq1 [] := J2.anew (by simp; omega) (fun i b hi n1 n2 n3 n4 => by
      have := K3 i b hi n1 n2 n3 n4
      rw [List.getElem?_append_left (lt_of this)]; exact this) (append_at _)
    have off : ∀ (i : Nat) (b : SB), (H3 ++ [bookB nilC nilC])[i]? = some b → tyP b.ty → ∀ y z, (((H3 ++ [bookB nilC nilC]).set 7 y).set 14 z)[i]? = some b := fun i b hi ht y z => by
      have t1 : i ≠ 7 := by
        rintro rfl
        rw [d7] at hi; cases hi
        exact tyPair ht
      have t2 : i ≠ 14 := by
        rintro rfl
        rw [List.getElem?_append_left q14, c14] at hi; cases hi
        exact tyPair ht
      rw [List.getElem?_set_ne (Ne.symm t2), List.getElem?_set_ne (Ne.symm t1)]
      exact hi
    obtain ⟨H4, hH4⟩ : ∃ H4, H4 = ((H3 ++ [bookB nilC nilC]).set 7 (pairB 1 4 H3.length)).set 14 (pairB 8 11 H3.length) := ⟨_, rfl⟩
    have Jc : J4 S2 H4 1 2 3 4 5 6 H3.length kp1 kp1 [] := Ja.keep (by rw [hH4]; simp) fun i b hi ht => by rw [hH4]; exact off i b hi ht _ _
    have Jd : J4 S2 H4 8 9 10 11 12 13 H3.length kq1 kq1 [] := Jb.keep (by rw [hH4]; simp) fun i b hi ht => by rw [hH4]; exact off i b hi ht _ _
    have x7 : H4[7]? = some (pairB 1 4 H3.length) := by rw [hH4, List.getElem?_set_ne (by omega)]; exact e7 _ _
    have x14 : H4[14]? = some (pairB 8 11 H3.length) := by rw [hH4]; exact List.getElem?_set_self (by simp; omega)
    rw [← hH4]
    clear hH4 off Ja Jb d7 d14 e7 c7 c14
    refine call_is (last_spec Jc okp1 x7 (by simp)) ?_
    rintro _ H5 ⟨rfl, S5, kp5, es5, J5, okp5, K5, _, s5, l5⟩
    have Jq5 := Jc.other Jd J5 K5 s5 dj
    have y14 := K5.2 14 _ x14 n14 p3.1 p3.2.1 p3.2.2
    simp (maxSteps := 4000000) only [Try.results6, XX, Nat.reduceBEq, Nat.reduceLT, Nat.reduceAdd, Nat.reduceMul, Nat.reduceSub, Nat.reduceLeDiff, Nat.reduceEqDiff, Int.reduceToNat, Int.reduceLT, Int.reduceLE, Int.reduceAdd, Int.reduceSub, Int.reduceEq, reduceIte, Nat.reduceBNe, Int.reducePow, Nat.reducePow, Int.reduceMul, Int.reduceNeg, isB_i, isB_b, isB_y, isBv_i, isBv_b, eqCells_t, TT]
    simp only [List.length_nil] at l5
    refine call_is (last_spec Jq5 okq1 y14 (by omega)) ?_
    rintro _ H6 ⟨rfl, _⟩
    simp (maxSteps := 4000000) only [Try.results6, XX, Nat.reduceBEq, Nat.reduceLT, Nat.reduceAdd, Nat.reduceMul, Nat.reduceSub, Nat.reduceLeDiff, Nat.reduceEqDiff, Int.reduceToNat, Int.reduceLT, Int.reduceLE, Int.reduceAdd, Int.reduceSub, Int.reduceEq, reduceIte, Nat.reduceBNe, Int.reducePow, Nat.reducePow, Int.reduceMul, Int.reduceNeg, isB_i, isB_b, isB_y, isBv_i, isBv_b, eqCells_t, TT]

end Go.Proofs.Ytdfhmpheepobnaa.Sx
