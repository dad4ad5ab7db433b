/- The symbolic executor, at work: questions for addresses, laid by the reference. No condition. -/
import Derived.Test.YtcihljikepielaaA8f
import Derived.Test.YtcihljikepielaaA8a
namespace Go.Proofs.Ytcihljikepielaa.Sx
open Go
set_option linter.unusedSimpArgs false
set_option linter.unusedVariables false
set_option maxRecDepth 10000
set_option maxHeartbeats 2000000

theorem rmacL_spec (m : M6) : Spec cx.P 29 [.agg (bsC m.l)] [] (resS m.l) := by
  refine resS_of ?_
  refine spec_of_X cx_ok Try.func29 rfl (by kernel_rfl) (by kernel_rfl) (Nat.le_of_ble_eq_true rfl) 400 3 ?_
  simp (maxSteps := 4000000) only [Try.results29, XX, Nat.reduceBEq, Nat.reduceLT, Nat.reduceAdd, Nat.reduceMul, Nat.reduceSub, Nat.reduceLeDiff, Nat.reduceEqDiff, Int.reduceToNat, Int.reduceLT, Int.reduceLE, Int.reduceAdd, Int.reduceSub, Int.reduceEq, reduceIte, Nat.reduceBNe, Int.reducePow, Nat.reducePow, Int.reduceMul, Int.reduceNeg, isB_i, isB_b, isB_y, isBv_i, isBv_b, eqCells_t, TT]
  simp only [List.replicate_succ, List.replicate_zero, List.flatten_cons, List.flatten_nil, List.cons_append, List.nil_append, List.drop_succ_cons, List.drop_zero, List.length_cons, List.length_nil, Nat.reduceAdd, Nat.reduceLeDiff, reduceIte]
  simp (maxSteps := 4000000) only [Try.results29, XX, Nat.reduceBEq, Nat.reduceLT, Nat.reduceAdd, Nat.reduceMul, Nat.reduceSub, Nat.reduceLeDiff, Nat.reduceEqDiff, Int.reduceToNat, Int.reduceLT, Int.reduceLE, Int.reduceAdd, Int.reduceSub, Int.reduceEq, reduceIte, Nat.reduceBNe, Int.reducePow, Nat.reducePow, Int.reduceMul, Int.reduceNeg, isB_i, isB_b, isB_y, isBv_i, isBv_b, eqCells_t, TT]
  exact ⟨1, [], true, rfl, rfl, fun _ => rfl⟩

theorem renc_bad (o : Int) (sm : M6) (si : Int) (dm : M6) (di : Int) (h1 : o ≠ 1) (h2 : o ≠ 2) : Spec cx.P 10 [.agg (arpC o sm si dm di)] [] fun r _ => r.plain = true ∧ r = .tup [(false, [.v (.slice none 0 0)]), (false, [i64 80])] := by
  have d1 : decide (o = 1) = false := by simpa using h1
  have d2 : decide (o = 2) = false := by simpa using h2
  refine spec_of_X cx_ok Try.func10 rfl (by kernel_rfl) (by kernel_rfl) (Nat.le_of_ble_eq_true rfl) 400 5 ?_
  simp (maxSteps := 4000000) only [Try.results10, XX, Nat.reduceBEq, Nat.reduceLT, Nat.reduceAdd, Nat.reduceMul, Nat.reduceSub, Nat.reduceLeDiff, Nat.reduceEqDiff, Int.reduceToNat, Int.reduceLT, Int.reduceLE, Int.reduceAdd, Int.reduceSub, Int.reduceEq, reduceIte, Nat.reduceBNe, Int.reducePow, Nat.reducePow, Int.reduceMul, Int.reduceNeg, isB_i, isB_b, isB_y, isBv_i, isBv_b, eqCells_t, TT]
  simp (maxSteps := 4000000) only [Try.results10, d1, d2, XX, Nat.reduceBEq, Nat.reduceLT, Nat.reduceAdd, Nat.reduceMul, Nat.reduceSub, Nat.reduceLeDiff, Nat.reduceEqDiff, Int.reduceToNat, Int.reduceLT, Int.reduceLE, Int.reduceAdd, Int.reduceSub, Int.reduceEq, reduceIte, Nat.reduceBNe, Int.reducePow, Nat.reducePow, Int.reduceMul, Int.reduceNeg, isB_i, isB_b, isB_y, isBv_i, isBv_b, eqCells_t, TT]

theorem renc_spec (ov : Int) (o : UInt8) (sm : M6) (si : Nat) (dm : M6) (di : Nat) (h : (ov = 1 ∧ o = 1) ∨ (ov = 2 ∧ o = 2)) (hs : si < 4294967296) (hd : di < 4294967296) : Spec cx.P 10 [.agg (arpC ov sm si dm di)] [] (resB (arpL o sm si dm di) 0) := by
  refine resB_of ?_
  have W1 : IntKind.u64.wrap (si : Int) = (si : Int) := by rw [wu64] <;> omega
  have W2 : IntKind.u64.wrap (di : Int) = (di : Int) := by rw [wu64] <;> omega
  have p1 := rput4_spec si (by omega)
  have p2 := rput4_spec di (by omega)
  have p3 := rmacL_spec sm
  have p4 := rmacL_spec dm
  have eL : arpL o sm si dm di = [0, 1, 8, 0, 6, 4] ++ [0, o] ++ sm.l ++ be4 si ++ dm.l ++ be4 di := by simp
  rw [eL]
  have p0 := rhead_spec
  have l0 : [(0 : UInt8), 1, 8, 0, 6, 4].length = 6 := rfl
  have l1 : (be4 si).length = 4 := rfl
  have l2 : (be4 di).length = 4 := rfl
  have l3 : sm.l.length = 6 := rfl
  have l4 : dm.l.length = 6 := rfl
  have l5 : [(0 : UInt8), o].length = 2 := rfl
  have bO : [SC.v (.int .u8 0), byteC o] = bsC [0, o] := rfl
  have b1 : byteC 1 = .v (.int .u8 1) := rfl
  have b2 : byteC 2 = .v (.int .u8 2) := rfl
  clear eL
  generalize [(0 : UInt8), 1, 8, 0, 6, 4] = H6 at p0 l0 ⊢
  generalize [(0 : UInt8), o] = O2 at l5 bO ⊢
  have bSM : [byteC sm.a, byteC sm.b, byteC sm.c, byteC sm.d, byteC sm.e, byteC sm.f] = bsC sm.l := rfl
  have bDM : [byteC dm.a, byteC dm.b, byteC dm.c, byteC dm.d, byteC dm.e, byteC dm.f] = bsC dm.l := rfl
  generalize hSM : sm.l = SM at p3 l3 bSM ⊢
  generalize hDM : dm.l = DM at p4 l4 bDM ⊢
  generalize be4 si = S4 at p1 l1 ⊢
  generalize be4 di = D4 at p2 l2 ⊢
  have u1 : IntKind.u8.wrap 1 = 1 := rfl
  have u2 : IntKind.u8.wrap 2 = 2 := rfl
  have z0 : SC.v (.int .u8 0) = byteC 0 := rfl
  rcases h with ⟨rfl, rfl⟩ | ⟨rfl, rfl⟩
  · rw [b1] at bO
    refine spec_of_X cx_ok Try.func10 rfl (by kernel_rfl) (by kernel_rfl) (Nat.le_of_ble_eq_true rfl) 400 5 ?_
    simp (maxSteps := 4000000) only [Try.results10, XX, Nat.reduceBEq, Nat.reduceLT, Nat.reduceAdd, Nat.reduceMul, Nat.reduceSub, Nat.reduceLeDiff, Nat.reduceEqDiff, Int.reduceToNat, Int.reduceLT, Int.reduceLE, Int.reduceAdd, Int.reduceSub, Int.reduceEq, reduceIte, Nat.reduceBNe, Int.reducePow, Nat.reducePow, Int.reduceMul, Int.reduceNeg, isB_i, isB_b, isB_y, isBv_i, isBv_b, eqCells_t, TT]
    refine draw2_of cx_ok (by kernel_rfl) 400 [0] (.pair [(1, true), (2, true), (3, true)] 0 4 (.done [(4, false), (5, false), (6, true)]) (.done [(0, false), (5, false), (6, true)])) (by kernel_rfl) rfl ?_
    simp (maxSteps := 4000000) only [Try.results10, PXT_done, PXT_pair, XX, Nat.reduceBEq, Nat.reduceLT, Nat.reduceAdd, Nat.reduceMul, Nat.reduceSub, Nat.reduceLeDiff, Nat.reduceEqDiff, Int.reduceToNat, Int.reduceLT, Int.reduceLE, Int.reduceAdd, Int.reduceSub, Int.reduceEq, reduceIte, Nat.reduceBNe, Int.reducePow, Nat.reducePow, Int.reduceMul, Int.reduceNeg, isB_i, isB_b, isB_y, isBv_i, isBv_b, eqCells_t, TT]
    constructor
    · refine call_fz [] p0 (fun t h' h => resS_noRo h) trivial ?_
      rintro _ _ ⟨z, o, rfl, rfl, ho⟩
      simp (maxSteps := 4000000) only [Try.results10, PXT_done, PXT_pair, ids_bsC, ren_bsC, noRo_bsC, plain_bsC, lt_bsC, ids_byte, ren_byte, noRo_byte, plain_byte, lt_byte, List.replicate_succ, List.replicate_zero, List.flatten_cons, List.flatten_nil, List.cons_append, List.nil_append, List.drop_succ_cons, List.drop_zero, List.length_cons, List.length_nil, u1, u2, bO, XX, Nat.reduceBEq, Nat.reduceLT, Nat.reduceAdd, Nat.reduceMul, Nat.reduceSub, Nat.reduceLeDiff, Nat.reduceEqDiff, Int.reduceToNat, Int.reduceLT, Int.reduceLE, Int.reduceAdd, Int.reduceSub, Int.reduceEq, reduceIte, Nat.reduceBNe, Int.reducePow, Nat.reducePow, Int.reduceMul, Int.reduceNeg, isB_i, isB_b, isB_y, isBv_i, isBv_b, eqCells_t, TT]
      refine call_is (addWW' [_, wB o (H6 ++ z), wB true O2] 1 o H6 z ⟨rfl, ho⟩ _ _ rfl rfl 2 true O2 [] ⟨by rw [List.append_nil]; rfl, fun _ => rfl⟩ 2 2 l5 rfl (by decide) (by omega)) ?_
      rintro _ H1 ⟨w1, z1, o1, rfl, B1, g1, g2, g3⟩
      have a0 := g2 0 (by simp) (by decide)
      have n1 : 1 ≤ w1 := by simp at g3; omega
      simp (maxSteps := 4000000) only [Try.results10, PXT_done, PXT_pair, XX, Nat.reduceBEq, Nat.reduceLT, Nat.reduceAdd, Nat.reduceMul, Nat.reduceSub, Nat.reduceLeDiff, Nat.reduceEqDiff, Int.reduceToNat, Int.reduceLT, Int.reduceLE, Int.reduceAdd, Int.reduceSub, Int.reduceEq, reduceIte, Nat.reduceBNe, Int.reducePow, Nat.reducePow, Int.reduceMul, Int.reduceNeg, isB_i, isB_b, isB_y, isBv_i, isBv_b, eqCells_t, TT]
      generalize hH : unL [0] 0 _ H1 = H
      have b0 : H[0]? = some ⟨true, 27, arpC 1 sm si dm di⟩ := by rw [← hH]; exact unL_kept a0 rfl rfl
      have B2 : Buf H w1 o1 (H6 ++ O2) z1 := ⟨by rw [← hH]; exact unL_new B1.at_ n1, B1.own⟩
      clear hH g1 g2 g3 a0 B1
      have e1 : (H6 ++ O2).length = 8 := by simp; omega
      generalize H6 ++ O2 = E1 at B2 e1 ⊢
      have lt0 := lt_of b0
      simp (maxSteps := 4000000) only [Try.results10, b0, lt0, arpC, bSM, bDM, W1, W2, List.replicate_succ, List.replicate_zero, List.flatten_cons, List.flatten_nil, List.cons_append, List.nil_append, List.drop_succ_cons, List.drop_zero, List.length_cons, List.length_nil, XX, Nat.reduceBEq, Nat.reduceLT, Nat.reduceAdd, Nat.reduceMul, Nat.reduceSub, Nat.reduceLeDiff, Nat.reduceEqDiff, Int.reduceToNat, Int.reduceLT, Int.reduceLE, Int.reduceAdd, Int.reduceSub, Int.reduceEq, reduceIte, Nat.reduceBNe, Int.reducePow, Nat.reducePow, Int.reduceMul, Int.reduceNeg, isB_i, isB_b, isB_y, isBv_i, isBv_b, eqCells_t, TT]
      refine call_fz [.agg (bsC SM)] p3 (fun t h' h => resS_noRo h) ⟨.inl ⟨lt_bsC 0 _, congrArg SV.agg (ren_bsC _ _).symm⟩, trivial⟩ ?_
      rintro _ _ ⟨y2, q2, rfl, rfl, hq2⟩
      simp (maxSteps := 4000000) only [Try.results10, ids_bsC, ren_bsC, noRo_bsC, plain_bsC, lt_bsC, ids_byte, ren_byte, noRo_byte, plain_byte, lt_byte, XX, Nat.reduceBEq, Nat.reduceLT, Nat.reduceAdd, Nat.reduceMul, Nat.reduceSub, Nat.reduceLeDiff, Nat.reduceEqDiff, Int.reduceToNat, Int.reduceLT, Int.reduceLE, Int.reduceAdd, Int.reduceSub, Int.reduceEq, reduceIte, Nat.reduceBNe, Int.reducePow, Nat.reducePow, Int.reduceMul, Int.reduceNeg, isB_i, isB_b, isB_y, isBv_i, isBv_b, eqCells_t, TT]
      refine call_is (addWW (H ++ [wB q2 (SM ++ y2)]) w1 o1 E1 z1 B2.app H.length q2 SM y2 ⟨by rw [List.getElem?_append_right (Nat.le_refl _), Nat.sub_self]; rfl, hq2⟩ (by have := lt_of B2.at_; omega) (by omega)) ?_
      rintro _ H2 ⟨w2, z2, o2, rfl, C2, g1, g2, g3⟩
      have b2 := ((g2 0 (by simp) (by omega)).trans (List.getElem?_append_left lt0)).trans b0
      have n2 : 1 ≤ w2 := by simp at g3; omega
      have lt2 := lt_of b2
      clear g1 g2 g3
      have e2 : (E1 ++ SM).length = 14 := by simp; omega
      generalize E1 ++ SM = E2 at C2 e2 ⊢
      simp (maxSteps := 4000000) only [Try.results10, b2, lt2, arpC, bSM, bDM, W1, W2, List.replicate_succ, List.replicate_zero, List.flatten_cons, List.flatten_nil, List.cons_append, List.nil_append, List.drop_succ_cons, List.drop_zero, List.length_cons, List.length_nil, XX, Nat.reduceBEq, Nat.reduceLT, Nat.reduceAdd, Nat.reduceMul, Nat.reduceSub, Nat.reduceLeDiff, Nat.reduceEqDiff, Int.reduceToNat, Int.reduceLT, Int.reduceLE, Int.reduceAdd, Int.reduceSub, Int.reduceEq, reduceIte, Nat.reduceBNe, Int.reducePow, Nat.reducePow, Int.reduceMul, Int.reduceNeg, isB_i, isB_b, isB_y, isBv_i, isBv_b, eqCells_t, TT]
      refine call_frame (p1) [] rfl rfl trivial rfl rfl ?_
      rintro _ _ ⟨rfl, rfl⟩
      simp (maxSteps := 4000000) only [Try.results10, ids_bsC, ren_bsC, noRo_bsC, plain_bsC, lt_bsC, ids_byte, ren_byte, noRo_byte, plain_byte, lt_byte, XX, Nat.reduceBEq, Nat.reduceLT, Nat.reduceAdd, Nat.reduceMul, Nat.reduceSub, Nat.reduceLeDiff, Nat.reduceEqDiff, Int.reduceToNat, Int.reduceLT, Int.reduceLE, Int.reduceAdd, Int.reduceSub, Int.reduceEq, reduceIte, Nat.reduceBNe, Int.reducePow, Nat.reducePow, Int.reduceMul, Int.reduceNeg, isB_i, isB_b, isB_y, isBv_i, isBv_b, eqCells_t, TT]
      refine call_is (addWW' (H2 ++ [wB true S4]) w2 o2 E2 z2 C2.app _ _ rfl rfl H2.length true S4 [] ⟨by rw [List.append_nil, List.getElem?_append_right (Nat.le_refl _), Nat.sub_self]; rfl, fun _ => rfl⟩ 4 4 l1 rfl (by have := lt_of C2.at_; omega) (by omega)) ?_
      rintro _ H3 ⟨w3, z3, o3, rfl, C3, g1, g2, g3⟩
      have b3 := ((g2 0 (by simp) (by omega)).trans (List.getElem?_append_left lt2)).trans b2
      have n3 : 1 ≤ w3 := by simp at g3; omega
      have lt3 := lt_of b3
      clear g1 g2 g3
      have e3 : (E2 ++ S4).length = 18 := by simp; omega
      generalize E2 ++ S4 = E3 at C3 e3 ⊢
      simp (maxSteps := 4000000) only [Try.results10, b3, lt3, arpC, bSM, bDM, W1, W2, List.replicate_succ, List.replicate_zero, List.flatten_cons, List.flatten_nil, List.cons_append, List.nil_append, List.drop_succ_cons, List.drop_zero, List.length_cons, List.length_nil, XX, Nat.reduceBEq, Nat.reduceLT, Nat.reduceAdd, Nat.reduceMul, Nat.reduceSub, Nat.reduceLeDiff, Nat.reduceEqDiff, Int.reduceToNat, Int.reduceLT, Int.reduceLE, Int.reduceAdd, Int.reduceSub, Int.reduceEq, reduceIte, Nat.reduceBNe, Int.reducePow, Nat.reducePow, Int.reduceMul, Int.reduceNeg, isB_i, isB_b, isB_y, isBv_i, isBv_b, eqCells_t, TT]
      refine call_fz [.agg (bsC DM)] p4 (fun t h' h => resS_noRo h) ⟨.inl ⟨lt_bsC 0 _, congrArg SV.agg (ren_bsC _ _).symm⟩, trivial⟩ ?_
      rintro _ _ ⟨y4, q4, rfl, rfl, hq4⟩
      simp (maxSteps := 4000000) only [Try.results10, ids_bsC, ren_bsC, noRo_bsC, plain_bsC, lt_bsC, ids_byte, ren_byte, noRo_byte, plain_byte, lt_byte, XX, Nat.reduceBEq, Nat.reduceLT, Nat.reduceAdd, Nat.reduceMul, Nat.reduceSub, Nat.reduceLeDiff, Nat.reduceEqDiff, Int.reduceToNat, Int.reduceLT, Int.reduceLE, Int.reduceAdd, Int.reduceSub, Int.reduceEq, reduceIte, Nat.reduceBNe, Int.reducePow, Nat.reducePow, Int.reduceMul, Int.reduceNeg, isB_i, isB_b, isB_y, isBv_i, isBv_b, eqCells_t, TT]
      refine call_is (addWW (H3 ++ [wB q4 (DM ++ y4)]) w3 o3 E3 z3 C3.app H3.length q4 DM y4 ⟨by rw [List.getElem?_append_right (Nat.le_refl _), Nat.sub_self]; rfl, hq4⟩ (by have := lt_of C3.at_; omega) (by omega)) ?_
      rintro _ H4 ⟨w4, z4, o4, rfl, C4, g1, g2, g3⟩
      have b4 := ((g2 0 (by simp) (by omega)).trans (List.getElem?_append_left lt3)).trans b3
      have n4 : 1 ≤ w4 := by simp at g3; omega
      have lt4 := lt_of b4
      clear g1 g2 g3
      have e4 : (E3 ++ DM).length = 24 := by simp; omega
      generalize E3 ++ DM = E4 at C4 e4 ⊢
      simp (maxSteps := 4000000) only [Try.results10, b4, lt4, arpC, bSM, bDM, W1, W2, List.replicate_succ, List.replicate_zero, List.flatten_cons, List.flatten_nil, List.cons_append, List.nil_append, List.drop_succ_cons, List.drop_zero, List.length_cons, List.length_nil, XX, Nat.reduceBEq, Nat.reduceLT, Nat.reduceAdd, Nat.reduceMul, Nat.reduceSub, Nat.reduceLeDiff, Nat.reduceEqDiff, Int.reduceToNat, Int.reduceLT, Int.reduceLE, Int.reduceAdd, Int.reduceSub, Int.reduceEq, reduceIte, Nat.reduceBNe, Int.reducePow, Nat.reducePow, Int.reduceMul, Int.reduceNeg, isB_i, isB_b, isB_y, isBv_i, isBv_b, eqCells_t, TT]
      refine call_frame (p2) [] rfl rfl trivial rfl rfl ?_
      rintro _ _ ⟨rfl, rfl⟩
      simp (maxSteps := 4000000) only [Try.results10, ids_bsC, ren_bsC, noRo_bsC, plain_bsC, lt_bsC, ids_byte, ren_byte, noRo_byte, plain_byte, lt_byte, XX, Nat.reduceBEq, Nat.reduceLT, Nat.reduceAdd, Nat.reduceMul, Nat.reduceSub, Nat.reduceLeDiff, Nat.reduceEqDiff, Int.reduceToNat, Int.reduceLT, Int.reduceLE, Int.reduceAdd, Int.reduceSub, Int.reduceEq, reduceIte, Nat.reduceBNe, Int.reducePow, Nat.reducePow, Int.reduceMul, Int.reduceNeg, isB_i, isB_b, isB_y, isBv_i, isBv_b, eqCells_t, TT]
      refine call_is (addWW' (H4 ++ [wB true D4]) w4 o4 E4 z4 C4.app _ _ rfl rfl H4.length true D4 [] ⟨by rw [List.append_nil, List.getElem?_append_right (Nat.le_refl _), Nat.sub_self]; rfl, fun _ => rfl⟩ 4 4 l2 rfl (by have := lt_of C4.at_; omega) (by omega)) ?_
      rintro _ H5 ⟨w5, z5, o5, rfl, C5, g1, g2, g3⟩
      have b5 := ((g2 0 (by simp) (by omega)).trans (List.getElem?_append_left lt4)).trans b4
      have n5 : 1 ≤ w5 := by simp at g3; omega
      have lt5 := lt_of b5
      clear g1 g2 g3
      simp (maxSteps := 4000000) only [Try.results10, XX, Nat.reduceBEq, Nat.reduceLT, Nat.reduceAdd, Nat.reduceMul, Nat.reduceSub, Nat.reduceLeDiff, Nat.reduceEqDiff, Int.reduceToNat, Int.reduceLT, Int.reduceLE, Int.reduceAdd, Int.reduceSub, Int.reduceEq, reduceIte, Nat.reduceBNe, Int.reducePow, Nat.reducePow, Int.reduceMul, Int.reduceNeg, isB_i, isB_b, isB_y, isBv_i, isBv_b, eqCells_t, TT]
      exact ⟨w5, z5, o5, rfl, C5⟩
    · simp (maxSteps := 4000000) only [Try.results10, PXT_done, PXT_pair, ids_bsC, ren_bsC, noRo_bsC, plain_bsC, lt_bsC, ids_byte, ren_byte, noRo_byte, plain_byte, lt_byte, List.replicate_succ, List.replicate_zero, List.flatten_cons, List.flatten_nil, List.cons_append, List.nil_append, List.drop_succ_cons, List.drop_zero, List.length_cons, List.length_nil, u1, u2, bO, XX, Nat.reduceBEq, Nat.reduceLT, Nat.reduceAdd, Nat.reduceMul, Nat.reduceSub, Nat.reduceLeDiff, Nat.reduceEqDiff, Int.reduceToNat, Int.reduceLT, Int.reduceLE, Int.reduceAdd, Int.reduceSub, Int.reduceEq, reduceIte, Nat.reduceBNe, Int.reducePow, Nat.reducePow, Int.reduceMul, Int.reduceNeg, isB_i, isB_b, isB_y, isBv_i, isBv_b, eqCells_t, TT]
      refine call_fz [] p0 (fun t h' h => resS_noRo h) trivial ?_
      rintro _ _ ⟨z, o, rfl, rfl, ho⟩
      simp (maxSteps := 4000000) only [Try.results10, PXT_done, PXT_pair, ids_bsC, ren_bsC, noRo_bsC, plain_bsC, lt_bsC, ids_byte, ren_byte, noRo_byte, plain_byte, lt_byte, XX, Nat.reduceBEq, Nat.reduceLT, Nat.reduceAdd, Nat.reduceMul, Nat.reduceSub, Nat.reduceLeDiff, Nat.reduceEqDiff, Int.reduceToNat, Int.reduceLT, Int.reduceLE, Int.reduceAdd, Int.reduceSub, Int.reduceEq, reduceIte, Nat.reduceBNe, Int.reducePow, Nat.reducePow, Int.reduceMul, Int.reduceNeg, isB_i, isB_b, isB_y, isBv_i, isBv_b, eqCells_t, TT]
      refine call_is (addWW' [_, wB true O2, wB o (H6 ++ z)] 2 o H6 z ⟨rfl, ho⟩ _ _ rfl rfl 1 true O2 [] ⟨by rw [List.append_nil]; rfl, fun _ => rfl⟩ 2 2 l5 rfl (by decide) (by omega)) ?_
      rintro _ H1 ⟨w1, z1, o1, rfl, B1, g1, g2, g3⟩
      have a0 := g2 0 (by simp) (by decide)
      have n1 : 1 ≤ w1 := by simp at g3; omega
      simp (maxSteps := 4000000) only [Try.results10, PXT_done, PXT_pair, XX, Nat.reduceBEq, Nat.reduceLT, Nat.reduceAdd, Nat.reduceMul, Nat.reduceSub, Nat.reduceLeDiff, Nat.reduceEqDiff, Int.reduceToNat, Int.reduceLT, Int.reduceLE, Int.reduceAdd, Int.reduceSub, Int.reduceEq, reduceIte, Nat.reduceBNe, Int.reducePow, Nat.reducePow, Int.reduceMul, Int.reduceNeg, isB_i, isB_b, isB_y, isBv_i, isBv_b, eqCells_t, TT]
      generalize hH : unL [0] 0 _ H1 = H
      have b0 : H[0]? = some ⟨true, 27, arpC 1 sm si dm di⟩ := by rw [← hH]; exact unL_kept a0 rfl rfl
      have B2 : Buf H w1 o1 (H6 ++ O2) z1 := ⟨by rw [← hH]; exact unL_new B1.at_ n1, B1.own⟩
      clear hH g1 g2 g3 a0 B1
      have e1 : (H6 ++ O2).length = 8 := by simp; omega
      generalize H6 ++ O2 = E1 at B2 e1 ⊢
      have lt0 := lt_of b0
      simp (maxSteps := 4000000) only [Try.results10, b0, lt0, arpC, bSM, bDM, W1, W2, List.replicate_succ, List.replicate_zero, List.flatten_cons, List.flatten_nil, List.cons_append, List.nil_append, List.drop_succ_cons, List.drop_zero, List.length_cons, List.length_nil, XX, Nat.reduceBEq, Nat.reduceLT, Nat.reduceAdd, Nat.reduceMul, Nat.reduceSub, Nat.reduceLeDiff, Nat.reduceEqDiff, Int.reduceToNat, Int.reduceLT, Int.reduceLE, Int.reduceAdd, Int.reduceSub, Int.reduceEq, reduceIte, Nat.reduceBNe, Int.reducePow, Nat.reducePow, Int.reduceMul, Int.reduceNeg, isB_i, isB_b, isB_y, isBv_i, isBv_b, eqCells_t, TT]
      refine call_fz [.agg (bsC SM)] p3 (fun t h' h => resS_noRo h) ⟨.inl ⟨lt_bsC 0 _, congrArg SV.agg (ren_bsC _ _).symm⟩, trivial⟩ ?_
      rintro _ _ ⟨y2, q2, rfl, rfl, hq2⟩
      simp (maxSteps := 4000000) only [Try.results10, ids_bsC, ren_bsC, noRo_bsC, plain_bsC, lt_bsC, ids_byte, ren_byte, noRo_byte, plain_byte, lt_byte, XX, Nat.reduceBEq, Nat.reduceLT, Nat.reduceAdd, Nat.reduceMul, Nat.reduceSub, Nat.reduceLeDiff, Nat.reduceEqDiff, Int.reduceToNat, Int.reduceLT, Int.reduceLE, Int.reduceAdd, Int.reduceSub, Int.reduceEq, reduceIte, Nat.reduceBNe, Int.reducePow, Nat.reducePow, Int.reduceMul, Int.reduceNeg, isB_i, isB_b, isB_y, isBv_i, isBv_b, eqCells_t, TT]
      refine call_is (addWW (H ++ [wB q2 (SM ++ y2)]) w1 o1 E1 z1 B2.app H.length q2 SM y2 ⟨by rw [List.getElem?_append_right (Nat.le_refl _), Nat.sub_self]; rfl, hq2⟩ (by have := lt_of B2.at_; omega) (by omega)) ?_
      rintro _ H2 ⟨w2, z2, o2, rfl, C2, g1, g2, g3⟩
      have b2 := ((g2 0 (by simp) (by omega)).trans (List.getElem?_append_left lt0)).trans b0
      have n2 : 1 ≤ w2 := by simp at g3; omega
      have lt2 := lt_of b2
      clear g1 g2 g3
      have e2 : (E1 ++ SM).length = 14 := by simp; omega
      generalize E1 ++ SM = E2 at C2 e2 ⊢
      simp (maxSteps := 4000000) only [Try.results10, b2, lt2, arpC, bSM, bDM, W1, W2, List.replicate_succ, List.replicate_zero, List.flatten_cons, List.flatten_nil, List.cons_append, List.nil_append, List.drop_succ_cons, List.drop_zero, List.length_cons, List.length_nil, XX, Nat.reduceBEq, Nat.reduceLT, Nat.reduceAdd, Nat.reduceMul, Nat.reduceSub, Nat.reduceLeDiff, Nat.reduceEqDiff, Int.reduceToNat, Int.reduceLT, Int.reduceLE, Int.reduceAdd, Int.reduceSub, Int.reduceEq, reduceIte, Nat.reduceBNe, Int.reducePow, Nat.reducePow, Int.reduceMul, Int.reduceNeg, isB_i, isB_b, isB_y, isBv_i, isBv_b, eqCells_t, TT]
      refine call_frame (p1) [] rfl rfl trivial rfl rfl ?_
      rintro _ _ ⟨rfl, rfl⟩
      simp (maxSteps := 4000000) only [Try.results10, ids_bsC, ren_bsC, noRo_bsC, plain_bsC, lt_bsC, ids_byte, ren_byte, noRo_byte, plain_byte, lt_byte, XX, Nat.reduceBEq, Nat.reduceLT, Nat.reduceAdd, Nat.reduceMul, Nat.reduceSub, Nat.reduceLeDiff, Nat.reduceEqDiff, Int.reduceToNat, Int.reduceLT, Int.reduceLE, Int.reduceAdd, Int.reduceSub, Int.reduceEq, reduceIte, Nat.reduceBNe, Int.reducePow, Nat.reducePow, Int.reduceMul, Int.reduceNeg, isB_i, isB_b, isB_y, isBv_i, isBv_b, eqCells_t, TT]
      refine call_is (addWW' (H2 ++ [wB true S4]) w2 o2 E2 z2 C2.app _ _ rfl rfl H2.length true S4 [] ⟨by rw [List.append_nil, List.getElem?_append_right (Nat.le_refl _), Nat.sub_self]; rfl, fun _ => rfl⟩ 4 4 l1 rfl (by have := lt_of C2.at_; omega) (by omega)) ?_
      rintro _ H3 ⟨w3, z3, o3, rfl, C3, g1, g2, g3⟩
      have b3 := ((g2 0 (by simp) (by omega)).trans (List.getElem?_append_left lt2)).trans b2
      have n3 : 1 ≤ w3 := by simp at g3; omega
      have lt3 := lt_of b3
      clear g1 g2 g3
      have e3 : (E2 ++ S4).length = 18 := by simp; omega
      generalize E2 ++ S4 = E3 at C3 e3 ⊢
      simp (maxSteps := 4000000) only [Try.results10, b3, lt3, arpC, bSM, bDM, W1, W2, List.replicate_succ, List.replicate_zero, List.flatten_cons, List.flatten_nil, List.cons_append, List.nil_append, List.drop_succ_cons, List.drop_zero, List.length_cons, List.length_nil, XX, Nat.reduceBEq, Nat.reduceLT, Nat.reduceAdd, Nat.reduceMul, Nat.reduceSub, Nat.reduceLeDiff, Nat.reduceEqDiff, Int.reduceToNat, Int.reduceLT, Int.reduceLE, Int.reduceAdd, Int.reduceSub, Int.reduceEq, reduceIte, Nat.reduceBNe, Int.reducePow, Nat.reducePow, Int.reduceMul, Int.reduceNeg, isB_i, isB_b, isB_y, isBv_i, isBv_b, eqCells_t, TT]
      refine call_fz [.agg (bsC DM)] p4 (fun t h' h => resS_noRo h) ⟨.inl ⟨lt_bsC 0 _, congrArg SV.agg (ren_bsC _ _).symm⟩, trivial⟩ ?_
      rintro _ _ ⟨y4, q4, rfl, rfl, hq4⟩
      simp (maxSteps := 4000000) only [Try.results10, ids_bsC, ren_bsC, noRo_bsC, plain_bsC, lt_bsC, ids_byte, ren_byte, noRo_byte, plain_byte, lt_byte, XX, Nat.reduceBEq, Nat.reduceLT, Nat.reduceAdd, Nat.reduceMul, Nat.reduceSub, Nat.reduceLeDiff, Nat.reduceEqDiff, Int.reduceToNat, Int.reduceLT, Int.reduceLE, Int.reduceAdd, Int.reduceSub, Int.reduceEq, reduceIte, Nat.reduceBNe, Int.reducePow, Nat.reducePow, Int.reduceMul, Int.reduceNeg, isB_i, isB_b, isB_y, isBv_i, isBv_b, eqCells_t, TT]
      refine call_is (addWW (H3 ++ [wB q4 (DM ++ y4)]) w3 o3 E3 z3 C3.app H3.length q4 DM y4 ⟨by rw [List.getElem?_append_right (Nat.le_refl _), Nat.sub_self]; rfl, hq4⟩ (by have := lt_of C3.at_; omega) (by omega)) ?_
      rintro _ H4 ⟨w4, z4, o4, rfl, C4, g1, g2, g3⟩
      have b4 := ((g2 0 (by simp) (by omega)).trans (List.getElem?_append_left lt3)).trans b3
      have n4 : 1 ≤ w4 := by simp at g3; omega
      have lt4 := lt_of b4
      clear g1 g2 g3
      have e4 : (E3 ++ DM).length = 24 := by simp; omega
      generalize E3 ++ DM = E4 at C4 e4 ⊢
      simp (maxSteps := 4000000) only [Try.results10, b4, lt4, arpC, bSM, bDM, W1, W2, List.replicate_succ, List.replicate_zero, List.flatten_cons, List.flatten_nil, List.cons_append, List.nil_append, List.drop_succ_cons, List.drop_zero, List.length_cons, List.length_nil, XX, Nat.reduceBEq, Nat.reduceLT, Nat.reduceAdd, Nat.reduceMul, Nat.reduceSub, Nat.reduceLeDiff, Nat.reduceEqDiff, Int.reduceToNat, Int.reduceLT, Int.reduceLE, Int.reduceAdd, Int.reduceSub, Int.reduceEq, reduceIte, Nat.reduceBNe, Int.reducePow, Nat.reducePow, Int.reduceMul, Int.reduceNeg, isB_i, isB_b, isB_y, isBv_i, isBv_b, eqCells_t, TT]
      refine call_frame (p2) [] rfl rfl trivial rfl rfl ?_
      rintro _ _ ⟨rfl, rfl⟩
      simp (maxSteps := 4000000) only [Try.results10, ids_bsC, ren_bsC, noRo_bsC, plain_bsC, lt_bsC, ids_byte, ren_byte, noRo_byte, plain_byte, lt_byte, XX, Nat.reduceBEq, Nat.reduceLT, Nat.reduceAdd, Nat.reduceMul, Nat.reduceSub, Nat.reduceLeDiff, Nat.reduceEqDiff, Int.reduceToNat, Int.reduceLT, Int.reduceLE, Int.reduceAdd, Int.reduceSub, Int.reduceEq, reduceIte, Nat.reduceBNe, Int.reducePow, Nat.reducePow, Int.reduceMul, Int.reduceNeg, isB_i, isB_b, isB_y, isBv_i, isBv_b, eqCells_t, TT]
      refine call_is (addWW' (H4 ++ [wB true D4]) w4 o4 E4 z4 C4.app _ _ rfl rfl H4.length true D4 [] ⟨by rw [List.append_nil, List.getElem?_append_right (Nat.le_refl _), Nat.sub_self]; rfl, fun _ => rfl⟩ 4 4 l2 rfl (by have := lt_of C4.at_; omega) (by omega)) ?_
      rintro _ H5 ⟨w5, z5, o5, rfl, C5, g1, g2, g3⟩
      have b5 := ((g2 0 (by simp) (by omega)).trans (List.getElem?_append_left lt4)).trans b4
      have n5 : 1 ≤ w5 := by simp at g3; omega
      have lt5 := lt_of b5
      clear g1 g2 g3
      simp (maxSteps := 4000000) only [Try.results10, XX, Nat.reduceBEq, Nat.reduceLT, Nat.reduceAdd, Nat.reduceMul, Nat.reduceSub, Nat.reduceLeDiff, Nat.reduceEqDiff, Int.reduceToNat, Int.reduceLT, Int.reduceLE, Int.reduceAdd, Int.reduceSub, Int.reduceEq, reduceIte, Nat.reduceBNe, Int.reducePow, Nat.reducePow, Int.reduceMul, Int.reduceNeg, isB_i, isB_b, isB_y, isBv_i, isBv_b, eqCells_t, TT]
      exact ⟨w5, z5, o5, rfl, C5⟩
  · rw [b2] at bO
    refine spec_of_X cx_ok Try.func10 rfl (by kernel_rfl) (by kernel_rfl) (Nat.le_of_ble_eq_true rfl) 400 5 ?_
    simp (maxSteps := 4000000) only [Try.results10, XX, Nat.reduceBEq, Nat.reduceLT, Nat.reduceAdd, Nat.reduceMul, Nat.reduceSub, Nat.reduceLeDiff, Nat.reduceEqDiff, Int.reduceToNat, Int.reduceLT, Int.reduceLE, Int.reduceAdd, Int.reduceSub, Int.reduceEq, reduceIte, Nat.reduceBNe, Int.reducePow, Nat.reducePow, Int.reduceMul, Int.reduceNeg, isB_i, isB_b, isB_y, isBv_i, isBv_b, eqCells_t, TT]
    refine draw2_of cx_ok (by kernel_rfl) 400 [0] (.pair [(1, true), (2, true), (3, true)] 0 4 (.done [(4, false), (5, false), (6, true)]) (.done [(0, false), (5, false), (6, true)])) (by kernel_rfl) rfl ?_
    simp (maxSteps := 4000000) only [Try.results10, PXT_done, PXT_pair, XX, Nat.reduceBEq, Nat.reduceLT, Nat.reduceAdd, Nat.reduceMul, Nat.reduceSub, Nat.reduceLeDiff, Nat.reduceEqDiff, Int.reduceToNat, Int.reduceLT, Int.reduceLE, Int.reduceAdd, Int.reduceSub, Int.reduceEq, reduceIte, Nat.reduceBNe, Int.reducePow, Nat.reducePow, Int.reduceMul, Int.reduceNeg, isB_i, isB_b, isB_y, isBv_i, isBv_b, eqCells_t, TT]
    constructor
    · refine call_fz [] p0 (fun t h' h => resS_noRo h) trivial ?_
      rintro _ _ ⟨z, o, rfl, rfl, ho⟩
      simp (maxSteps := 4000000) only [Try.results10, PXT_done, PXT_pair, ids_bsC, ren_bsC, noRo_bsC, plain_bsC, lt_bsC, ids_byte, ren_byte, noRo_byte, plain_byte, lt_byte, List.replicate_succ, List.replicate_zero, List.flatten_cons, List.flatten_nil, List.cons_append, List.nil_append, List.drop_succ_cons, List.drop_zero, List.length_cons, List.length_nil, u1, u2, bO, XX, Nat.reduceBEq, Nat.reduceLT, Nat.reduceAdd, Nat.reduceMul, Nat.reduceSub, Nat.reduceLeDiff, Nat.reduceEqDiff, Int.reduceToNat, Int.reduceLT, Int.reduceLE, Int.reduceAdd, Int.reduceSub, Int.reduceEq, reduceIte, Nat.reduceBNe, Int.reducePow, Nat.reducePow, Int.reduceMul, Int.reduceNeg, isB_i, isB_b, isB_y, isBv_i, isBv_b, eqCells_t, TT]
      refine call_is (addWW' [_, wB o (H6 ++ z), wB true O2] 1 o H6 z ⟨rfl, ho⟩ _ _ rfl rfl 2 true O2 [] ⟨by rw [List.append_nil]; rfl, fun _ => rfl⟩ 2 2 l5 rfl (by decide) (by omega)) ?_
      rintro _ H1 ⟨w1, z1, o1, rfl, B1, g1, g2, g3⟩
      have a0 := g2 0 (by simp) (by decide)
      have n1 : 1 ≤ w1 := by simp at g3; omega
      simp (maxSteps := 4000000) only [Try.results10, PXT_done, PXT_pair, XX, Nat.reduceBEq, Nat.reduceLT, Nat.reduceAdd, Nat.reduceMul, Nat.reduceSub, Nat.reduceLeDiff, Nat.reduceEqDiff, Int.reduceToNat, Int.reduceLT, Int.reduceLE, Int.reduceAdd, Int.reduceSub, Int.reduceEq, reduceIte, Nat.reduceBNe, Int.reducePow, Nat.reducePow, Int.reduceMul, Int.reduceNeg, isB_i, isB_b, isB_y, isBv_i, isBv_b, eqCells_t, TT]
      generalize hH : unL [0] 0 _ H1 = H
      have b0 : H[0]? = some ⟨true, 27, arpC 2 sm si dm di⟩ := by rw [← hH]; exact unL_kept a0 rfl rfl
      have B2 : Buf H w1 o1 (H6 ++ O2) z1 := ⟨by rw [← hH]; exact unL_new B1.at_ n1, B1.own⟩
      clear hH g1 g2 g3 a0 B1
      have e1 : (H6 ++ O2).length = 8 := by simp; omega
      generalize H6 ++ O2 = E1 at B2 e1 ⊢
      have lt0 := lt_of b0
      simp (maxSteps := 4000000) only [Try.results10, b0, lt0, arpC, bSM, bDM, W1, W2, List.replicate_succ, List.replicate_zero, List.flatten_cons, List.flatten_nil, List.cons_append, List.nil_append, List.drop_succ_cons, List.drop_zero, List.length_cons, List.length_nil, XX, Nat.reduceBEq, Nat.reduceLT, Nat.reduceAdd, Nat.reduceMul, Nat.reduceSub, Nat.reduceLeDiff, Nat.reduceEqDiff, Int.reduceToNat, Int.reduceLT, Int.reduceLE, Int.reduceAdd, Int.reduceSub, Int.reduceEq, reduceIte, Nat.reduceBNe, Int.reducePow, Nat.reducePow, Int.reduceMul, Int.reduceNeg, isB_i, isB_b, isB_y, isBv_i, isBv_b, eqCells_t, TT]
      refine call_fz [.agg (bsC SM)] p3 (fun t h' h => resS_noRo h) ⟨.inl ⟨lt_bsC 0 _, congrArg SV.agg (ren_bsC _ _).symm⟩, trivial⟩ ?_
      rintro _ _ ⟨y2, q2, rfl, rfl, hq2⟩
      simp (maxSteps := 4000000) only [Try.results10, ids_bsC, ren_bsC, noRo_bsC, plain_bsC, lt_bsC, ids_byte, ren_byte, noRo_byte, plain_byte, lt_byte, XX, Nat.reduceBEq, Nat.reduceLT, Nat.reduceAdd, Nat.reduceMul, Nat.reduceSub, Nat.reduceLeDiff, Nat.reduceEqDiff, Int.reduceToNat, Int.reduceLT, Int.reduceLE, Int.reduceAdd, Int.reduceSub, Int.reduceEq, reduceIte, Nat.reduceBNe, Int.reducePow, Nat.reducePow, Int.reduceMul, Int.reduceNeg, isB_i, isB_b, isB_y, isBv_i, isBv_b, eqCells_t, TT]
      refine call_is (addWW (H ++ [wB q2 (SM ++ y2)]) w1 o1 E1 z1 B2.app H.length q2 SM y2 ⟨by rw [List.getElem?_append_right (Nat.le_refl _), Nat.sub_self]; rfl, hq2⟩ (by have := lt_of B2.at_; omega) (by omega)) ?_
      rintro _ H2 ⟨w2, z2, o2, rfl, C2, g1, g2, g3⟩
      have b2 := ((g2 0 (by simp) (by omega)).trans (List.getElem?_append_left lt0)).trans b0
      have n2 : 1 ≤ w2 := by simp at g3; omega
      have lt2 := lt_of b2
      clear g1 g2 g3
      have e2 : (E1 ++ SM).length = 14 := by simp; omega
      generalize E1 ++ SM = E2 at C2 e2 ⊢
      simp (maxSteps := 4000000) only [Try.results10, b2, lt2, arpC, bSM, bDM, W1, W2, List.replicate_succ, List.replicate_zero, List.flatten_cons, List.flatten_nil, List.cons_append, List.nil_append, List.drop_succ_cons, List.drop_zero, List.length_cons, List.length_nil, XX, Nat.reduceBEq, Nat.reduceLT, Nat.reduceAdd, Nat.reduceMul, Nat.reduceSub, Nat.reduceLeDiff, Nat.reduceEqDiff, Int.reduceToNat, Int.reduceLT, Int.reduceLE, Int.reduceAdd, Int.reduceSub, Int.reduceEq, reduceIte, Nat.reduceBNe, Int.reducePow, Nat.reducePow, Int.reduceMul, Int.reduceNeg, isB_i, isB_b, isB_y, isBv_i, isBv_b, eqCells_t, TT]
      refine call_frame (p1) [] rfl rfl trivial rfl rfl ?_
      rintro _ _ ⟨rfl, rfl⟩
      simp (maxSteps := 4000000) only [Try.results10, ids_bsC, ren_bsC, noRo_bsC, plain_bsC, lt_bsC, ids_byte, ren_byte, noRo_byte, plain_byte, lt_byte, XX, Nat.reduceBEq, Nat.reduceLT, Nat.reduceAdd, Nat.reduceMul, Nat.reduceSub, Nat.reduceLeDiff, Nat.reduceEqDiff, Int.reduceToNat, Int.reduceLT, Int.reduceLE, Int.reduceAdd, Int.reduceSub, Int.reduceEq, reduceIte, Nat.reduceBNe, Int.reducePow, Nat.reducePow, Int.reduceMul, Int.reduceNeg, isB_i, isB_b, isB_y, isBv_i, isBv_b, eqCells_t, TT]
      refine call_is (addWW' (H2 ++ [wB true S4]) w2 o2 E2 z2 C2.app _ _ rfl rfl H2.length true S4 [] ⟨by rw [List.append_nil, List.getElem?_append_right (Nat.le_refl _), Nat.sub_self]; rfl, fun _ => rfl⟩ 4 4 l1 rfl (by have := lt_of C2.at_; omega) (by omega)) ?_
      rintro _ H3 ⟨w3, z3, o3, rfl, C3, g1, g2, g3⟩
      have b3 := ((g2 0 (by simp) (by omega)).trans (List.getElem?_append_left lt2)).trans b2
      have n3 : 1 ≤ w3 := by simp at g3; omega
      have lt3 := lt_of b3
      clear g1 g2 g3
      have e3 : (E2 ++ S4).length = 18 := by simp; omega
      generalize E2 ++ S4 = E3 at C3 e3 ⊢
      simp (maxSteps := 4000000) only [Try.results10, b3, lt3, arpC, bSM, bDM, W1, W2, List.replicate_succ, List.replicate_zero, List.flatten_cons, List.flatten_nil, List.cons_append, List.nil_append, List.drop_succ_cons, List.drop_zero, List.length_cons, List.length_nil, XX, Nat.reduceBEq, Nat.reduceLT, Nat.reduceAdd, Nat.reduceMul, Nat.reduceSub, Nat.reduceLeDiff, Nat.reduceEqDiff, Int.reduceToNat, Int.reduceLT, Int.reduceLE, Int.reduceAdd, Int.reduceSub, Int.reduceEq, reduceIte, Nat.reduceBNe, Int.reducePow, Nat.reducePow, Int.reduceMul, Int.reduceNeg, isB_i, isB_b, isB_y, isBv_i, isBv_b, eqCells_t, TT]
      refine call_fz [.agg (bsC DM)] p4 (fun t h' h => resS_noRo h) ⟨.inl ⟨lt_bsC 0 _, congrArg SV.agg (ren_bsC _ _).symm⟩, trivial⟩ ?_
      rintro _ _ ⟨y4, q4, rfl, rfl, hq4⟩
      simp (maxSteps := 4000000) only [Try.results10, ids_bsC, ren_bsC, noRo_bsC, plain_bsC, lt_bsC, ids_byte, ren_byte, noRo_byte, plain_byte, lt_byte, XX, Nat.reduceBEq, Nat.reduceLT, Nat.reduceAdd, Nat.reduceMul, Nat.reduceSub, Nat.reduceLeDiff, Nat.reduceEqDiff, Int.reduceToNat, Int.reduceLT, Int.reduceLE, Int.reduceAdd, Int.reduceSub, Int.reduceEq, reduceIte, Nat.reduceBNe, Int.reducePow, Nat.reducePow, Int.reduceMul, Int.reduceNeg, isB_i, isB_b, isB_y, isBv_i, isBv_b, eqCells_t, TT]
      refine call_is (addWW (H3 ++ [wB q4 (DM ++ y4)]) w3 o3 E3 z3 C3.app H3.length q4 DM y4 ⟨by rw [List.getElem?_append_right (Nat.le_refl _), Nat.sub_self]; rfl, hq4⟩ (by have := lt_of C3.at_; omega) (by omega)) ?_
      rintro _ H4 ⟨w4, z4, o4, rfl, C4, g1, g2, g3⟩
      have b4 := ((g2 0 (by simp) (by omega)).trans (List.getElem?_append_left lt3)).trans b3
      have n4 : 1 ≤ w4 := by simp at g3; omega
      have lt4 := lt_of b4
      clear g1 g2 g3
      have e4 : (E3 ++ DM).length = 24 := by simp; omega
      generalize E3 ++ DM = E4 at C4 e4 ⊢
      simp (maxSteps := 4000000) only [Try.results10, b4, lt4, arpC, bSM, bDM, W1, W2, List.replicate_succ, List.replicate_zero, List.flatten_cons, List.flatten_nil, List.cons_append, List.nil_append, List.drop_succ_cons, List.drop_zero, List.length_cons, List.length_nil, XX, Nat.reduceBEq, Nat.reduceLT, Nat.reduceAdd, Nat.reduceMul, Nat.reduceSub, Nat.reduceLeDiff, Nat.reduceEqDiff, Int.reduceToNat, Int.reduceLT, Int.reduceLE, Int.reduceAdd, Int.reduceSub, Int.reduceEq, reduceIte, Nat.reduceBNe, Int.reducePow, Nat.reducePow, Int.reduceMul, Int.reduceNeg, isB_i, isB_b, isB_y, isBv_i, isBv_b, eqCells_t, TT]
      refine call_frame (p2) [] rfl rfl trivial rfl rfl ?_
      rintro _ _ ⟨rfl, rfl⟩
      simp (maxSteps := 4000000) only [Try.results10, ids_bsC, ren_bsC, noRo_bsC, plain_bsC, lt_bsC, ids_byte, ren_byte, noRo_byte, plain_byte, lt_byte, XX, Nat.reduceBEq, Nat.reduceLT, Nat.reduceAdd, Nat.reduceMul, Nat.reduceSub, Nat.reduceLeDiff, Nat.reduceEqDiff, Int.reduceToNat, Int.reduceLT, Int.reduceLE, Int.reduceAdd, Int.reduceSub, Int.reduceEq, reduceIte, Nat.reduceBNe, Int.reducePow, Nat.reducePow, Int.reduceMul, Int.reduceNeg, isB_i, isB_b, isB_y, isBv_i, isBv_b, eqCells_t, TT]
      refine call_is (addWW' (H4 ++ [wB true D4]) w4 o4 E4 z4 C4.app _ _ rfl rfl H4.length true D4 [] ⟨by rw [List.append_nil, List.getElem?_append_right (Nat.le_refl _), Nat.sub_self]; rfl, fun _ => rfl⟩ 4 4 l2 rfl (by have := lt_of C4.at_; omega) (by omega)) ?_
      rintro _ H5 ⟨w5, z5, o5, rfl, C5, g1, g2, g3⟩
      have b5 := ((g2 0 (by simp) (by omega)).trans (List.getElem?_append_left lt4)).trans b4
      have n5 : 1 ≤ w5 := by simp at g3; omega
      have lt5 := lt_of b5
      clear g1 g2 g3
      simp (maxSteps := 4000000) only [Try.results10, XX, Nat.reduceBEq, Nat.reduceLT, Nat.reduceAdd, Nat.reduceMul, Nat.reduceSub, Nat.reduceLeDiff, Nat.reduceEqDiff, Int.reduceToNat, Int.reduceLT, Int.reduceLE, Int.reduceAdd, Int.reduceSub, Int.reduceEq, reduceIte, Nat.reduceBNe, Int.reducePow, Nat.reducePow, Int.reduceMul, Int.reduceNeg, isB_i, isB_b, isB_y, isBv_i, isBv_b, eqCells_t, TT]
      exact ⟨w5, z5, o5, rfl, C5⟩
    · simp (maxSteps := 4000000) only [Try.results10, PXT_done, PXT_pair, ids_bsC, ren_bsC, noRo_bsC, plain_bsC, lt_bsC, ids_byte, ren_byte, noRo_byte, plain_byte, lt_byte, List.replicate_succ, List.replicate_zero, List.flatten_cons, List.flatten_nil, List.cons_append, List.nil_append, List.drop_succ_cons, List.drop_zero, List.length_cons, List.length_nil, u1, u2, bO, XX, Nat.reduceBEq, Nat.reduceLT, Nat.reduceAdd, Nat.reduceMul, Nat.reduceSub, Nat.reduceLeDiff, Nat.reduceEqDiff, Int.reduceToNat, Int.reduceLT, Int.reduceLE, Int.reduceAdd, Int.reduceSub, Int.reduceEq, reduceIte, Nat.reduceBNe, Int.reducePow, Nat.reducePow, Int.reduceMul, Int.reduceNeg, isB_i, isB_b, isB_y, isBv_i, isBv_b, eqCells_t, TT]
      refine call_fz [] p0 (fun t h' h => resS_noRo h) trivial ?_
      rintro _ _ ⟨z, o, rfl, rfl, ho⟩
      simp (maxSteps := 4000000) only [Try.results10, PXT_done, PXT_pair, ids_bsC, ren_bsC, noRo_bsC, plain_bsC, lt_bsC, ids_byte, ren_byte, noRo_byte, plain_byte, lt_byte, XX, Nat.reduceBEq, Nat.reduceLT, Nat.reduceAdd, Nat.reduceMul, Nat.reduceSub, Nat.reduceLeDiff, Nat.reduceEqDiff, Int.reduceToNat, Int.reduceLT, Int.reduceLE, Int.reduceAdd, Int.reduceSub, Int.reduceEq, reduceIte, Nat.reduceBNe, Int.reducePow, Nat.reducePow, Int.reduceMul, Int.reduceNeg, isB_i, isB_b, isB_y, isBv_i, isBv_b, eqCells_t, TT]
      refine call_is (addWW' [_, wB true O2, wB o (H6 ++ z)] 2 o H6 z ⟨rfl, ho⟩ _ _ rfl rfl 1 true O2 [] ⟨by rw [List.append_nil]; rfl, fun _ => rfl⟩ 2 2 l5 rfl (by decide) (by omega)) ?_
      rintro _ H1 ⟨w1, z1, o1, rfl, B1, g1, g2, g3⟩
      have a0 := g2 0 (by simp) (by decide)
      have n1 : 1 ≤ w1 := by simp at g3; omega
      simp (maxSteps := 4000000) only [Try.results10, PXT_done, PXT_pair, XX, Nat.reduceBEq, Nat.reduceLT, Nat.reduceAdd, Nat.reduceMul, Nat.reduceSub, Nat.reduceLeDiff, Nat.reduceEqDiff, Int.reduceToNat, Int.reduceLT, Int.reduceLE, Int.reduceAdd, Int.reduceSub, Int.reduceEq, reduceIte, Nat.reduceBNe, Int.reducePow, Nat.reducePow, Int.reduceMul, Int.reduceNeg, isB_i, isB_b, isB_y, isBv_i, isBv_b, eqCells_t, TT]
      generalize hH : unL [0] 0 _ H1 = H
      have b0 : H[0]? = some ⟨true, 27, arpC 2 sm si dm di⟩ := by rw [← hH]; exact unL_kept a0 rfl rfl
      have B2 : Buf H w1 o1 (H6 ++ O2) z1 := ⟨by rw [← hH]; exact unL_new B1.at_ n1, B1.own⟩
      clear hH g1 g2 g3 a0 B1
      have e1 : (H6 ++ O2).length = 8 := by simp; omega
      generalize H6 ++ O2 = E1 at B2 e1 ⊢
      have lt0 := lt_of b0
      simp (maxSteps := 4000000) only [Try.results10, b0, lt0, arpC, bSM, bDM, W1, W2, List.replicate_succ, List.replicate_zero, List.flatten_cons, List.flatten_nil, List.cons_append, List.nil_append, List.drop_succ_cons, List.drop_zero, List.length_cons, List.length_nil, XX, Nat.reduceBEq, Nat.reduceLT, Nat.reduceAdd, Nat.reduceMul, Nat.reduceSub, Nat.reduceLeDiff, Nat.reduceEqDiff, Int.reduceToNat, Int.reduceLT, Int.reduceLE, Int.reduceAdd, Int.reduceSub, Int.reduceEq, reduceIte, Nat.reduceBNe, Int.reducePow, Nat.reducePow, Int.reduceMul, Int.reduceNeg, isB_i, isB_b, isB_y, isBv_i, isBv_b, eqCells_t, TT]
      refine call_fz [.agg (bsC SM)] p3 (fun t h' h => resS_noRo h) ⟨.inl ⟨lt_bsC 0 _, congrArg SV.agg (ren_bsC _ _).symm⟩, trivial⟩ ?_
      rintro _ _ ⟨y2, q2, rfl, rfl, hq2⟩
      simp (maxSteps := 4000000) only [Try.results10, ids_bsC, ren_bsC, noRo_bsC, plain_bsC, lt_bsC, ids_byte, ren_byte, noRo_byte, plain_byte, lt_byte, XX, Nat.reduceBEq, Nat.reduceLT, Nat.reduceAdd, Nat.reduceMul, Nat.reduceSub, Nat.reduceLeDiff, Nat.reduceEqDiff, Int.reduceToNat, Int.reduceLT, Int.reduceLE, Int.reduceAdd, Int.reduceSub, Int.reduceEq, reduceIte, Nat.reduceBNe, Int.reducePow, Nat.reducePow, Int.reduceMul, Int.reduceNeg, isB_i, isB_b, isB_y, isBv_i, isBv_b, eqCells_t, TT]
      refine call_is (addWW (H ++ [wB q2 (SM ++ y2)]) w1 o1 E1 z1 B2.app H.length q2 SM y2 ⟨by rw [List.getElem?_append_right (Nat.le_refl _), Nat.sub_self]; rfl, hq2⟩ (by have := lt_of B2.at_; omega) (by omega)) ?_
      rintro _ H2 ⟨w2, z2, o2, rfl, C2, g1, g2, g3⟩
      have b2 := ((g2 0 (by simp) (by omega)).trans (List.getElem?_append_left lt0)).trans b0
      have n2 : 1 ≤ w2 := by simp at g3; omega
      have lt2 := lt_of b2
      clear g1 g2 g3
      have e2 : (E1 ++ SM).length = 14 := by simp; omega
      generalize E1 ++ SM = E2 at C2 e2 ⊢
      simp (maxSteps := 4000000) only [Try.results10, b2, lt2, arpC, bSM, bDM, W1, W2, List.replicate_succ, List.replicate_zero, List.flatten_cons, List.flatten_nil, List.cons_append, List.nil_append, List.drop_succ_cons, List.drop_zero, List.length_cons, List.length_nil, XX, Nat.reduceBEq, Nat.reduceLT, Nat.reduceAdd, Nat.reduceMul, Nat.reduceSub, Nat.reduceLeDiff, Nat.reduceEqDiff, Int.reduceToNat, Int.reduceLT, Int.reduceLE, Int.reduceAdd, Int.reduceSub, Int.reduceEq, reduceIte, Nat.reduceBNe, Int.reducePow, Nat.reducePow, Int.reduceMul, Int.reduceNeg, isB_i, isB_b, isB_y, isBv_i, isBv_b, eqCells_t, TT]
      refine call_frame (p1) [] rfl rfl trivial rfl rfl ?_
      rintro _ _ ⟨rfl, rfl⟩
      simp (maxSteps := 4000000) only [Try.results10, ids_bsC, ren_bsC, noRo_bsC, plain_bsC, lt_bsC, ids_byte, ren_byte, noRo_byte, plain_byte, lt_byte, XX, Nat.reduceBEq, Nat.reduceLT, Nat.reduceAdd, Nat.reduceMul, Nat.reduceSub, Nat.reduceLeDiff, Nat.reduceEqDiff, Int.reduceToNat, Int.reduceLT, Int.reduceLE, Int.reduceAdd, Int.reduceSub, Int.reduceEq, reduceIte, Nat.reduceBNe, Int.reducePow, Nat.reducePow, Int.reduceMul, Int.reduceNeg, isB_i, isB_b, isB_y, isBv_i, isBv_b, eqCells_t, TT]
      refine call_is (addWW' (H2 ++ [wB true S4]) w2 o2 E2 z2 C2.app _ _ rfl rfl H2.length true S4 [] ⟨by rw [List.append_nil, List.getElem?_append_right (Nat.le_refl _), Nat.sub_self]; rfl, fun _ => rfl⟩ 4 4 l1 rfl (by have := lt_of C2.at_; omega) (by omega)) ?_
      rintro _ H3 ⟨w3, z3, o3, rfl, C3, g1, g2, g3⟩
      have b3 := ((g2 0 (by simp) (by omega)).trans (List.getElem?_append_left lt2)).trans b2
      have n3 : 1 ≤ w3 := by simp at g3; omega
      have lt3 := lt_of b3
      clear g1 g2 g3
      have e3 : (E2 ++ S4).length = 18 := by simp; omega
      generalize E2 ++ S4 = E3 at C3 e3 ⊢
      simp (maxSteps := 4000000) only [Try.results10, b3, lt3, arpC, bSM, bDM, W1, W2, List.replicate_succ, List.replicate_zero, List.flatten_cons, List.flatten_nil, List.cons_append, List.nil_append, List.drop_succ_cons, List.drop_zero, List.length_cons, List.length_nil, XX, Nat.reduceBEq, Nat.reduceLT, Nat.reduceAdd, Nat.reduceMul, Nat.reduceSub, Nat.reduceLeDiff, Nat.reduceEqDiff, Int.reduceToNat, Int.reduceLT, Int.reduceLE, Int.reduceAdd, Int.reduceSub, Int.reduceEq, reduceIte, Nat.reduceBNe, Int.reducePow, Nat.reducePow, Int.reduceMul, Int.reduceNeg, isB_i, isB_b, isB_y, isBv_i, isBv_b, eqCells_t, TT]
      refine call_fz [.agg (bsC DM)] p4 (fun t h' h => resS_noRo h) ⟨.inl ⟨lt_bsC 0 _, congrArg SV.agg (ren_bsC _ _).symm⟩, trivial⟩ ?_
      rintro _ _ ⟨y4, q4, rfl, rfl, hq4⟩
      simp (maxSteps := 4000000) only [Try.results10, ids_bsC, ren_bsC, noRo_bsC, plain_bsC, lt_bsC, ids_byte, ren_byte, noRo_byte, plain_byte, lt_byte, XX, Nat.reduceBEq, Nat.reduceLT, Nat.reduceAdd, Nat.reduceMul, Nat.reduceSub, Nat.reduceLeDiff, Nat.reduceEqDiff, Int.reduceToNat, Int.reduceLT, Int.reduceLE, Int.reduceAdd, Int.reduceSub, Int.reduceEq, reduceIte, Nat.reduceBNe, Int.reducePow, Nat.reducePow, Int.reduceMul, Int.reduceNeg, isB_i, isB_b, isB_y, isBv_i, isBv_b, eqCells_t, TT]
      refine call_is (addWW (H3 ++ [wB q4 (DM ++ y4)]) w3 o3 E3 z3 C3.app H3.length q4 DM y4 ⟨by rw [List.getElem?_append_right (Nat.le_refl _), Nat.sub_self]; rfl, hq4⟩ (by have := lt_of C3.at_; omega) (by omega)) ?_
      rintro _ H4 ⟨w4, z4, o4, rfl, C4, g1, g2, g3⟩
      have b4 := ((g2 0 (by simp) (by omega)).trans (List.getElem?_append_left lt3)).trans b3
      have n4 : 1 ≤ w4 := by simp at g3; omega
      have lt4 := lt_of b4
      clear g1 g2 g3
      have e4 : (E3 ++ DM).length = 24 := by simp; omega
      generalize E3 ++ DM = E4 at C4 e4 ⊢
      simp (maxSteps := 4000000) only [Try.results10, b4, lt4, arpC, bSM, bDM, W1, W2, List.replicate_succ, List.replicate_zero, List.flatten_cons, List.flatten_nil, List.cons_append, List.nil_append, List.drop_succ_cons, List.drop_zero, List.length_cons, List.length_nil, XX, Nat.reduceBEq, Nat.reduceLT, Nat.reduceAdd, Nat.reduceMul, Nat.reduceSub, Nat.reduceLeDiff, Nat.reduceEqDiff, Int.reduceToNat, Int.reduceLT, Int.reduceLE, Int.reduceAdd, Int.reduceSub, Int.reduceEq, reduceIte, Nat.reduceBNe, Int.reducePow, Nat.reducePow, Int.reduceMul, Int.reduceNeg, isB_i, isB_b, isB_y, isBv_i, isBv_b, eqCells_t, TT]
      refine call_frame (p2) [] rfl rfl trivial rfl rfl ?_
      rintro _ _ ⟨rfl, rfl⟩
      simp (maxSteps := 4000000) only [Try.results10, ids_bsC, ren_bsC, noRo_bsC, plain_bsC, lt_bsC, ids_byte, ren_byte, noRo_byte, plain_byte, lt_byte, XX, Nat.reduceBEq, Nat.reduceLT, Nat.reduceAdd, Nat.reduceMul, Nat.reduceSub, Nat.reduceLeDiff, Nat.reduceEqDiff, Int.reduceToNat, Int.reduceLT, Int.reduceLE, Int.reduceAdd, Int.reduceSub, Int.reduceEq, reduceIte, Nat.reduceBNe, Int.reducePow, Nat.reducePow, Int.reduceMul, Int.reduceNeg, isB_i, isB_b, isB_y, isBv_i, isBv_b, eqCells_t, TT]
      refine call_is (addWW' (H4 ++ [wB true D4]) w4 o4 E4 z4 C4.app _ _ rfl rfl H4.length true D4 [] ⟨by rw [List.append_nil, List.getElem?_append_right (Nat.le_refl _), Nat.sub_self]; rfl, fun _ => rfl⟩ 4 4 l2 rfl (by have := lt_of C4.at_; omega) (by omega)) ?_
      rintro _ H5 ⟨w5, z5, o5, rfl, C5, g1, g2, g3⟩
      have b5 := ((g2 0 (by simp) (by omega)).trans (List.getElem?_append_left lt4)).trans b4
      have n5 : 1 ≤ w5 := by simp at g3; omega
      have lt5 := lt_of b5
      clear g1 g2 g3
      simp (maxSteps := 4000000) only [Try.results10, XX, Nat.reduceBEq, Nat.reduceLT, Nat.reduceAdd, Nat.reduceMul, Nat.reduceSub, Nat.reduceLeDiff, Nat.reduceEqDiff, Int.reduceToNat, Int.reduceLT, Int.reduceLE, Int.reduceAdd, Int.reduceSub, Int.reduceEq, reduceIte, Nat.reduceBNe, Int.reducePow, Nat.reducePow, Int.reduceMul, Int.reduceNeg, isB_i, isB_b, isB_y, isBv_i, isBv_b, eqCells_t, TT]
      exact ⟨w5, z5, o5, rfl, C5⟩

end Go.Proofs.Ytcihljikepielaa.Sx
