/- The symbolic executor, at work: the law of heads there and back. No condition. -/
import Derived.Test.YtipbnhgeanlkeaaN9l
namespace Go.Proofs.Ytipbnhgeanlkeaa.Sx
open Go
set_option linter.unusedSimpArgs false
set_option linter.unusedVariables false
set_option linter.unusedSectionVars false
set_option maxRecDepth 10000
set_option maxHeartbeats 4000000

theorem inetBack_walk : ∀ css, RTyL (RTy T reachBytes DEPTH) [27, 28, 28] css → Spec Try.prog 6 (svs T [27, 28, 28] css) [] fun r _ => r = .c (.v (.bool true)) := by
  intro css h
  obtain ⟨x1, xs1, rfl, h1, g1⟩ := RTyL_cons h
  obtain ⟨x2, xs2, rfl, h2, g2⟩ := RTyL_cons g1
  obtain ⟨x3, xs3, rfl, h3, g3⟩ := RTyL_cons g2
  obtain rfl := RTyL_nil g3
  obtain ⟨a, e1, a1, a2⟩ := RTy_ip h1
  obtain ⟨l, sp, c, rfl, hl1, hl2, hl3, hl4⟩ := RTy_bytes h2
  obtain ⟨l', sp', c', rfl, hl1', hl2', hl3', hl4'⟩ := RTy_bytes h3
  have e2 : svOf T 28 [.sl (bsR (l ++ sp)) l.length c] = .c (roB l sp c) := rfl
  have e4 : svOf T 28 [.sl (bsR (l' ++ sp')) l'.length c'] = .c (roB l' sp' c') := rfl
  simp only [svs, e1, e2, e4]
  clear h1 h2 h3 g1 g2 g3 h e1 e2 e4
  unfold reachBytes at hl4 hl4'
  have hdec := dec_spec l' sp' c' hl1' (by omega)
  have hB := fun h => enc_dec (l := l') h
  have hN : decE l' ≠ 0 → decD l' = [] ∧ decI l' = IP.z := fun h => ⟨if_neg h, if_neg h⟩
  have tk : ∀ a b : List UInt8, (bsC (a ++ b)).take a.length = bsC a := fun a b => by rw [bs_take, List.take_left' rfl]
  refine spec_of_X cx_ok Try.func6 rfl (by kernel_rfl) (by kernel_rfl) (Nat.le_of_ble_eq_true rfl) 400 21 ?_
  simp (maxSteps := 4000000) only [Try.results6, XX, Nat.reduceBEq, Nat.reduceLT, Nat.reduceAdd, Nat.reduceMul, Nat.reduceSub, Nat.reduceLeDiff, Nat.reduceEqDiff, Int.reduceToNat, Int.reduceLT, Int.reduceLE, Int.reduceAdd, Int.reduceSub, Int.reduceEq, reduceIte, Nat.reduceBNe, Int.reducePow, Nat.reducePow, Int.reduceMul, Int.reduceNeg, isB_i, isB_b, isB_y, isBv_i, isBv_b, eqCells_t, TT]
  refine call_plain (awake_spec) rfl ?_
  rintro _ rfl
  simp (maxSteps := 4000000) only [Try.results6, XX, Nat.reduceBEq, Nat.reduceLT, Nat.reduceAdd, Nat.reduceMul, Nat.reduceSub, Nat.reduceLeDiff, Nat.reduceEqDiff, Int.reduceToNat, Int.reduceLT, Int.reduceLE, Int.reduceAdd, Int.reduceSub, Int.reduceEq, reduceIte, Nat.reduceBNe, Int.reducePow, Nat.reducePow, Int.reduceMul, Int.reduceNeg, isB_i, isB_b, isB_y, isBv_i, isBv_b, eqCells_t, TT]
  refine call_fz [.agg (ipC a), .c (roB l sp c)] (encA_spec a l sp c a1 a2 (by omega)) (fun t h' h => resB_noRo h) ⟨.inl ⟨rfl, rfl⟩, .inl ⟨rfl, rfl⟩, trivial⟩ ?_
  rintro _ _ ⟨z1, o1, rfl, rfl, ho1⟩
  by_cases hE : encE a l = 0
  · have eR : encR a l = encL a l := if_pos hE
    have hlen := encL_len a l
    have hmx := encR_len a l
    rw [eR] at ho1 hmx
    rw [eR, hE]
    obtain rfl := ho1 (by omega)
    obtain ⟨q1, q2, q3⟩ := dec_enc l' hE a1 a2
    generalize encL a l = L at *
    simp (maxSteps := 4000000) only [Try.results6, ids_bsC, ren_bsC, noRo_bsC, plain_bsC, lt_bsC, ids_byte, ren_byte, noRo_byte, plain_byte, lt_byte, tk, XX, Nat.reduceBEq, Nat.reduceLT, Nat.reduceAdd, Nat.reduceMul, Nat.reduceSub, Nat.reduceLeDiff, Nat.reduceEqDiff, Int.reduceToNat, Int.reduceLT, Int.reduceLE, Int.reduceAdd, Int.reduceSub, Int.reduceEq, reduceIte, Nat.reduceBNe, Int.reducePow, Nat.reducePow, Int.reduceMul, Int.reduceNeg, isB_i, isB_b, isB_y, isBv_i, isBv_b, eqCells_t, TT]
    refine ⟨⟨⟨by omega, by unfold maxLen; omega⟩, by simp⟩, xapp_grow (by omega) fun c1 h1 _ => ?_⟩
    obtain ⟨r, rfl⟩ := Nat.exists_eq_add_of_le h1
    simp (maxSteps := 4000000) only [Try.results6, ids_bsC, ren_bsC, noRo_bsC, plain_bsC, lt_bsC, ids_byte, ren_byte, noRo_byte, plain_byte, lt_byte, tk, Nat.add_sub_cancel_left, zeros_flat, bs_app, bsC_len, XX, Nat.reduceBEq, Nat.reduceLT, Nat.reduceAdd, Nat.reduceMul, Nat.reduceSub, Nat.reduceLeDiff, Nat.reduceEqDiff, Int.reduceToNat, Int.reduceLT, Int.reduceLE, Int.reduceAdd, Int.reduceSub, Int.reduceEq, reduceIte, Nat.reduceBNe, Int.reducePow, Nat.reducePow, Int.reduceMul, Int.reduceNeg, isB_i, isB_b, isB_y, isBv_i, isBv_b, eqCells_t, TT]
    refine ⟨⟨⟨by omega, by unfold maxLen; omega, by simp, fun h => by simp; omega⟩, by simp⟩, ?_⟩
    have m9 : (bsR (l' ++ sp')).take l'.length = bsR l' := by rw [rs_take, List.take_left' rfl]
    refine xapp_lit (fun s : List UInt8 => [(0, .agg (ipC a)), (1, .c (roB l sp c)), (2, .c (roB l' sp' c')), (3, .c (.ptr 0 0)), (6, .c (.v (.bool false))), (7, .c (bC true)), (8, .c (slB 1 L z1)), (36, .c (slB 2 (L ++ l') s))]) (fun s => [⟨true, 27, ipC a⟩, wB true (L ++ z1), wB true ((L ++ l') ++ s)]) [some 0, some 1, some 2] [some 0, some 1, some 3] (fun h => ?_) (fun h c h1 => ?_) (fun z4 => ?_)
    · refine ⟨List.replicate (r - l'.length) 0, ⟨rfl, rfl, ?_, ?_⟩⟩
      · rw [m9, bsR_toSC]
        have e : bsC L ++ bsC l' ++ (bsC (L ++ List.replicate r 0)).drop (L.length + (bsC l').length) = bsC ((L ++ l') ++ List.replicate (r - l'.length) 0) := by
          rw [bs_drop, List.drop_append, List.drop_of_length_le (by simp), bsC_len, Nat.add_sub_cancel_left]
          simp
        rw [e]
        simp only [XX, Nat.reduceBEq, Nat.reduceLT, Nat.reduceAdd, Nat.reduceMul, Nat.reduceSub, Nat.reduceLeDiff, Nat.reduceEqDiff, Int.reduceToNat, Int.reduceLT, Int.reduceLE, Int.reduceAdd, Int.reduceSub, Int.reduceEq, reduceIte, Nat.reduceBNe, Int.reducePow, Nat.reducePow, Int.reduceMul, Int.reduceNeg, isB_i, isB_b, isB_y, isBv_i, isBv_b, eqCells_t, TT, ids_bsC, ren_bsC, noRo_bsC, plain_bsC, lt_bsC, ids_byte, ren_byte, noRo_byte, plain_byte, lt_byte]
      · simp only [XX, Nat.reduceBEq, Nat.reduceLT, Nat.reduceAdd, Nat.reduceMul, Nat.reduceSub, Nat.reduceLeDiff, Nat.reduceEqDiff, Int.reduceToNat, Int.reduceLT, Int.reduceLE, Int.reduceAdd, Int.reduceSub, Int.reduceEq, reduceIte, Nat.reduceBNe, Int.reducePow, Nat.reducePow, Int.reduceMul, Int.reduceNeg, isB_i, isB_b, isB_y, isBv_i, isBv_b, eqCells_t, TT, slB]
        simp
        omega
    · obtain ⟨r2, rfl⟩ := Nat.exists_eq_add_of_le h1
      refine ⟨List.replicate r2 0, ⟨rfl, rfl, ?_, ?_⟩⟩
      · rw [m9, bsR_toSC, Nat.add_sub_cancel_left]
        simp only [XX, Nat.reduceBEq, Nat.reduceLT, Nat.reduceAdd, Nat.reduceMul, Nat.reduceSub, Nat.reduceLeDiff, Nat.reduceEqDiff, Int.reduceToNat, Int.reduceLT, Int.reduceLE, Int.reduceAdd, Int.reduceSub, Int.reduceEq, reduceIte, Nat.reduceBNe, Int.reducePow, Nat.reducePow, Int.reduceMul, Int.reduceNeg, isB_i, isB_b, isB_y, isBv_i, isBv_b, eqCells_t, TT, ids_bsC, ren_bsC, noRo_bsC, plain_bsC, lt_bsC, ids_byte, ren_byte, noRo_byte, plain_byte, lt_byte, bs_app]
      · simp only [XX, Nat.reduceBEq, Nat.reduceLT, Nat.reduceAdd, Nat.reduceMul, Nat.reduceSub, Nat.reduceLeDiff, Nat.reduceEqDiff, Int.reduceToNat, Int.reduceLT, Int.reduceLE, Int.reduceAdd, Int.reduceSub, Int.reduceEq, reduceIte, Nat.reduceBNe, Int.reducePow, Nat.reducePow, Int.reduceMul, Int.reduceNeg, isB_i, isB_b, isB_y, isBv_i, isBv_b, eqCells_t, TT, slB]
        simp
    simp (maxSteps := 4000000) only [Try.results6, ids_bsC, ren_bsC, noRo_bsC, plain_bsC, lt_bsC, ids_byte, ren_byte, noRo_byte, plain_byte, lt_byte, XX, Nat.reduceBEq, Nat.reduceLT, Nat.reduceAdd, Nat.reduceMul, Nat.reduceSub, Nat.reduceLeDiff, Nat.reduceEqDiff, Int.reduceToNat, Int.reduceLT, Int.reduceLE, Int.reduceAdd, Int.reduceSub, Int.reduceEq, reduceIte, Nat.reduceBNe, Int.reducePow, Nat.reducePow, Int.reduceMul, Int.reduceNeg, isB_i, isB_b, isB_y, isBv_i, isBv_b, eqCells_t, TT]
    have hd1 := dec_spec (L ++ l') z4 ((L ++ l').length + z4.length) (by omega) (by simp; omega)
    rw [q1, q2, q3] at hd1
    refine call_fz [.c (roB (L ++ l') z4 ((L ++ l').length + z4.length))] hd1 (fun t h' h => resP_noRo h) ⟨fz_c (fz_sl rfl rfl rfl), trivial⟩ ?_
    rintro _ _ ⟨z5, o5, rfl, rfl, ho5⟩
    have m8 : (bsR (l ++ sp)).take l.length = bsR l := by rw [rs_take, List.take_left' rfl]
    have dL : decide ((L.length : Int) = IntKind.i64.wrap (20 + (l.length : Int))) = true := by
      rw [show IntKind.i64.wrap (20 + (l.length : Int)) = 20 + (l.length : Int) by rw [w64] <;> omega]
      simp only [decide_eq_true_eq]; omega
    have dM : decide (1500 < (L.length : Int)) = false := by simp only [decide_eq_false_iff_not]; omega
    simp (maxSteps := 4000000) only [Try.results6, ids_bsC, ren_bsC, noRo_bsC, plain_bsC, lt_bsC, ids_byte, ren_byte, noRo_byte, plain_byte, lt_byte, tk, strOf_bsC, m8, bsR_toSC, str_eq, dM, dL, XX, Nat.reduceBEq, Nat.reduceLT, Nat.reduceAdd, Nat.reduceMul, Nat.reduceSub, Nat.reduceLeDiff, Nat.reduceEqDiff, Int.reduceToNat, Int.reduceLT, Int.reduceLE, Int.reduceAdd, Int.reduceSub, Int.reduceEq, reduceIte, Nat.reduceBNe, Int.reducePow, Nat.reducePow, Int.reduceMul, Int.reduceNeg, isB_i, isB_b, isB_y, isBv_i, isBv_b, eqCells_t, TT]
    refine ⟨⟨by simp, isByte_bsC l⟩, ⟨by simp, isByte_bsC l⟩, ?_⟩
    refine call_fz [.c (roB l' sp' c')] hdec (fun t h' h => resP_noRo h) ⟨.inl ⟨rfl, rfl⟩, trivial⟩ ?_
    rintro _ _ ⟨z8, o8, rfl, rfl, ho8⟩
    by_cases hD : decE l' = 0
    · obtain ⟨eD, lD, lN, l20, s1, s2, nb, hx⟩ := hB hD
      have hF := encA_spec (decI l') (decD l') z8 ((decD l').length + z8.length) s1 s2 (by omega)
      rw [hD]
      generalize n16 l' 2 = N at *
      generalize decD l' = D at *
      generalize decI l' = I at *
      simp (maxSteps := 4000000) only [Try.results6, ids_bsC, ren_bsC, noRo_bsC, plain_bsC, lt_bsC, ids_byte, ren_byte, noRo_byte, plain_byte, lt_byte, XX, Nat.reduceBEq, Nat.reduceLT, Nat.reduceAdd, Nat.reduceMul, Nat.reduceSub, Nat.reduceLeDiff, Nat.reduceEqDiff, Int.reduceToNat, Int.reduceLT, Int.reduceLE, Int.reduceAdd, Int.reduceSub, Int.reduceEq, reduceIte, Nat.reduceBNe, Int.reducePow, Nat.reducePow, Int.reduceMul, Int.reduceNeg, isB_i, isB_b, isB_y, isBv_i, isBv_b, eqCells_t, TT]
      refine call_fz [.agg (ipC I), .c (roB D z8 (D.length + z8.length))] hF (fun t h' h => resB_noRo h) ⟨.inl ⟨rfl, rfl⟩, fz_c (fz_any rfl ho8), trivial⟩ ?_
      rintro _ _ ⟨z9, o9, rfl, rfl, ho9⟩
      have w20 : IntKind.i64.wrap (20 + (D.length : Int)) = ((20 + D.length : Nat) : Int) := by rw [w64] <;> omega
      by_cases hlong : 1480 < D.length
      · have eE : encE I D = 2 := by unfold encE; rw [if_neg nb, if_pos hlong]
        rw [eE]
        have dN : decide (1500 < ((20 + D.length : Nat) : Int)) = true := by simp only [decide_eq_true_eq]; omega
        simp (maxSteps := 4000000) only [Try.results6, ids_bsC, ren_bsC, noRo_bsC, plain_bsC, lt_bsC, ids_byte, ren_byte, noRo_byte, plain_byte, lt_byte, w20, dN, XX, Nat.reduceBEq, Nat.reduceLT, Nat.reduceAdd, Nat.reduceMul, Nat.reduceSub, Nat.reduceLeDiff, Nat.reduceEqDiff, Int.reduceToNat, Int.reduceLT, Int.reduceLE, Int.reduceAdd, Int.reduceSub, Int.reduceEq, reduceIte, Nat.reduceBNe, Int.reducePow, Nat.reducePow, Int.reduceMul, Int.reduceNeg, isB_i, isB_b, isB_y, isBv_i, isBv_b, eqCells_t, TT]
      · have eE : encE I D = 0 := by unfold encE; rw [if_neg nb, if_neg hlong]
        have eR : encR I D = encL I D := if_pos eE
        have hlen := encL_len I D
        rw [eE]
        rw [eR] at ho9 ⊢
        obtain rfl := ho9 (by omega)
        have dN : decide (1500 < ((20 + D.length : Nat) : Int)) = false := by simp only [decide_eq_false_iff_not]; omega
        have dL : decide (((encL I D).length : Int) = ((20 + D.length : Nat) : Int)) = true := by simp only [decide_eq_true_eq]; omega
        have dB : decide ((l'.length : Int) < ((20 + D.length : Nat) : Int)) = false := by simp only [decide_eq_false_iff_not]; omega
        rw [lD] at w20 dN dL dB
        simp (maxSteps := 4000000) only [Try.results6, ids_bsC, ren_bsC, noRo_bsC, plain_bsC, lt_bsC, ids_byte, ren_byte, noRo_byte, plain_byte, lt_byte, w20, dN, dL, dB, XX, Nat.reduceBEq, Nat.reduceLT, Nat.reduceAdd, Nat.reduceMul, Nat.reduceSub, Nat.reduceLeDiff, Nat.reduceEqDiff, Int.reduceToNat, Int.reduceLT, Int.reduceLE, Int.reduceAdd, Int.reduceSub, Int.reduceEq, reduceIte, Nat.reduceBNe, Int.reducePow, Nat.reducePow, Int.reduceMul, Int.reduceNeg, isB_i, isB_b, isB_y, isBv_i, isBv_b, eqCells_t, TT]
        refine ⟨⟨by omega, by omega, by omega⟩, ⟨⟨by omega, by unfold maxLen; omega⟩, by simp; omega⟩, xapp_grow (by omega) fun c1 h1 _ => ?_⟩
        obtain ⟨r7, rfl⟩ := Nat.exists_eq_add_of_le h1
        have eT : (bsR (l' ++ sp')).take N = bsR (l'.take N) := by rw [rs_take, List.take_append_of_le_length lN]
        obtain ⟨R6, r6⟩ := dropAt (sp := sp') (l := l') (j := 6) (by omega)
        obtain ⟨R10, r10⟩ := dropAt (sp := sp') (l := l') (j := 10) (by omega)
        obtain ⟨R11, r11⟩ := dropAt (sp := sp') (l := l') (j := 11) (by omega)
        have g6 : ((bsR (l' ++ sp')).drop 6).getD 0 (RC.v undef) = .v (.int .u8 (l'.getD 6 0).toNat) := by rw [r6]; rfl
        have g10 : ((bsR (l' ++ sp')).drop 10).getD 0 (RC.v undef) = .v (.int .u8 (l'.getD 10 0).toNat) := by rw [r10]; rfl
        have g11 : ((bsR (l' ++ sp')).drop 11).getD 0 (RC.v undef) = .v (.int .u8 (l'.getD 11 0).toNat) := by rw [r11]; rfl
        simp (maxSteps := 4000000) only [Try.results6, ids_bsC, ren_bsC, noRo_bsC, plain_bsC, lt_bsC, ids_byte, ren_byte, noRo_byte, plain_byte, lt_byte, eT, bsR_toSC, Nat.add_sub_cancel_left, zeros_flat, bs_app, g6, XX, Nat.reduceBEq, Nat.reduceLT, Nat.reduceAdd, Nat.reduceMul, Nat.reduceSub, Nat.reduceLeDiff, Nat.reduceEqDiff, Int.reduceToNat, Int.reduceLT, Int.reduceLE, Int.reduceAdd, Int.reduceSub, Int.reduceEq, reduceIte, Nat.reduceBNe, Int.reducePow, Nat.reducePow, Int.reduceMul, Int.reduceNeg, isB_i, isB_b, isB_y, isBv_i, isBv_b, eqCells_t, TT]
        refine ⟨by omega, by simp; omega, ?_⟩
        have lA : (l'.take N).length = N := by simp; omega
        by_cases h6 : 128 ≤ (l'.getD 6 0).toNat
        · have d6 : decide (128 ≤ ((l'.getD 6 0).toNat : Int)) = true := by simp only [decide_eq_true_eq]; omega
          have t1 : ((bsC (encL I D ++ z9)).drop 20).take ((encL I D).length - 20) = bsC D := by
            rw [bs_drop, List.drop_append_of_le_length (by omega), show (encL I D).drop 20 = D from List.drop_left' (headL_len ..), show (encL I D).length - 20 = D.length by omega, tk]
          have t2 : ((bsC (l'.take N ++ List.replicate r7 0)).drop 20).take (N - 20) = bsC D := by
            rw [bs_drop, List.drop_append_of_le_length (by omega), ← eD, show N - 20 = D.length by omega, tk]
          simp (maxSteps := 4000000) only [Try.results6, d6, XX, Nat.reduceBEq, Nat.reduceLT, Nat.reduceAdd, Nat.reduceMul, Nat.reduceSub, Nat.reduceLeDiff, Nat.reduceEqDiff, Int.reduceToNat, Int.reduceLT, Int.reduceLE, Int.reduceAdd, Int.reduceSub, Int.reduceEq, reduceIte, Nat.reduceBNe, Int.reducePow, Nat.reducePow, Int.reduceMul, Int.reduceNeg, isB_i, isB_b, isB_y, isBv_i, isBv_b, eqCells_t, TT]
          refine draw_of cx_ok (by kernel_rfl) 400 [7, 8] [(0, true), (1, true), (2, true), (3, true), (4, true), (5, true), (6, true), (7, true)] (by kernel_rfl) rfl ?_
          simp (maxSteps := 4000000) only [Try.results6, t1, t2, strOf_bsC, str_eq, XX, Nat.reduceBEq, Nat.reduceLT, Nat.reduceAdd, Nat.reduceMul, Nat.reduceSub, Nat.reduceLeDiff, Nat.reduceEqDiff, Int.reduceToNat, Int.reduceLT, Int.reduceLE, Int.reduceAdd, Int.reduceSub, Int.reduceEq, reduceIte, Nat.reduceBNe, Int.reducePow, Nat.reducePow, Int.reduceMul, Int.reduceNeg, isB_i, isB_b, isB_y, isBv_i, isBv_b, eqCells_t, TT]
          exact ⟨⟨by omega, by omega, by omega⟩, ⟨by simp; omega, isByte_bsC _⟩, ⟨by omega, by omega, by omega⟩, by simp; omega, isByte_bsC _⟩
        · have d6 : decide (128 ≤ ((l'.getD 6 0).toNat : Int)) = false := by simp only [decide_eq_false_iff_not]; omega
          obtain ⟨x1, x2⟩ := hx (by omega)
          simp (maxSteps := 4000000) only [Try.results6, d6, g10, XX, Nat.reduceBEq, Nat.reduceLT, Nat.reduceAdd, Nat.reduceMul, Nat.reduceSub, Nat.reduceLeDiff, Nat.reduceEqDiff, Int.reduceToNat, Int.reduceLT, Int.reduceLE, Int.reduceAdd, Int.reduceSub, Int.reduceEq, reduceIte, Nat.reduceBNe, Int.reducePow, Nat.reducePow, Int.reduceMul, Int.reduceNeg, isB_i, isB_b, isB_y, isBv_i, isBv_b, eqCells_t, TT]
          refine ⟨by omega, by simp; omega, ?_⟩
          have tE : (bsC (encL I D ++ z9)).take (encL I D).length = bsC (encL I D) := tk _ _
          have tA : (bsC (l'.take N ++ List.replicate r7 0)).take N = bsC (l'.take N) := by
            conv => lhs; rw [← lA]
            rw [lA, bs_take, List.take_left' lA]
          have c10 : (bsC (encL I D ++ z9)).getD 10 .any = SC.v (.int .u8 ((encL I D).getD 10 0).toNat) := by
            rw [List.getD_eq_getElem?_getD, List.getElem?_map, List.getElem?_append_left (by omega), List.getD_eq_getElem?_getD, List.getElem?_eq_getElem (by omega)]; rfl
          have c11 : (bsC (encL I D ++ z9)).getD 11 .any = SC.v (.int .u8 ((encL I D).getD 11 0).toNat) := by
            rw [List.getD_eq_getElem?_getD, List.getElem?_map, List.getElem?_append_left (by omega), List.getD_eq_getElem?_getD, List.getElem?_eq_getElem (by omega)]; rfl
          by_cases h10 : (l'.getD 10 0).toNat = 255
          · have d10 : decide (((l'.getD 10 0).toNat : Int) = 255) = true := by simp only [decide_eq_true_eq]; omega
            simp (maxSteps := 4000000) only [Try.results6, d10, g11, XX, Nat.reduceBEq, Nat.reduceLT, Nat.reduceAdd, Nat.reduceMul, Nat.reduceSub, Nat.reduceLeDiff, Nat.reduceEqDiff, Int.reduceToNat, Int.reduceLT, Int.reduceLE, Int.reduceAdd, Int.reduceSub, Int.reduceEq, reduceIte, Nat.reduceBNe, Int.reducePow, Nat.reducePow, Int.reduceMul, Int.reduceNeg, isB_i, isB_b, isB_y, isBv_i, isBv_b, eqCells_t, TT]
            refine ⟨by omega, by simp; omega, ?_⟩
            by_cases h11 : (l'.getD 11 0).toNat = 255
            · have d11 : decide (((l'.getD 11 0).toNat : Int) = 255) = true := by simp only [decide_eq_true_eq]; omega
              have x3 := x2 h10 h11
              have lC : (encL I D).length = N := by omega
              have v10 : (encL I D).getD 10 0 = 0 := by
                rw [List.getD_eq_getElem?_getD, x3, List.getElem?_set_ne (by decide), List.getElem?_set_self (by omega)]; rfl
              have v11 : (encL I D).getD 11 0 = 0 := by
                rw [List.getD_eq_getElem?_getD, x3, List.getElem?_set_self (by simp; omega)]; rfl
              rw [v10, show (0 : UInt8).toNat = 0 from rfl] at c10
              rw [v11, show (0 : UInt8).toNat = 0 from rfl] at c11
              have lt10 : (10 : Int) < ((encL I D).length : Int) := by omega
              have lt11 : (11 : Int) < ((encL I D).length : Int) := by omega
              have ltb : 10 < (bsC (encL I D ++ z9)).length ∧ 11 < (bsC (encL I D ++ z9)).length := by simp; omega
              have s10 : (bsC (l'.take N ++ List.replicate r7 0)).take 10 ++ [SC.v (.int .u8 0)] ++ (bsC (l'.take N ++ List.replicate r7 0)).drop 11 = bsC ((l'.take N).set 10 0 ++ List.replicate r7 0) := cells_set (x := 0) (by omega)
              have s11 : (bsC ((l'.take N).set 10 0 ++ List.replicate r7 0)).take 11 ++ [SC.v (.int .u8 0)] ++ (bsC ((l'.take N).set 10 0 ++ List.replicate r7 0)).drop 12 = bsC (((l'.take N).set 10 0).set 11 0 ++ List.replicate r7 0) := cells_set (x := 0) (by simp; omega)
              have tA2 : (bsC (((l'.take N).set 10 0).set 11 0 ++ List.replicate r7 0)).take N = bsC (((l'.take N).set 10 0).set 11 0) := by
                rw [bs_take, List.take_left' (by simpa using lA)]
              simp (maxSteps := 4000000) only [Try.results6, d11, c10, c11, lt10, lt11, ltb.1, ltb.2, s10, s11, tA2, tE, strOf_bsC, str_eq, XX, Nat.reduceBEq, Nat.reduceLT, Nat.reduceAdd, Nat.reduceMul, Nat.reduceSub, Nat.reduceLeDiff, Nat.reduceEqDiff, Int.reduceToNat, Int.reduceLT, Int.reduceLE, Int.reduceAdd, Int.reduceSub, Int.reduceEq, reduceIte, Nat.reduceBNe, Int.reducePow, Nat.reducePow, Int.reduceMul, Int.reduceNeg, isB_i, isB_b, isB_y, isBv_i, isBv_b, eqCells_t, TT]
              exact ⟨by omega, by simp; omega, by omega, by simp; omega, ⟨by simp, isByte_bsC _⟩, ⟨by simp; omega, isByte_bsC _⟩, by rw [x3]; simp⟩
            · have d11 : decide (((l'.getD 11 0).toNat : Int) = 255) = false := by simp only [decide_eq_false_iff_not]; omega
              have x3 := x1 (by omega)
              simp (maxSteps := 4000000) only [Try.results6, d11, c10, c11, XX, Nat.reduceBEq, Nat.reduceLT, Nat.reduceAdd, Nat.reduceMul, Nat.reduceSub, Nat.reduceLeDiff, Nat.reduceEqDiff, Int.reduceToNat, Int.reduceLT, Int.reduceLE, Int.reduceAdd, Int.reduceSub, Int.reduceEq, reduceIte, Nat.reduceBNe, Int.reducePow, Nat.reducePow, Int.reduceMul, Int.reduceNeg, isB_i, isB_b, isB_y, isBv_i, isBv_b, eqCells_t, TT]
              refine ⟨fun h => absurd h (by omega), fun h => absurd h (by omega), ?_⟩
              simp (maxSteps := 4000000) only [Try.results6, d11, c10, c11, tE, tA, strOf_bsC, str_eq, XX, Nat.reduceBEq, Nat.reduceLT, Nat.reduceAdd, Nat.reduceMul, Nat.reduceSub, Nat.reduceLeDiff, Nat.reduceEqDiff, Int.reduceToNat, Int.reduceLT, Int.reduceLE, Int.reduceAdd, Int.reduceSub, Int.reduceEq, reduceIte, Nat.reduceBNe, Int.reducePow, Nat.reducePow, Int.reduceMul, Int.reduceNeg, isB_i, isB_b, isB_y, isBv_i, isBv_b, eqCells_t, TT]
              exact ⟨⟨by simp, isByte_bsC _⟩, ⟨by simp; omega, isByte_bsC _⟩, by rw [x3]; simp⟩
          · have d10 : decide (((l'.getD 10 0).toNat : Int) = 255) = false := by simp only [decide_eq_false_iff_not]; omega
            have x3 := x1 (by omega)
            simp (maxSteps := 4000000) only [Try.results6, d10, g11, c10, c11, XX, Nat.reduceBEq, Nat.reduceLT, Nat.reduceAdd, Nat.reduceMul, Nat.reduceSub, Nat.reduceLeDiff, Nat.reduceEqDiff, Int.reduceToNat, Int.reduceLT, Int.reduceLE, Int.reduceAdd, Int.reduceSub, Int.reduceEq, reduceIte, Nat.reduceBNe, Int.reducePow, Nat.reducePow, Int.reduceMul, Int.reduceNeg, isB_i, isB_b, isB_y, isBv_i, isBv_b, eqCells_t, TT]
            refine ⟨fun h => absurd h (by omega), fun h => absurd h (by omega), ?_⟩
            simp (maxSteps := 4000000) only [Try.results6, d10, g11, c10, c11, tE, tA, strOf_bsC, str_eq, XX, Nat.reduceBEq, Nat.reduceLT, Nat.reduceAdd, Nat.reduceMul, Nat.reduceSub, Nat.reduceLeDiff, Nat.reduceEqDiff, Int.reduceToNat, Int.reduceLT, Int.reduceLE, Int.reduceAdd, Int.reduceSub, Int.reduceEq, reduceIte, Nat.reduceBNe, Int.reducePow, Nat.reducePow, Int.reduceMul, Int.reduceNeg, isB_i, isB_b, isB_y, isBv_i, isBv_b, eqCells_t, TT]
            exact ⟨⟨by simp, isByte_bsC _⟩, ⟨by simp; omega, isByte_bsC _⟩, by rw [x3]; simp⟩
    · obtain ⟨n1, n2⟩ := hN hD
      have dD : decide (decE l' = 0) = false := by simpa using hD
      rw [n1, n2] at *
      simp (maxSteps := 4000000) only [Try.results6, ids_bsC, ren_bsC, noRo_bsC, plain_bsC, lt_bsC, ids_byte, ren_byte, noRo_byte, plain_byte, lt_byte, dD, XX, Nat.reduceBEq, Nat.reduceLT, Nat.reduceAdd, Nat.reduceMul, Nat.reduceSub, Nat.reduceLeDiff, Nat.reduceEqDiff, Int.reduceToNat, Int.reduceLT, Int.reduceLE, Int.reduceAdd, Int.reduceSub, Int.reduceEq, reduceIte, Nat.reduceBNe, Int.reducePow, Nat.reducePow, Int.reduceMul, Int.reduceNeg, isB_i, isB_b, isB_y, isBv_i, isBv_b, eqCells_t, TT]
      rfl
  · have dE : decide (encE a l = 0) = false := by simpa using hE
    simp (maxSteps := 4000000) only [Try.results6, ids_bsC, ren_bsC, noRo_bsC, plain_bsC, lt_bsC, ids_byte, ren_byte, noRo_byte, plain_byte, lt_byte, dE, XX, Nat.reduceBEq, Nat.reduceLT, Nat.reduceAdd, Nat.reduceMul, Nat.reduceSub, Nat.reduceLeDiff, Nat.reduceEqDiff, Int.reduceToNat, Int.reduceLT, Int.reduceLE, Int.reduceAdd, Int.reduceSub, Int.reduceEq, reduceIte, Nat.reduceBNe, Int.reducePow, Nat.reducePow, Int.reduceMul, Int.reduceNeg, isB_i, isB_b, isB_y, isBv_i, isBv_b, eqCells_t, TT]
    refine call_fz [.c (roB l' sp' c')] hdec (fun t h' h => resP_noRo h) ⟨.inl ⟨rfl, rfl⟩, trivial⟩ ?_
    rintro _ _ ⟨z8, o8, rfl, rfl, ho8⟩
    by_cases hD : decE l' = 0
    · obtain ⟨eD, lD, lN, l20, s1, s2, nb, hx⟩ := hB hD
      have hF := encA_spec (decI l') (decD l') z8 ((decD l').length + z8.length) s1 s2 (by omega)
      rw [hD]
      generalize n16 l' 2 = N at *
      generalize decD l' = D at *
      generalize decI l' = I at *
      simp (maxSteps := 4000000) only [Try.results6, ids_bsC, ren_bsC, noRo_bsC, plain_bsC, lt_bsC, ids_byte, ren_byte, noRo_byte, plain_byte, lt_byte, XX, Nat.reduceBEq, Nat.reduceLT, Nat.reduceAdd, Nat.reduceMul, Nat.reduceSub, Nat.reduceLeDiff, Nat.reduceEqDiff, Int.reduceToNat, Int.reduceLT, Int.reduceLE, Int.reduceAdd, Int.reduceSub, Int.reduceEq, reduceIte, Nat.reduceBNe, Int.reducePow, Nat.reducePow, Int.reduceMul, Int.reduceNeg, isB_i, isB_b, isB_y, isBv_i, isBv_b, eqCells_t, TT]
      refine call_fz [.agg (ipC I), .c (roB D z8 (D.length + z8.length))] hF (fun t h' h => resB_noRo h) ⟨.inl ⟨rfl, rfl⟩, fz_c (fz_any rfl ho8), trivial⟩ ?_
      rintro _ _ ⟨z9, o9, rfl, rfl, ho9⟩
      have w20 : IntKind.i64.wrap (20 + (D.length : Int)) = ((20 + D.length : Nat) : Int) := by rw [w64] <;> omega
      by_cases hlong : 1480 < D.length
      · have eE : encE I D = 2 := by unfold encE; rw [if_neg nb, if_pos hlong]
        rw [eE]
        have dN : decide (1500 < ((20 + D.length : Nat) : Int)) = true := by simp only [decide_eq_true_eq]; omega
        simp (maxSteps := 4000000) only [Try.results6, ids_bsC, ren_bsC, noRo_bsC, plain_bsC, lt_bsC, ids_byte, ren_byte, noRo_byte, plain_byte, lt_byte, w20, dN, XX, Nat.reduceBEq, Nat.reduceLT, Nat.reduceAdd, Nat.reduceMul, Nat.reduceSub, Nat.reduceLeDiff, Nat.reduceEqDiff, Int.reduceToNat, Int.reduceLT, Int.reduceLE, Int.reduceAdd, Int.reduceSub, Int.reduceEq, reduceIte, Nat.reduceBNe, Int.reducePow, Nat.reducePow, Int.reduceMul, Int.reduceNeg, isB_i, isB_b, isB_y, isBv_i, isBv_b, eqCells_t, TT]
      · have eE : encE I D = 0 := by unfold encE; rw [if_neg nb, if_neg hlong]
        have eR : encR I D = encL I D := if_pos eE
        have hlen := encL_len I D
        rw [eE]
        rw [eR] at ho9 ⊢
        obtain rfl := ho9 (by omega)
        have dN : decide (1500 < ((20 + D.length : Nat) : Int)) = false := by simp only [decide_eq_false_iff_not]; omega
        have dL : decide (((encL I D).length : Int) = ((20 + D.length : Nat) : Int)) = true := by simp only [decide_eq_true_eq]; omega
        have dB : decide ((l'.length : Int) < ((20 + D.length : Nat) : Int)) = false := by simp only [decide_eq_false_iff_not]; omega
        rw [lD] at w20 dN dL dB
        simp (maxSteps := 4000000) only [Try.results6, ids_bsC, ren_bsC, noRo_bsC, plain_bsC, lt_bsC, ids_byte, ren_byte, noRo_byte, plain_byte, lt_byte, w20, dN, dL, dB, XX, Nat.reduceBEq, Nat.reduceLT, Nat.reduceAdd, Nat.reduceMul, Nat.reduceSub, Nat.reduceLeDiff, Nat.reduceEqDiff, Int.reduceToNat, Int.reduceLT, Int.reduceLE, Int.reduceAdd, Int.reduceSub, Int.reduceEq, reduceIte, Nat.reduceBNe, Int.reducePow, Nat.reducePow, Int.reduceMul, Int.reduceNeg, isB_i, isB_b, isB_y, isBv_i, isBv_b, eqCells_t, TT]
        refine ⟨⟨by omega, by omega, by omega⟩, ⟨⟨by omega, by unfold maxLen; omega⟩, by simp; omega⟩, xapp_grow (by omega) fun c1 h1 _ => ?_⟩
        obtain ⟨r7, rfl⟩ := Nat.exists_eq_add_of_le h1
        have eT : (bsR (l' ++ sp')).take N = bsR (l'.take N) := by rw [rs_take, List.take_append_of_le_length lN]
        obtain ⟨R6, r6⟩ := dropAt (sp := sp') (l := l') (j := 6) (by omega)
        obtain ⟨R10, r10⟩ := dropAt (sp := sp') (l := l') (j := 10) (by omega)
        obtain ⟨R11, r11⟩ := dropAt (sp := sp') (l := l') (j := 11) (by omega)
        have g6 : ((bsR (l' ++ sp')).drop 6).getD 0 (RC.v undef) = .v (.int .u8 (l'.getD 6 0).toNat) := by rw [r6]; rfl
        have g10 : ((bsR (l' ++ sp')).drop 10).getD 0 (RC.v undef) = .v (.int .u8 (l'.getD 10 0).toNat) := by rw [r10]; rfl
        have g11 : ((bsR (l' ++ sp')).drop 11).getD 0 (RC.v undef) = .v (.int .u8 (l'.getD 11 0).toNat) := by rw [r11]; rfl
        simp (maxSteps := 4000000) only [Try.results6, ids_bsC, ren_bsC, noRo_bsC, plain_bsC, lt_bsC, ids_byte, ren_byte, noRo_byte, plain_byte, lt_byte, eT, bsR_toSC, Nat.add_sub_cancel_left, zeros_flat, bs_app, g6, XX, Nat.reduceBEq, Nat.reduceLT, Nat.reduceAdd, Nat.reduceMul, Nat.reduceSub, Nat.reduceLeDiff, Nat.reduceEqDiff, Int.reduceToNat, Int.reduceLT, Int.reduceLE, Int.reduceAdd, Int.reduceSub, Int.reduceEq, reduceIte, Nat.reduceBNe, Int.reducePow, Nat.reducePow, Int.reduceMul, Int.reduceNeg, isB_i, isB_b, isB_y, isBv_i, isBv_b, eqCells_t, TT]
        refine ⟨by omega, by simp; omega, ?_⟩
        have lA : (l'.take N).length = N := by simp; omega
        by_cases h6 : 128 ≤ (l'.getD 6 0).toNat
        · have d6 : decide (128 ≤ ((l'.getD 6 0).toNat : Int)) = true := by simp only [decide_eq_true_eq]; omega
          have t1 : ((bsC (encL I D ++ z9)).drop 20).take ((encL I D).length - 20) = bsC D := by
            rw [bs_drop, List.drop_append_of_le_length (by omega), show (encL I D).drop 20 = D from List.drop_left' (headL_len ..), show (encL I D).length - 20 = D.length by omega, tk]
          have t2 : ((bsC (l'.take N ++ List.replicate r7 0)).drop 20).take (N - 20) = bsC D := by
            rw [bs_drop, List.drop_append_of_le_length (by omega), ← eD, show N - 20 = D.length by omega, tk]
          simp (maxSteps := 4000000) only [Try.results6, d6, XX, Nat.reduceBEq, Nat.reduceLT, Nat.reduceAdd, Nat.reduceMul, Nat.reduceSub, Nat.reduceLeDiff, Nat.reduceEqDiff, Int.reduceToNat, Int.reduceLT, Int.reduceLE, Int.reduceAdd, Int.reduceSub, Int.reduceEq, reduceIte, Nat.reduceBNe, Int.reducePow, Nat.reducePow, Int.reduceMul, Int.reduceNeg, isB_i, isB_b, isB_y, isBv_i, isBv_b, eqCells_t, TT]
          refine draw_of cx_ok (by kernel_rfl) 400 [4, 5] [(0, true), (1, true), (2, true), (3, true), (4, true), (5, true), (6, true), (7, true)] (by kernel_rfl) rfl ?_
          simp (maxSteps := 4000000) only [Try.results6, t1, t2, strOf_bsC, str_eq, XX, Nat.reduceBEq, Nat.reduceLT, Nat.reduceAdd, Nat.reduceMul, Nat.reduceSub, Nat.reduceLeDiff, Nat.reduceEqDiff, Int.reduceToNat, Int.reduceLT, Int.reduceLE, Int.reduceAdd, Int.reduceSub, Int.reduceEq, reduceIte, Nat.reduceBNe, Int.reducePow, Nat.reducePow, Int.reduceMul, Int.reduceNeg, isB_i, isB_b, isB_y, isBv_i, isBv_b, eqCells_t, TT]
          exact ⟨⟨by omega, by omega, by omega⟩, ⟨by simp; omega, isByte_bsC _⟩, ⟨by omega, by omega, by omega⟩, by simp; omega, isByte_bsC _⟩
        · have d6 : decide (128 ≤ ((l'.getD 6 0).toNat : Int)) = false := by simp only [decide_eq_false_iff_not]; omega
          obtain ⟨x1, x2⟩ := hx (by omega)
          simp (maxSteps := 4000000) only [Try.results6, d6, g10, XX, Nat.reduceBEq, Nat.reduceLT, Nat.reduceAdd, Nat.reduceMul, Nat.reduceSub, Nat.reduceLeDiff, Nat.reduceEqDiff, Int.reduceToNat, Int.reduceLT, Int.reduceLE, Int.reduceAdd, Int.reduceSub, Int.reduceEq, reduceIte, Nat.reduceBNe, Int.reducePow, Nat.reducePow, Int.reduceMul, Int.reduceNeg, isB_i, isB_b, isB_y, isBv_i, isBv_b, eqCells_t, TT]
          refine ⟨by omega, by simp; omega, ?_⟩
          have tE : (bsC (encL I D ++ z9)).take (encL I D).length = bsC (encL I D) := tk _ _
          have tA : (bsC (l'.take N ++ List.replicate r7 0)).take N = bsC (l'.take N) := by
            conv => lhs; rw [← lA]
            rw [lA, bs_take, List.take_left' lA]
          have c10 : (bsC (encL I D ++ z9)).getD 10 .any = SC.v (.int .u8 ((encL I D).getD 10 0).toNat) := by
            rw [List.getD_eq_getElem?_getD, List.getElem?_map, List.getElem?_append_left (by omega), List.getD_eq_getElem?_getD, List.getElem?_eq_getElem (by omega)]; rfl
          have c11 : (bsC (encL I D ++ z9)).getD 11 .any = SC.v (.int .u8 ((encL I D).getD 11 0).toNat) := by
            rw [List.getD_eq_getElem?_getD, List.getElem?_map, List.getElem?_append_left (by omega), List.getD_eq_getElem?_getD, List.getElem?_eq_getElem (by omega)]; rfl
          by_cases h10 : (l'.getD 10 0).toNat = 255
          · have d10 : decide (((l'.getD 10 0).toNat : Int) = 255) = true := by simp only [decide_eq_true_eq]; omega
            simp (maxSteps := 4000000) only [Try.results6, d10, g11, XX, Nat.reduceBEq, Nat.reduceLT, Nat.reduceAdd, Nat.reduceMul, Nat.reduceSub, Nat.reduceLeDiff, Nat.reduceEqDiff, Int.reduceToNat, Int.reduceLT, Int.reduceLE, Int.reduceAdd, Int.reduceSub, Int.reduceEq, reduceIte, Nat.reduceBNe, Int.reducePow, Nat.reducePow, Int.reduceMul, Int.reduceNeg, isB_i, isB_b, isB_y, isBv_i, isBv_b, eqCells_t, TT]
            refine ⟨by omega, by simp; omega, ?_⟩
            by_cases h11 : (l'.getD 11 0).toNat = 255
            · have d11 : decide (((l'.getD 11 0).toNat : Int) = 255) = true := by simp only [decide_eq_true_eq]; omega
              have x3 := x2 h10 h11
              have lC : (encL I D).length = N := by omega
              have v10 : (encL I D).getD 10 0 = 0 := by
                rw [List.getD_eq_getElem?_getD, x3, List.getElem?_set_ne (by decide), List.getElem?_set_self (by omega)]; rfl
              have v11 : (encL I D).getD 11 0 = 0 := by
                rw [List.getD_eq_getElem?_getD, x3, List.getElem?_set_self (by simp; omega)]; rfl
              rw [v10, show (0 : UInt8).toNat = 0 from rfl] at c10
              rw [v11, show (0 : UInt8).toNat = 0 from rfl] at c11
              have lt10 : (10 : Int) < ((encL I D).length : Int) := by omega
              have lt11 : (11 : Int) < ((encL I D).length : Int) := by omega
              have ltb : 10 < (bsC (encL I D ++ z9)).length ∧ 11 < (bsC (encL I D ++ z9)).length := by simp; omega
              have s10 : (bsC (l'.take N ++ List.replicate r7 0)).take 10 ++ [SC.v (.int .u8 0)] ++ (bsC (l'.take N ++ List.replicate r7 0)).drop 11 = bsC ((l'.take N).set 10 0 ++ List.replicate r7 0) := cells_set (x := 0) (by omega)
              have s11 : (bsC ((l'.take N).set 10 0 ++ List.replicate r7 0)).take 11 ++ [SC.v (.int .u8 0)] ++ (bsC ((l'.take N).set 10 0 ++ List.replicate r7 0)).drop 12 = bsC (((l'.take N).set 10 0).set 11 0 ++ List.replicate r7 0) := cells_set (x := 0) (by simp; omega)
              have tA2 : (bsC (((l'.take N).set 10 0).set 11 0 ++ List.replicate r7 0)).take N = bsC (((l'.take N).set 10 0).set 11 0) := by
                rw [bs_take, List.take_left' (by simpa using lA)]
              simp (maxSteps := 4000000) only [Try.results6, d11, c10, c11, lt10, lt11, ltb.1, ltb.2, s10, s11, tA2, tE, strOf_bsC, str_eq, XX, Nat.reduceBEq, Nat.reduceLT, Nat.reduceAdd, Nat.reduceMul, Nat.reduceSub, Nat.reduceLeDiff, Nat.reduceEqDiff, Int.reduceToNat, Int.reduceLT, Int.reduceLE, Int.reduceAdd, Int.reduceSub, Int.reduceEq, reduceIte, Nat.reduceBNe, Int.reducePow, Nat.reducePow, Int.reduceMul, Int.reduceNeg, isB_i, isB_b, isB_y, isBv_i, isBv_b, eqCells_t, TT]
              exact ⟨by omega, by simp; omega, by omega, by simp; omega, ⟨by simp, isByte_bsC _⟩, ⟨by simp; omega, isByte_bsC _⟩, by rw [x3]; simp⟩
            · have d11 : decide (((l'.getD 11 0).toNat : Int) = 255) = false := by simp only [decide_eq_false_iff_not]; omega
              have x3 := x1 (by omega)
              simp (maxSteps := 4000000) only [Try.results6, d11, c10, c11, XX, Nat.reduceBEq, Nat.reduceLT, Nat.reduceAdd, Nat.reduceMul, Nat.reduceSub, Nat.reduceLeDiff, Nat.reduceEqDiff, Int.reduceToNat, Int.reduceLT, Int.reduceLE, Int.reduceAdd, Int.reduceSub, Int.reduceEq, reduceIte, Nat.reduceBNe, Int.reducePow, Nat.reducePow, Int.reduceMul, Int.reduceNeg, isB_i, isB_b, isB_y, isBv_i, isBv_b, eqCells_t, TT]
              refine ⟨fun h => absurd h (by omega), fun h => absurd h (by omega), ?_⟩
              simp (maxSteps := 4000000) only [Try.results6, d11, c10, c11, tE, tA, strOf_bsC, str_eq, XX, Nat.reduceBEq, Nat.reduceLT, Nat.reduceAdd, Nat.reduceMul, Nat.reduceSub, Nat.reduceLeDiff, Nat.reduceEqDiff, Int.reduceToNat, Int.reduceLT, Int.reduceLE, Int.reduceAdd, Int.reduceSub, Int.reduceEq, reduceIte, Nat.reduceBNe, Int.reducePow, Nat.reducePow, Int.reduceMul, Int.reduceNeg, isB_i, isB_b, isB_y, isBv_i, isBv_b, eqCells_t, TT]
              exact ⟨⟨by simp, isByte_bsC _⟩, ⟨by simp; omega, isByte_bsC _⟩, by rw [x3]; simp⟩
          · have d10 : decide (((l'.getD 10 0).toNat : Int) = 255) = false := by simp only [decide_eq_false_iff_not]; omega
            have x3 := x1 (by omega)
            simp (maxSteps := 4000000) only [Try.results6, d10, g11, c10, c11, XX, Nat.reduceBEq, Nat.reduceLT, Nat.reduceAdd, Nat.reduceMul, Nat.reduceSub, Nat.reduceLeDiff, Nat.reduceEqDiff, Int.reduceToNat, Int.reduceLT, Int.reduceLE, Int.reduceAdd, Int.reduceSub, Int.reduceEq, reduceIte, Nat.reduceBNe, Int.reducePow, Nat.reducePow, Int.reduceMul, Int.reduceNeg, isB_i, isB_b, isB_y, isBv_i, isBv_b, eqCells_t, TT]
            refine ⟨fun h => absurd h (by omega), fun h => absurd h (by omega), ?_⟩
            simp (maxSteps := 4000000) only [Try.results6, d10, g11, c10, c11, tE, tA, strOf_bsC, str_eq, XX, Nat.reduceBEq, Nat.reduceLT, Nat.reduceAdd, Nat.reduceMul, Nat.reduceSub, Nat.reduceLeDiff, Nat.reduceEqDiff, Int.reduceToNat, Int.reduceLT, Int.reduceLE, Int.reduceAdd, Int.reduceSub, Int.reduceEq, reduceIte, Nat.reduceBNe, Int.reducePow, Nat.reducePow, Int.reduceMul, Int.reduceNeg, isB_i, isB_b, isB_y, isBv_i, isBv_b, eqCells_t, TT]
            exact ⟨⟨by simp, isByte_bsC _⟩, ⟨by simp; omega, isByte_bsC _⟩, by rw [x3]; simp⟩
    · obtain ⟨n1, n2⟩ := hN hD
      have dD : decide (decE l' = 0) = false := by simpa using hD
      rw [n1, n2] at *
      simp (maxSteps := 4000000) only [Try.results6, ids_bsC, ren_bsC, noRo_bsC, plain_bsC, lt_bsC, ids_byte, ren_byte, noRo_byte, plain_byte, lt_byte, dD, XX, Nat.reduceBEq, Nat.reduceLT, Nat.reduceAdd, Nat.reduceMul, Nat.reduceSub, Nat.reduceLeDiff, Nat.reduceEqDiff, Int.reduceToNat, Int.reduceLT, Int.reduceLE, Int.reduceAdd, Int.reduceSub, Int.reduceEq, reduceIte, Nat.reduceBNe, Int.reducePow, Nat.reducePow, Int.reduceMul, Int.reduceNeg, isB_i, isB_b, isB_y, isBv_i, isBv_b, eqCells_t, TT]
      rfl

end Go.Proofs.Ytipbnhgeanlkeaa.Sx
