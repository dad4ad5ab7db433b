/- The symbolic executor, at work: there and back; a bit that is turned. No condition. -/
import Derived.Test.YtfpjabhlfjkhfaaI4k
namespace Go.Proofs.Ytfpjabhlfjkhfaa.Sx
open Go
set_option linter.unusedSimpArgs false
set_option linter.unusedVariables false
set_option linter.unusedSectionVars false
set_option maxRecDepth 10000
set_option maxHeartbeats 2000000

theorem back2 (l' : List UInt8) (h : (idecR l').e ≠ 0) : decide ((idecR l').e = 0) = false := by simpa using h
theorem icmpBack_walk : ∀ css, RTyL (RTy T reachBytes DEPTH) [26, 24, 3, 3] css → Spec Try.prog 7 (svs T [26, 24, 3, 3] css) [] fun r _ => r = .c (.v (.bool true)) := by
  intro css h
  obtain ⟨x3, xs3, rfl, h3, g3⟩ := RTyL_cons h
  obtain ⟨x4, xs4, rfl, h4, g4⟩ := RTyL_cons g3
  obtain ⟨x1, xs1, rfl, h1, g1⟩ := RTyL_cons g4
  obtain ⟨x2, xs2, rfl, h2, g2⟩ := RTyL_cons g1
  obtain rfl := RTyL_nil g2
  obtain ⟨k, c, r, l, sp, cp, e3, hr, hl1, hl2, hl3, hl4⟩ := RTy_icmp h3
  obtain ⟨l', sp', cp', rfl, hl1', hl2', hl3', hl4'⟩ := RTy_bytes h4
  obtain ⟨at', rfl, hat⟩ := RTy_int T_3 h1
  obtain ⟨bit, rfl, hbit⟩ := RTy_int T_3 h2
  have e1 : svOf T 3 [.v (.int .i64 at')] = .c (i64 at') := rfl
  have e2 : svOf T 3 [.v (.int .i64 bit)] = .c (i64 bit) := rfl
  have e4 : svOf T 24 [.sl (bsR (l' ++ sp')) l'.length cp'] = .c (roB l' sp' cp') := rfl
  simp only [svs, e1, e2, e3, e4]
  clear h1 h2 h3 h4 g1 g2 g3 g4 h e1 e2 e3 e4
  unfold reachBytes at hl4 hl4'
  refine spec_of_X cx_ok Try.func7 rfl (by kernel_rfl) (by kernel_rfl) (Nat.le_of_ble_eq_true rfl) 400 28 ?_
  simp (maxSteps := 4000000) only [Try.results7, XX, Nat.reduceBEq, Nat.reduceLT, Nat.reduceAdd, Nat.reduceMul, Nat.reduceSub, Nat.reduceLeDiff, Nat.reduceEqDiff, Int.reduceToNat, Int.reduceLT, Int.reduceLE, Int.reduceAdd, Int.reduceSub, Int.reduceEq, reduceIte, Nat.reduceBNe, Int.reducePow, Nat.reducePow, Int.reduceMul, Int.reduceNeg, isB_i, isB_b, isB_y, isBv_i, isBv_b, eqCells_t, TT]
  refine call_plain (live_spec) rfl ?_
  rintro _ rfl
  simp (maxSteps := 4000000) only [Try.results7, XX, Nat.reduceBEq, Nat.reduceLT, Nat.reduceAdd, Nat.reduceMul, Nat.reduceSub, Nat.reduceLeDiff, Nat.reduceEqDiff, Int.reduceToNat, Int.reduceLT, Int.reduceLE, Int.reduceAdd, Int.reduceSub, Int.reduceEq, reduceIte, Nat.reduceBNe, Int.reducePow, Nat.reducePow, Int.reduceMul, Int.reduceNeg, isB_i, isB_b, isB_y, isBv_i, isBv_b, eqCells_t, TT]
  have hA := iencA_spec k c r l sp cp hr
  refine call_fz [.agg (icC k c r (roB l sp cp))] hA (fun t h' h => resB_noRo h) ⟨.inl ⟨rfl, rfl⟩, trivial⟩ ?_
  rintro _ _ ⟨z3, o3, rfl, rfl, ho3⟩
  simp (maxSteps := 4000000) only [Try.results7, ids_bsC, ren_bsC, noRo_bsC, plain_bsC, lt_bsC, ids_byte, ren_byte, noRo_byte, plain_byte, lt_byte, XX, Nat.reduceBEq, Nat.reduceLT, Nat.reduceAdd, Nat.reduceMul, Nat.reduceSub, Nat.reduceLeDiff, Nat.reduceEqDiff, Int.reduceToNat, Int.reduceLT, Int.reduceLE, Int.reduceAdd, Int.reduceSub, Int.reduceEq, reduceIte, Nat.reduceBNe, Int.reducePow, Nat.reducePow, Int.reduceMul, Int.reduceNeg, isB_i, isB_b, isB_y, isBv_i, isBv_b, eqCells_t, TT]
  by_cases hE : (iencR k c r l).2 = 0
  · obtain ⟨k, c, rfl, rfl, hk, hc, hl, hL⟩ := ienc_ok hE
    have hI := idec_icL k c r l hk hc hr hl
    have hok := icL_ok k c r l (by have := right_lt hk; omega) hc hr
    have hlen := icL_len k c r l (isum (icL k c r l 0))
    rw [← hL] at hI hok hlen
    generalize (iencR k c r l).1 = L at *
    rw [hE]
    obtain rfl := ho3 (by omega)
    simp (maxSteps := 4000000) only [Try.results7, XX, Nat.reduceBEq, Nat.reduceLT, Nat.reduceAdd, Nat.reduceMul, Nat.reduceSub, Nat.reduceLeDiff, Nat.reduceEqDiff, Int.reduceToNat, Int.reduceLT, Int.reduceLE, Int.reduceAdd, Int.reduceSub, Int.reduceEq, reduceIte, Nat.reduceBNe, Int.reducePow, Nat.reducePow, Int.reduceMul, Int.reduceNeg, isB_i, isB_b, isB_y, isBv_i, isBv_b, eqCells_t, TT]
    refine call_fz [.c (roB L z3 (L.length + z3.length))] (idec_spec L z3 _ (by omega)) (fun t h' h => resI_noRo h) ⟨fz_c (fz_sl rfl rfl rfl), trivial⟩ ?_
    rw [hI]
    rintro _ _ ⟨z4, o4, rfl, rfl, ho4⟩
    dsimp only at ho4 ⊢
    simp (maxSteps := 4000000) only [Try.results7, ids_bsC, ren_bsC, noRo_bsC, plain_bsC, lt_bsC, ids_byte, ren_byte, noRo_byte, plain_byte, lt_byte, XX, Nat.reduceBEq, Nat.reduceLT, Nat.reduceAdd, Nat.reduceMul, Nat.reduceSub, Nat.reduceLeDiff, Nat.reduceEqDiff, Int.reduceToNat, Int.reduceLT, Int.reduceLE, Int.reduceAdd, Int.reduceSub, Int.reduceEq, reduceIte, Nat.reduceBNe, Int.reducePow, Nat.reducePow, Int.reduceMul, Int.reduceNeg, isB_i, isB_b, isB_y, isBv_i, isBv_b, eqCells_t, TT]
    refine call_pureF [.agg (icC k c r (roB l z4 (l.length + z4.length))), .agg (icC k c r (roB l sp cp))] (isame_spec k c k c r r l l z4 sp _ _) ⟨ic_fz (fz_any rfl ho4), .inl ⟨rfl, rfl⟩, trivial⟩ ?_
    rintro _ rfl
    have s0 : (decide ((k : Int) = k) && decide ((c : Int) = c) && decide (r = r) && decide (l = l)) = true := by simp
    simp (maxSteps := 4000000) only [Try.results7, s0, XX, Nat.reduceBEq, Nat.reduceLT, Nat.reduceAdd, Nat.reduceMul, Nat.reduceSub, Nat.reduceLeDiff, Nat.reduceEqDiff, Int.reduceToNat, Int.reduceLT, Int.reduceLE, Int.reduceAdd, Int.reduceSub, Int.reduceEq, reduceIte, Nat.reduceBNe, Int.reducePow, Nat.reducePow, Int.reduceMul, Int.reduceNeg, isB_i, isB_b, isB_y, isBv_i, isBv_b, eqCells_t, TT]
    have hW := answ_spec k c r l sp cp hl1 (by omega)
    obtain ⟨r5, l5, b5, hq, hr5, hl5, hb5⟩ := answ_facts k c r l hr
    rw [hq] at hW
    refine call_fz [.agg (icC k c r (roB l sp cp))] hW (fun t h' h => resA_noRo h) ⟨.inl ⟨rfl, rfl⟩, trivial⟩ ?_
    rintro _ _ ⟨z5, o5, rfl, rfl, ho5⟩
    dsimp only at ho5 ⊢
    simp (maxSteps := 4000000) only [Try.results7, ids_bsC, ren_bsC, noRo_bsC, plain_bsC, lt_bsC, ids_byte, ren_byte, noRo_byte, plain_byte, lt_byte, XX, Nat.reduceBEq, Nat.reduceLT, Nat.reduceAdd, Nat.reduceMul, Nat.reduceSub, Nat.reduceLeDiff, Nat.reduceEqDiff, Int.reduceToNat, Int.reduceLT, Int.reduceLE, Int.reduceAdd, Int.reduceSub, Int.reduceEq, reduceIte, Nat.reduceBNe, Int.reducePow, Nat.reducePow, Int.reduceMul, Int.reduceNeg, isB_i, isB_b, isB_y, isBv_i, isBv_b, eqCells_t, TT]
    obtain ⟨X, hX, nX⟩ := ienc_0 (r := r5) (l := l5) (by omega)
    have hA2 := iencA_spec 0 0 r5 l5 z5 (l5.length + z5.length) hr5
    rw [hX] at hA2
    refine call_fz [.agg (icC 0 0 r5 (roB l5 z5 (l5.length + z5.length)))] hA2 (fun t h' h => resB_noRo h) ⟨ic_fz (fz_any rfl ho5), trivial⟩ ?_
    rintro _ _ ⟨z6, o6, rfl, rfl, ho6⟩
    dsimp only at ho6 ⊢
    simp (maxSteps := 4000000) only [Try.results7, ids_bsC, ren_bsC, noRo_bsC, plain_bsC, lt_bsC, ids_byte, ren_byte, noRo_byte, plain_byte, lt_byte, XX, Nat.reduceBEq, Nat.reduceLT, Nat.reduceAdd, Nat.reduceMul, Nat.reduceSub, Nat.reduceLeDiff, Nat.reduceEqDiff, Int.reduceToNat, Int.reduceLT, Int.reduceLE, Int.reduceAdd, Int.reduceSub, Int.reduceEq, reduceIte, Nat.reduceBNe, Int.reducePow, Nat.reducePow, Int.reduceMul, Int.reduceNeg, isB_i, isB_b, isB_y, isBv_i, isBv_b, eqCells_t, TT]
    have hW2 := answ_spec 0 0 r5 l5 z5 (l5.length + z5.length) (by omega) (by omega)
    rw [show answR 0 0 r5 l5 = ⟨0, 0, 0, [], false⟩ from rfl] at hW2
    refine call_fz [.agg (icC 0 0 r5 (roB l5 z5 (l5.length + z5.length)))] hW2 (fun t h' h => resA_noRo h) ⟨ic_fz (fz_any rfl ho5), trivial⟩ ?_
    rintro _ _ ⟨z7, o7, rfl, rfl, ho7⟩
    dsimp only at ho7 ⊢
    have d8 : decide ((L.length : Int) < 8) = false := by simp only [decide_eq_false_iff_not]; omega
    simp (maxSteps := 4000000) only [Try.results7, ids_bsC, ren_bsC, noRo_bsC, plain_bsC, lt_bsC, ids_byte, ren_byte, noRo_byte, plain_byte, lt_byte, d8, XX, Nat.reduceBEq, Nat.reduceLT, Nat.reduceAdd, Nat.reduceMul, Nat.reduceSub, Nat.reduceLeDiff, Nat.reduceEqDiff, Int.reduceToNat, Int.reduceLT, Int.reduceLE, Int.reduceAdd, Int.reduceSub, Int.reduceEq, reduceIte, Nat.reduceBNe, Int.reducePow, Nat.reducePow, Int.reduceMul, Int.reduceNeg, isB_i, isB_b, isB_y, isBv_i, isBv_b, eqCells_t, TT]
    have dX : b5 = true → decide ((X.length : Int) = (L.length : Int)) = true := fun h => by
      rw [hb5 h] at nX
      simp only [decide_eq_true_eq]; omega
    have tk : ∀ a b : List UInt8, (bsC (a ++ b)).take a.length = bsC a := fun a b => by rw [bs_take, List.take_left' rfl]
    have eL1 : IntKind.i64.wrap ((L.length : Int) - 1) = ((L.length - 1 : Nat) : Int) := by rw [w64] <;> omega
    by_cases c1 : at' < 0
    · have c1' : decide (at' < 0) = true := by simpa using c1
      obtain ⟨i, hi'⟩ : ∃ i : Nat, L.length - 1 = i := ⟨_, rfl⟩
      have hi : i < L.length := by omega
      rw [hi'] at eL1
      cases b5
      · simp (maxSteps := 4000000) only [Try.results7, c1', eL1, XX, Nat.reduceBEq, Nat.reduceLT, Nat.reduceAdd, Nat.reduceMul, Nat.reduceSub, Nat.reduceLeDiff, Nat.reduceEqDiff, Int.reduceToNat, Int.reduceLT, Int.reduceLE, Int.reduceAdd, Int.reduceSub, Int.reduceEq, reduceIte, Nat.reduceBNe, Int.reducePow, Nat.reducePow, Int.reduceMul, Int.reduceNeg, isB_i, isB_b, isB_y, isBv_i, isBv_b, eqCells_t, TT]
        refine ⟨⟨⟨by omega, by unfold maxLen; omega⟩, by simp⟩, xapp_grow (by omega) fun c3 hc3 _ => ?_⟩
        obtain ⟨y3, rfl⟩ := Nat.exists_eq_add_of_le hc3
        simp (maxSteps := 4000000) only [Try.results7, Nat.add_sub_cancel_left, tk, zeros_flat, bs_app, XX, Nat.reduceBEq, Nat.reduceLT, Nat.reduceAdd, Nat.reduceMul, Nat.reduceSub, Nat.reduceLeDiff, Nat.reduceEqDiff, Int.reduceToNat, Int.reduceLT, Int.reduceLE, Int.reduceAdd, Int.reduceSub, Int.reduceEq, reduceIte, Nat.reduceBNe, Int.reducePow, Nat.reducePow, Int.reduceMul, Int.reduceNeg, isB_i, isB_b, isB_y, isBv_i, isBv_b, eqCells_t, TT]
        have hR : (bsC (L ++ List.replicate y3 0)).getD i .any = SC.v (.int .u8 (L.getD i 0).toNat) := by
          rw [List.getD_eq_getElem?_getD, List.getElem?_map, List.getElem?_append_left hi, List.getD_eq_getElem?_getD, List.getElem?_eq_getElem hi]; rfl
        obtain ⟨x, j, hj, hb0, hbx, hx⟩ := turned8 (L.getD i 0) bit
        refine draw_of cx_ok (by kernel_rfl) 400 [] [(0, true), (1, true), (2, true), (3, true), (4, true), (6, true), (7, true), (8, true), (5, false), (9, true), (10, true), (11, false)] (by kernel_rfl) rfl ?_
        simp (maxSteps := 4000000) only [Try.results7, hR, hbx, cells_set hi, XX, Nat.reduceBEq, Nat.reduceLT, Nat.reduceAdd, Nat.reduceMul, Nat.reduceSub, Nat.reduceLeDiff, Nat.reduceEqDiff, Int.reduceToNat, Int.reduceLT, Int.reduceLE, Int.reduceAdd, Int.reduceSub, Int.reduceEq, reduceIte, Nat.reduceBNe, Int.reducePow, Nat.reducePow, Int.reduceMul, Int.reduceNeg, isB_i, isB_b, isB_y, isBv_i, isBv_b, eqCells_t, TT]
        refine ⟨⟨by omega, by omega⟩, hb0, by simp; omega, ⟨by omega, by omega⟩, by simp; omega, ?_⟩
        have hD := idec_spec (L.set i x) (List.replicate y3 0) (L.length + y3) (by simp)
        rw [idec_flip (by omega) (by omega) hok hi hj hx] at hD
        refine call_fz [.c (roB (L.set i x) (List.replicate y3 0) (L.length + y3))] hD (fun t h' h => resI_noRo h) ⟨fz_c (fz_sl' (by simp) rfl rfl rfl), trivial⟩ ?_
        rintro _ _ ⟨z10, o10, rfl, rfl, ho10⟩
        dsimp only at ho10 ⊢
        simp (maxSteps := 4000000) only [Try.results7, ids_bsC, ren_bsC, noRo_bsC, plain_bsC, lt_bsC, ids_byte, ren_byte, noRo_byte, plain_byte, lt_byte, XX, Nat.reduceBEq, Nat.reduceLT, Nat.reduceAdd, Nat.reduceMul, Nat.reduceSub, Nat.reduceLeDiff, Nat.reduceEqDiff, Int.reduceToNat, Int.reduceLT, Int.reduceLE, Int.reduceAdd, Int.reduceSub, Int.reduceEq, reduceIte, Nat.reduceBNe, Int.reducePow, Nat.reducePow, Int.reduceMul, Int.reduceNeg, isB_i, isB_b, isB_y, isBv_i, isBv_b, eqCells_t, TT]
        have hD2 := idec_spec l' sp' cp' hl1'
        have q2 := ienc_idec l'
        generalize idecR l' = Q at hD2 q2
        obtain ⟨k2, c2, r2, l2, E2⟩ := Q
        dsimp only at q2
        refine call_fz [.c (roB l' sp' cp')] hD2 (fun t h' h => resI_noRo h) ⟨.inl ⟨rfl, rfl⟩, trivial⟩ ?_
        rintro _ _ ⟨z8, o8, rfl, rfl, ho8⟩
        dsimp only at ho8 ⊢
        by_cases hE2 : E2 = 0
        · subst hE2
          simp (maxSteps := 4000000) only [Try.results7, ids_bsC, ren_bsC, noRo_bsC, plain_bsC, lt_bsC, ids_byte, ren_byte, noRo_byte, plain_byte, lt_byte, XX, Nat.reduceBEq, Nat.reduceLT, Nat.reduceAdd, Nat.reduceMul, Nat.reduceSub, Nat.reduceLeDiff, Nat.reduceEqDiff, Int.reduceToNat, Int.reduceLT, Int.reduceLE, Int.reduceAdd, Int.reduceSub, Int.reduceEq, reduceIte, Nat.reduceBNe, Int.reducePow, Nat.reducePow, Int.reduceMul, Int.reduceNeg, isB_i, isB_b, isB_y, isBv_i, isBv_b, eqCells_t, TT]
          have q3 := q2 rfl
          have hA3 := iencA_spec k2 c2 r2 l2 z8 (l2.length + z8.length) q3.2
          rw [q3.1] at hA3
          refine call_fz [.agg (icC k2 c2 r2 (roB l2 z8 (l2.length + z8.length)))] hA3 (fun t h' h => resB_noRo h) ⟨ic_fz (fz_any rfl ho8), trivial⟩ ?_
          rintro _ _ ⟨z9, o9, rfl, rfl, ho9⟩
          dsimp only at ho9 ⊢
          have m9 : (bsR (l' ++ sp')).take l'.length = bsR l' := by rw [rs_take, List.take_left' rfl]
          have se : decide (l' = l') = true := by simp
          simp (maxSteps := 4000000) only [Try.results7, ids_bsC, ren_bsC, noRo_bsC, plain_bsC, lt_bsC, ids_byte, ren_byte, noRo_byte, plain_byte, lt_byte, tk, strOf_bsC, str_eq, m9, bsR_toSC, se, XX, Nat.reduceBEq, Nat.reduceLT, Nat.reduceAdd, Nat.reduceMul, Nat.reduceSub, Nat.reduceLeDiff, Nat.reduceEqDiff, Int.reduceToNat, Int.reduceLT, Int.reduceLE, Int.reduceAdd, Int.reduceSub, Int.reduceEq, reduceIte, Nat.reduceBNe, Int.reducePow, Nat.reducePow, Int.reduceMul, Int.reduceNeg, isB_i, isB_b, isB_y, isBv_i, isBv_b, eqCells_t, TT]
          exact ⟨⟨by simp, isByte_bsC _⟩, by simp, isByte_bsC _⟩
        · have dE2 : decide (E2 = 0) = false := by simpa using hE2
          simp (maxSteps := 4000000) only [Try.results7, ids_bsC, ren_bsC, noRo_bsC, plain_bsC, lt_bsC, ids_byte, ren_byte, noRo_byte, plain_byte, lt_byte, dE2, XX, Nat.reduceBEq, Nat.reduceLT, Nat.reduceAdd, Nat.reduceMul, Nat.reduceSub, Nat.reduceLeDiff, Nat.reduceEqDiff, Int.reduceToNat, Int.reduceLT, Int.reduceLE, Int.reduceAdd, Int.reduceSub, Int.reduceEq, reduceIte, Nat.reduceBNe, Int.reducePow, Nat.reducePow, Int.reduceMul, Int.reduceNeg, isB_i, isB_b, isB_y, isBv_i, isBv_b, eqCells_t, TT]
      · have dX := dX rfl
        simp (maxSteps := 4000000) only [Try.results7, dX, c1', eL1, XX, Nat.reduceBEq, Nat.reduceLT, Nat.reduceAdd, Nat.reduceMul, Nat.reduceSub, Nat.reduceLeDiff, Nat.reduceEqDiff, Int.reduceToNat, Int.reduceLT, Int.reduceLE, Int.reduceAdd, Int.reduceSub, Int.reduceEq, reduceIte, Nat.reduceBNe, Int.reducePow, Nat.reducePow, Int.reduceMul, Int.reduceNeg, isB_i, isB_b, isB_y, isBv_i, isBv_b, eqCells_t, TT]
        refine ⟨⟨⟨by omega, by unfold maxLen; omega⟩, by simp⟩, xapp_grow (by omega) fun c3 hc3 _ => ?_⟩
        obtain ⟨y3, rfl⟩ := Nat.exists_eq_add_of_le hc3
        simp (maxSteps := 4000000) only [Try.results7, Nat.add_sub_cancel_left, tk, zeros_flat, bs_app, XX, Nat.reduceBEq, Nat.reduceLT, Nat.reduceAdd, Nat.reduceMul, Nat.reduceSub, Nat.reduceLeDiff, Nat.reduceEqDiff, Int.reduceToNat, Int.reduceLT, Int.reduceLE, Int.reduceAdd, Int.reduceSub, Int.reduceEq, reduceIte, Nat.reduceBNe, Int.reducePow, Nat.reducePow, Int.reduceMul, Int.reduceNeg, isB_i, isB_b, isB_y, isBv_i, isBv_b, eqCells_t, TT]
        have hR : (bsC (L ++ List.replicate y3 0)).getD i .any = SC.v (.int .u8 (L.getD i 0).toNat) := by
          rw [List.getD_eq_getElem?_getD, List.getElem?_map, List.getElem?_append_left hi, List.getD_eq_getElem?_getD, List.getElem?_eq_getElem hi]; rfl
        obtain ⟨x, j, hj, hb0, hbx, hx⟩ := turned8 (L.getD i 0) bit
        refine draw_of cx_ok (by kernel_rfl) 400 [] [(0, true), (1, true), (2, true), (3, true), (4, true), (6, true), (7, true), (8, true), (5, false), (9, true), (10, true), (11, false)] (by kernel_rfl) rfl ?_
        simp (maxSteps := 4000000) only [Try.results7, hR, hbx, cells_set hi, XX, Nat.reduceBEq, Nat.reduceLT, Nat.reduceAdd, Nat.reduceMul, Nat.reduceSub, Nat.reduceLeDiff, Nat.reduceEqDiff, Int.reduceToNat, Int.reduceLT, Int.reduceLE, Int.reduceAdd, Int.reduceSub, Int.reduceEq, reduceIte, Nat.reduceBNe, Int.reducePow, Nat.reducePow, Int.reduceMul, Int.reduceNeg, isB_i, isB_b, isB_y, isBv_i, isBv_b, eqCells_t, TT]
        refine ⟨⟨by omega, by omega⟩, hb0, by simp; omega, ⟨by omega, by omega⟩, by simp; omega, ?_⟩
        have hD := idec_spec (L.set i x) (List.replicate y3 0) (L.length + y3) (by simp)
        rw [idec_flip (by omega) (by omega) hok hi hj hx] at hD
        refine call_fz [.c (roB (L.set i x) (List.replicate y3 0) (L.length + y3))] hD (fun t h' h => resI_noRo h) ⟨fz_c (fz_sl' (by simp) rfl rfl rfl), trivial⟩ ?_
        rintro _ _ ⟨z10, o10, rfl, rfl, ho10⟩
        dsimp only at ho10 ⊢
        simp (maxSteps := 4000000) only [Try.results7, ids_bsC, ren_bsC, noRo_bsC, plain_bsC, lt_bsC, ids_byte, ren_byte, noRo_byte, plain_byte, lt_byte, XX, Nat.reduceBEq, Nat.reduceLT, Nat.reduceAdd, Nat.reduceMul, Nat.reduceSub, Nat.reduceLeDiff, Nat.reduceEqDiff, Int.reduceToNat, Int.reduceLT, Int.reduceLE, Int.reduceAdd, Int.reduceSub, Int.reduceEq, reduceIte, Nat.reduceBNe, Int.reducePow, Nat.reducePow, Int.reduceMul, Int.reduceNeg, isB_i, isB_b, isB_y, isBv_i, isBv_b, eqCells_t, TT]
        have hD2 := idec_spec l' sp' cp' hl1'
        have q2 := ienc_idec l'
        generalize idecR l' = Q at hD2 q2
        obtain ⟨k2, c2, r2, l2, E2⟩ := Q
        dsimp only at q2
        refine call_fz [.c (roB l' sp' cp')] hD2 (fun t h' h => resI_noRo h) ⟨.inl ⟨rfl, rfl⟩, trivial⟩ ?_
        rintro _ _ ⟨z8, o8, rfl, rfl, ho8⟩
        dsimp only at ho8 ⊢
        by_cases hE2 : E2 = 0
        · subst hE2
          simp (maxSteps := 4000000) only [Try.results7, ids_bsC, ren_bsC, noRo_bsC, plain_bsC, lt_bsC, ids_byte, ren_byte, noRo_byte, plain_byte, lt_byte, XX, Nat.reduceBEq, Nat.reduceLT, Nat.reduceAdd, Nat.reduceMul, Nat.reduceSub, Nat.reduceLeDiff, Nat.reduceEqDiff, Int.reduceToNat, Int.reduceLT, Int.reduceLE, Int.reduceAdd, Int.reduceSub, Int.reduceEq, reduceIte, Nat.reduceBNe, Int.reducePow, Nat.reducePow, Int.reduceMul, Int.reduceNeg, isB_i, isB_b, isB_y, isBv_i, isBv_b, eqCells_t, TT]
          have q3 := q2 rfl
          have hA3 := iencA_spec k2 c2 r2 l2 z8 (l2.length + z8.length) q3.2
          rw [q3.1] at hA3
          refine call_fz [.agg (icC k2 c2 r2 (roB l2 z8 (l2.length + z8.length)))] hA3 (fun t h' h => resB_noRo h) ⟨ic_fz (fz_any rfl ho8), trivial⟩ ?_
          rintro _ _ ⟨z9, o9, rfl, rfl, ho9⟩
          dsimp only at ho9 ⊢
          have m9 : (bsR (l' ++ sp')).take l'.length = bsR l' := by rw [rs_take, List.take_left' rfl]
          have se : decide (l' = l') = true := by simp
          simp (maxSteps := 4000000) only [Try.results7, ids_bsC, ren_bsC, noRo_bsC, plain_bsC, lt_bsC, ids_byte, ren_byte, noRo_byte, plain_byte, lt_byte, tk, strOf_bsC, str_eq, m9, bsR_toSC, se, XX, Nat.reduceBEq, Nat.reduceLT, Nat.reduceAdd, Nat.reduceMul, Nat.reduceSub, Nat.reduceLeDiff, Nat.reduceEqDiff, Int.reduceToNat, Int.reduceLT, Int.reduceLE, Int.reduceAdd, Int.reduceSub, Int.reduceEq, reduceIte, Nat.reduceBNe, Int.reducePow, Nat.reducePow, Int.reduceMul, Int.reduceNeg, isB_i, isB_b, isB_y, isBv_i, isBv_b, eqCells_t, TT]
          exact ⟨⟨by simp, isByte_bsC _⟩, by simp, isByte_bsC _⟩
        · have dE2 : decide (E2 = 0) = false := by simpa using hE2
          simp (maxSteps := 4000000) only [Try.results7, ids_bsC, ren_bsC, noRo_bsC, plain_bsC, lt_bsC, ids_byte, ren_byte, noRo_byte, plain_byte, lt_byte, dE2, XX, Nat.reduceBEq, Nat.reduceLT, Nat.reduceAdd, Nat.reduceMul, Nat.reduceSub, Nat.reduceLeDiff, Nat.reduceEqDiff, Int.reduceToNat, Int.reduceLT, Int.reduceLE, Int.reduceAdd, Int.reduceSub, Int.reduceEq, reduceIte, Nat.reduceBNe, Int.reducePow, Nat.reducePow, Int.reduceMul, Int.reduceNeg, isB_i, isB_b, isB_y, isBv_i, isBv_b, eqCells_t, TT]
    by_cases c2 : (L.length : Int) ≤ at'
    · have c1' : decide (at' < 0) = false := by simpa using c1
      have c2' : decide ((L.length : Int) ≤ at') = true := by simpa using c2
      obtain ⟨i, hi'⟩ : ∃ i : Nat, L.length - 1 = i := ⟨_, rfl⟩
      have hi : i < L.length := by omega
      rw [hi'] at eL1
      cases b5
      · simp (maxSteps := 4000000) only [Try.results7, c1', c2', eL1, XX, Nat.reduceBEq, Nat.reduceLT, Nat.reduceAdd, Nat.reduceMul, Nat.reduceSub, Nat.reduceLeDiff, Nat.reduceEqDiff, Int.reduceToNat, Int.reduceLT, Int.reduceLE, Int.reduceAdd, Int.reduceSub, Int.reduceEq, reduceIte, Nat.reduceBNe, Int.reducePow, Nat.reducePow, Int.reduceMul, Int.reduceNeg, isB_i, isB_b, isB_y, isBv_i, isBv_b, eqCells_t, TT]
        refine ⟨⟨⟨by omega, by unfold maxLen; omega⟩, by simp⟩, xapp_grow (by omega) fun c3 hc3 _ => ?_⟩
        obtain ⟨y3, rfl⟩ := Nat.exists_eq_add_of_le hc3
        simp (maxSteps := 4000000) only [Try.results7, Nat.add_sub_cancel_left, tk, zeros_flat, bs_app, XX, Nat.reduceBEq, Nat.reduceLT, Nat.reduceAdd, Nat.reduceMul, Nat.reduceSub, Nat.reduceLeDiff, Nat.reduceEqDiff, Int.reduceToNat, Int.reduceLT, Int.reduceLE, Int.reduceAdd, Int.reduceSub, Int.reduceEq, reduceIte, Nat.reduceBNe, Int.reducePow, Nat.reducePow, Int.reduceMul, Int.reduceNeg, isB_i, isB_b, isB_y, isBv_i, isBv_b, eqCells_t, TT]
        have hR : (bsC (L ++ List.replicate y3 0)).getD i .any = SC.v (.int .u8 (L.getD i 0).toNat) := by
          rw [List.getD_eq_getElem?_getD, List.getElem?_map, List.getElem?_append_left hi, List.getD_eq_getElem?_getD, List.getElem?_eq_getElem hi]; rfl
        obtain ⟨x, j, hj, hb0, hbx, hx⟩ := turned8 (L.getD i 0) bit
        refine draw_of cx_ok (by kernel_rfl) 400 [] [(0, true), (1, true), (2, true), (3, true), (4, true), (6, true), (7, true), (8, true), (5, false), (9, true), (10, true), (11, false)] (by kernel_rfl) rfl ?_
        simp (maxSteps := 4000000) only [Try.results7, hR, hbx, cells_set hi, XX, Nat.reduceBEq, Nat.reduceLT, Nat.reduceAdd, Nat.reduceMul, Nat.reduceSub, Nat.reduceLeDiff, Nat.reduceEqDiff, Int.reduceToNat, Int.reduceLT, Int.reduceLE, Int.reduceAdd, Int.reduceSub, Int.reduceEq, reduceIte, Nat.reduceBNe, Int.reducePow, Nat.reducePow, Int.reduceMul, Int.reduceNeg, isB_i, isB_b, isB_y, isBv_i, isBv_b, eqCells_t, TT]
        refine ⟨⟨by omega, by omega⟩, hb0, by simp; omega, ⟨by omega, by omega⟩, by simp; omega, ?_⟩
        have hD := idec_spec (L.set i x) (List.replicate y3 0) (L.length + y3) (by simp)
        rw [idec_flip (by omega) (by omega) hok hi hj hx] at hD
        refine call_fz [.c (roB (L.set i x) (List.replicate y3 0) (L.length + y3))] hD (fun t h' h => resI_noRo h) ⟨fz_c (fz_sl' (by simp) rfl rfl rfl), trivial⟩ ?_
        rintro _ _ ⟨z10, o10, rfl, rfl, ho10⟩
        dsimp only at ho10 ⊢
        simp (maxSteps := 4000000) only [Try.results7, ids_bsC, ren_bsC, noRo_bsC, plain_bsC, lt_bsC, ids_byte, ren_byte, noRo_byte, plain_byte, lt_byte, XX, Nat.reduceBEq, Nat.reduceLT, Nat.reduceAdd, Nat.reduceMul, Nat.reduceSub, Nat.reduceLeDiff, Nat.reduceEqDiff, Int.reduceToNat, Int.reduceLT, Int.reduceLE, Int.reduceAdd, Int.reduceSub, Int.reduceEq, reduceIte, Nat.reduceBNe, Int.reducePow, Nat.reducePow, Int.reduceMul, Int.reduceNeg, isB_i, isB_b, isB_y, isBv_i, isBv_b, eqCells_t, TT]
        have hD2 := idec_spec l' sp' cp' hl1'
        have q2 := ienc_idec l'
        generalize idecR l' = Q at hD2 q2
        obtain ⟨k2, c2, r2, l2, E2⟩ := Q
        dsimp only at q2
        refine call_fz [.c (roB l' sp' cp')] hD2 (fun t h' h => resI_noRo h) ⟨.inl ⟨rfl, rfl⟩, trivial⟩ ?_
        rintro _ _ ⟨z8, o8, rfl, rfl, ho8⟩
        dsimp only at ho8 ⊢
        by_cases hE2 : E2 = 0
        · subst hE2
          simp (maxSteps := 4000000) only [Try.results7, ids_bsC, ren_bsC, noRo_bsC, plain_bsC, lt_bsC, ids_byte, ren_byte, noRo_byte, plain_byte, lt_byte, XX, Nat.reduceBEq, Nat.reduceLT, Nat.reduceAdd, Nat.reduceMul, Nat.reduceSub, Nat.reduceLeDiff, Nat.reduceEqDiff, Int.reduceToNat, Int.reduceLT, Int.reduceLE, Int.reduceAdd, Int.reduceSub, Int.reduceEq, reduceIte, Nat.reduceBNe, Int.reducePow, Nat.reducePow, Int.reduceMul, Int.reduceNeg, isB_i, isB_b, isB_y, isBv_i, isBv_b, eqCells_t, TT]
          have q3 := q2 rfl
          have hA3 := iencA_spec k2 c2 r2 l2 z8 (l2.length + z8.length) q3.2
          rw [q3.1] at hA3
          refine call_fz [.agg (icC k2 c2 r2 (roB l2 z8 (l2.length + z8.length)))] hA3 (fun t h' h => resB_noRo h) ⟨ic_fz (fz_any rfl ho8), trivial⟩ ?_
          rintro _ _ ⟨z9, o9, rfl, rfl, ho9⟩
          dsimp only at ho9 ⊢
          have m9 : (bsR (l' ++ sp')).take l'.length = bsR l' := by rw [rs_take, List.take_left' rfl]
          have se : decide (l' = l') = true := by simp
          simp (maxSteps := 4000000) only [Try.results7, ids_bsC, ren_bsC, noRo_bsC, plain_bsC, lt_bsC, ids_byte, ren_byte, noRo_byte, plain_byte, lt_byte, tk, strOf_bsC, str_eq, m9, bsR_toSC, se, XX, Nat.reduceBEq, Nat.reduceLT, Nat.reduceAdd, Nat.reduceMul, Nat.reduceSub, Nat.reduceLeDiff, Nat.reduceEqDiff, Int.reduceToNat, Int.reduceLT, Int.reduceLE, Int.reduceAdd, Int.reduceSub, Int.reduceEq, reduceIte, Nat.reduceBNe, Int.reducePow, Nat.reducePow, Int.reduceMul, Int.reduceNeg, isB_i, isB_b, isB_y, isBv_i, isBv_b, eqCells_t, TT]
          exact ⟨⟨by simp, isByte_bsC _⟩, by simp, isByte_bsC _⟩
        · have dE2 : decide (E2 = 0) = false := by simpa using hE2
          simp (maxSteps := 4000000) only [Try.results7, ids_bsC, ren_bsC, noRo_bsC, plain_bsC, lt_bsC, ids_byte, ren_byte, noRo_byte, plain_byte, lt_byte, dE2, XX, Nat.reduceBEq, Nat.reduceLT, Nat.reduceAdd, Nat.reduceMul, Nat.reduceSub, Nat.reduceLeDiff, Nat.reduceEqDiff, Int.reduceToNat, Int.reduceLT, Int.reduceLE, Int.reduceAdd, Int.reduceSub, Int.reduceEq, reduceIte, Nat.reduceBNe, Int.reducePow, Nat.reducePow, Int.reduceMul, Int.reduceNeg, isB_i, isB_b, isB_y, isBv_i, isBv_b, eqCells_t, TT]
      · have dX := dX rfl
        simp (maxSteps := 4000000) only [Try.results7, dX, c1', c2', eL1, XX, Nat.reduceBEq, Nat.reduceLT, Nat.reduceAdd, Nat.reduceMul, Nat.reduceSub, Nat.reduceLeDiff, Nat.reduceEqDiff, Int.reduceToNat, Int.reduceLT, Int.reduceLE, Int.reduceAdd, Int.reduceSub, Int.reduceEq, reduceIte, Nat.reduceBNe, Int.reducePow, Nat.reducePow, Int.reduceMul, Int.reduceNeg, isB_i, isB_b, isB_y, isBv_i, isBv_b, eqCells_t, TT]
        refine ⟨⟨⟨by omega, by unfold maxLen; omega⟩, by simp⟩, xapp_grow (by omega) fun c3 hc3 _ => ?_⟩
        obtain ⟨y3, rfl⟩ := Nat.exists_eq_add_of_le hc3
        simp (maxSteps := 4000000) only [Try.results7, Nat.add_sub_cancel_left, tk, zeros_flat, bs_app, XX, Nat.reduceBEq, Nat.reduceLT, Nat.reduceAdd, Nat.reduceMul, Nat.reduceSub, Nat.reduceLeDiff, Nat.reduceEqDiff, Int.reduceToNat, Int.reduceLT, Int.reduceLE, Int.reduceAdd, Int.reduceSub, Int.reduceEq, reduceIte, Nat.reduceBNe, Int.reducePow, Nat.reducePow, Int.reduceMul, Int.reduceNeg, isB_i, isB_b, isB_y, isBv_i, isBv_b, eqCells_t, TT]
        have hR : (bsC (L ++ List.replicate y3 0)).getD i .any = SC.v (.int .u8 (L.getD i 0).toNat) := by
          rw [List.getD_eq_getElem?_getD, List.getElem?_map, List.getElem?_append_left hi, List.getD_eq_getElem?_getD, List.getElem?_eq_getElem hi]; rfl
        obtain ⟨x, j, hj, hb0, hbx, hx⟩ := turned8 (L.getD i 0) bit
        refine draw_of cx_ok (by kernel_rfl) 400 [] [(0, true), (1, true), (2, true), (3, true), (4, true), (6, true), (7, true), (8, true), (5, false), (9, true), (10, true), (11, false)] (by kernel_rfl) rfl ?_
        simp (maxSteps := 4000000) only [Try.results7, hR, hbx, cells_set hi, XX, Nat.reduceBEq, Nat.reduceLT, Nat.reduceAdd, Nat.reduceMul, Nat.reduceSub, Nat.reduceLeDiff, Nat.reduceEqDiff, Int.reduceToNat, Int.reduceLT, Int.reduceLE, Int.reduceAdd, Int.reduceSub, Int.reduceEq, reduceIte, Nat.reduceBNe, Int.reducePow, Nat.reducePow, Int.reduceMul, Int.reduceNeg, isB_i, isB_b, isB_y, isBv_i, isBv_b, eqCells_t, TT]
        refine ⟨⟨by omega, by omega⟩, hb0, by simp; omega, ⟨by omega, by omega⟩, by simp; omega, ?_⟩
        have hD := idec_spec (L.set i x) (List.replicate y3 0) (L.length + y3) (by simp)
        rw [idec_flip (by omega) (by omega) hok hi hj hx] at hD
        refine call_fz [.c (roB (L.set i x) (List.replicate y3 0) (L.length + y3))] hD (fun t h' h => resI_noRo h) ⟨fz_c (fz_sl' (by simp) rfl rfl rfl), trivial⟩ ?_
        rintro _ _ ⟨z10, o10, rfl, rfl, ho10⟩
        dsimp only at ho10 ⊢
        simp (maxSteps := 4000000) only [Try.results7, ids_bsC, ren_bsC, noRo_bsC, plain_bsC, lt_bsC, ids_byte, ren_byte, noRo_byte, plain_byte, lt_byte, XX, Nat.reduceBEq, Nat.reduceLT, Nat.reduceAdd, Nat.reduceMul, Nat.reduceSub, Nat.reduceLeDiff, Nat.reduceEqDiff, Int.reduceToNat, Int.reduceLT, Int.reduceLE, Int.reduceAdd, Int.reduceSub, Int.reduceEq, reduceIte, Nat.reduceBNe, Int.reducePow, Nat.reducePow, Int.reduceMul, Int.reduceNeg, isB_i, isB_b, isB_y, isBv_i, isBv_b, eqCells_t, TT]
        have hD2 := idec_spec l' sp' cp' hl1'
        have q2 := ienc_idec l'
        generalize idecR l' = Q at hD2 q2
        obtain ⟨k2, c2, r2, l2, E2⟩ := Q
        dsimp only at q2
        refine call_fz [.c (roB l' sp' cp')] hD2 (fun t h' h => resI_noRo h) ⟨.inl ⟨rfl, rfl⟩, trivial⟩ ?_
        rintro _ _ ⟨z8, o8, rfl, rfl, ho8⟩
        dsimp only at ho8 ⊢
        by_cases hE2 : E2 = 0
        · subst hE2
          simp (maxSteps := 4000000) only [Try.results7, ids_bsC, ren_bsC, noRo_bsC, plain_bsC, lt_bsC, ids_byte, ren_byte, noRo_byte, plain_byte, lt_byte, XX, Nat.reduceBEq, Nat.reduceLT, Nat.reduceAdd, Nat.reduceMul, Nat.reduceSub, Nat.reduceLeDiff, Nat.reduceEqDiff, Int.reduceToNat, Int.reduceLT, Int.reduceLE, Int.reduceAdd, Int.reduceSub, Int.reduceEq, reduceIte, Nat.reduceBNe, Int.reducePow, Nat.reducePow, Int.reduceMul, Int.reduceNeg, isB_i, isB_b, isB_y, isBv_i, isBv_b, eqCells_t, TT]
          have q3 := q2 rfl
          have hA3 := iencA_spec k2 c2 r2 l2 z8 (l2.length + z8.length) q3.2
          rw [q3.1] at hA3
          refine call_fz [.agg (icC k2 c2 r2 (roB l2 z8 (l2.length + z8.length)))] hA3 (fun t h' h => resB_noRo h) ⟨ic_fz (fz_any rfl ho8), trivial⟩ ?_
          rintro _ _ ⟨z9, o9, rfl, rfl, ho9⟩
          dsimp only at ho9 ⊢
          have m9 : (bsR (l' ++ sp')).take l'.length = bsR l' := by rw [rs_take, List.take_left' rfl]
          have se : decide (l' = l') = true := by simp
          simp (maxSteps := 4000000) only [Try.results7, ids_bsC, ren_bsC, noRo_bsC, plain_bsC, lt_bsC, ids_byte, ren_byte, noRo_byte, plain_byte, lt_byte, tk, strOf_bsC, str_eq, m9, bsR_toSC, se, XX, Nat.reduceBEq, Nat.reduceLT, Nat.reduceAdd, Nat.reduceMul, Nat.reduceSub, Nat.reduceLeDiff, Nat.reduceEqDiff, Int.reduceToNat, Int.reduceLT, Int.reduceLE, Int.reduceAdd, Int.reduceSub, Int.reduceEq, reduceIte, Nat.reduceBNe, Int.reducePow, Nat.reducePow, Int.reduceMul, Int.reduceNeg, isB_i, isB_b, isB_y, isBv_i, isBv_b, eqCells_t, TT]
          exact ⟨⟨by simp, isByte_bsC _⟩, by simp, isByte_bsC _⟩
        · have dE2 : decide (E2 = 0) = false := by simpa using hE2
          simp (maxSteps := 4000000) only [Try.results7, ids_bsC, ren_bsC, noRo_bsC, plain_bsC, lt_bsC, ids_byte, ren_byte, noRo_byte, plain_byte, lt_byte, dE2, XX, Nat.reduceBEq, Nat.reduceLT, Nat.reduceAdd, Nat.reduceMul, Nat.reduceSub, Nat.reduceLeDiff, Nat.reduceEqDiff, Int.reduceToNat, Int.reduceLT, Int.reduceLE, Int.reduceAdd, Int.reduceSub, Int.reduceEq, reduceIte, Nat.reduceBNe, Int.reducePow, Nat.reducePow, Int.reduceMul, Int.reduceNeg, isB_i, isB_b, isB_y, isBv_i, isBv_b, eqCells_t, TT]
    have c1' : decide (at' < 0) = false := by simpa using c1
    have c2' : decide ((L.length : Int) ≤ at') = false := by simpa using c2
    obtain ⟨i, rfl⟩ : ∃ i : Nat, at' = i := ⟨at'.toNat, by omega⟩
    have hi : i < L.length := by omega
    cases b5
    · simp (maxSteps := 4000000) only [Try.results7, c1', c2', XX, Nat.reduceBEq, Nat.reduceLT, Nat.reduceAdd, Nat.reduceMul, Nat.reduceSub, Nat.reduceLeDiff, Nat.reduceEqDiff, Int.reduceToNat, Int.reduceLT, Int.reduceLE, Int.reduceAdd, Int.reduceSub, Int.reduceEq, reduceIte, Nat.reduceBNe, Int.reducePow, Nat.reducePow, Int.reduceMul, Int.reduceNeg, isB_i, isB_b, isB_y, isBv_i, isBv_b, eqCells_t, TT]
      refine ⟨⟨⟨by omega, by unfold maxLen; omega⟩, by simp⟩, xapp_grow (by omega) fun c3 hc3 _ => ?_⟩
      obtain ⟨y3, rfl⟩ := Nat.exists_eq_add_of_le hc3
      simp (maxSteps := 4000000) only [Try.results7, Nat.add_sub_cancel_left, tk, zeros_flat, bs_app, XX, Nat.reduceBEq, Nat.reduceLT, Nat.reduceAdd, Nat.reduceMul, Nat.reduceSub, Nat.reduceLeDiff, Nat.reduceEqDiff, Int.reduceToNat, Int.reduceLT, Int.reduceLE, Int.reduceAdd, Int.reduceSub, Int.reduceEq, reduceIte, Nat.reduceBNe, Int.reducePow, Nat.reducePow, Int.reduceMul, Int.reduceNeg, isB_i, isB_b, isB_y, isBv_i, isBv_b, eqCells_t, TT]
      have hR : (bsC (L ++ List.replicate y3 0)).getD i .any = SC.v (.int .u8 (L.getD i 0).toNat) := by
        rw [List.getD_eq_getElem?_getD, List.getElem?_map, List.getElem?_append_left hi, List.getD_eq_getElem?_getD, List.getElem?_eq_getElem hi]; rfl
      obtain ⟨x, j, hj, hb0, hbx, hx⟩ := turned8 (L.getD i 0) bit
      refine draw_of cx_ok (by kernel_rfl) 400 [] [(0, true), (1, true), (2, true), (3, true), (4, true), (6, true), (7, true), (8, true), (5, false), (9, true), (10, true), (11, false)] (by kernel_rfl) rfl ?_
      simp (maxSteps := 4000000) only [Try.results7, hR, hbx, cells_set hi, XX, Nat.reduceBEq, Nat.reduceLT, Nat.reduceAdd, Nat.reduceMul, Nat.reduceSub, Nat.reduceLeDiff, Nat.reduceEqDiff, Int.reduceToNat, Int.reduceLT, Int.reduceLE, Int.reduceAdd, Int.reduceSub, Int.reduceEq, reduceIte, Nat.reduceBNe, Int.reducePow, Nat.reducePow, Int.reduceMul, Int.reduceNeg, isB_i, isB_b, isB_y, isBv_i, isBv_b, eqCells_t, TT]
      refine ⟨⟨by omega, by omega⟩, hb0, by simp; omega, ⟨by omega, by omega⟩, by simp; omega, ?_⟩
      have hD := idec_spec (L.set i x) (List.replicate y3 0) (L.length + y3) (by simp)
      rw [idec_flip (by omega) (by omega) hok hi hj hx] at hD
      refine call_fz [.c (roB (L.set i x) (List.replicate y3 0) (L.length + y3))] hD (fun t h' h => resI_noRo h) ⟨fz_c (fz_sl' (by simp) rfl rfl rfl), trivial⟩ ?_
      rintro _ _ ⟨z10, o10, rfl, rfl, ho10⟩
      dsimp only at ho10 ⊢
      simp (maxSteps := 4000000) only [Try.results7, ids_bsC, ren_bsC, noRo_bsC, plain_bsC, lt_bsC, ids_byte, ren_byte, noRo_byte, plain_byte, lt_byte, XX, Nat.reduceBEq, Nat.reduceLT, Nat.reduceAdd, Nat.reduceMul, Nat.reduceSub, Nat.reduceLeDiff, Nat.reduceEqDiff, Int.reduceToNat, Int.reduceLT, Int.reduceLE, Int.reduceAdd, Int.reduceSub, Int.reduceEq, reduceIte, Nat.reduceBNe, Int.reducePow, Nat.reducePow, Int.reduceMul, Int.reduceNeg, isB_i, isB_b, isB_y, isBv_i, isBv_b, eqCells_t, TT]
      have hD2 := idec_spec l' sp' cp' hl1'
      have q2 := ienc_idec l'
      generalize idecR l' = Q at hD2 q2
      obtain ⟨k2, c2, r2, l2, E2⟩ := Q
      dsimp only at q2
      refine call_fz [.c (roB l' sp' cp')] hD2 (fun t h' h => resI_noRo h) ⟨.inl ⟨rfl, rfl⟩, trivial⟩ ?_
      rintro _ _ ⟨z8, o8, rfl, rfl, ho8⟩
      dsimp only at ho8 ⊢
      by_cases hE2 : E2 = 0
      · subst hE2
        simp (maxSteps := 4000000) only [Try.results7, ids_bsC, ren_bsC, noRo_bsC, plain_bsC, lt_bsC, ids_byte, ren_byte, noRo_byte, plain_byte, lt_byte, XX, Nat.reduceBEq, Nat.reduceLT, Nat.reduceAdd, Nat.reduceMul, Nat.reduceSub, Nat.reduceLeDiff, Nat.reduceEqDiff, Int.reduceToNat, Int.reduceLT, Int.reduceLE, Int.reduceAdd, Int.reduceSub, Int.reduceEq, reduceIte, Nat.reduceBNe, Int.reducePow, Nat.reducePow, Int.reduceMul, Int.reduceNeg, isB_i, isB_b, isB_y, isBv_i, isBv_b, eqCells_t, TT]
        have q3 := q2 rfl
        have hA3 := iencA_spec k2 c2 r2 l2 z8 (l2.length + z8.length) q3.2
        rw [q3.1] at hA3
        refine call_fz [.agg (icC k2 c2 r2 (roB l2 z8 (l2.length + z8.length)))] hA3 (fun t h' h => resB_noRo h) ⟨ic_fz (fz_any rfl ho8), trivial⟩ ?_
        rintro _ _ ⟨z9, o9, rfl, rfl, ho9⟩
        dsimp only at ho9 ⊢
        have m9 : (bsR (l' ++ sp')).take l'.length = bsR l' := by rw [rs_take, List.take_left' rfl]
        have se : decide (l' = l') = true := by simp
        simp (maxSteps := 4000000) only [Try.results7, ids_bsC, ren_bsC, noRo_bsC, plain_bsC, lt_bsC, ids_byte, ren_byte, noRo_byte, plain_byte, lt_byte, tk, strOf_bsC, str_eq, m9, bsR_toSC, se, XX, Nat.reduceBEq, Nat.reduceLT, Nat.reduceAdd, Nat.reduceMul, Nat.reduceSub, Nat.reduceLeDiff, Nat.reduceEqDiff, Int.reduceToNat, Int.reduceLT, Int.reduceLE, Int.reduceAdd, Int.reduceSub, Int.reduceEq, reduceIte, Nat.reduceBNe, Int.reducePow, Nat.reducePow, Int.reduceMul, Int.reduceNeg, isB_i, isB_b, isB_y, isBv_i, isBv_b, eqCells_t, TT]
        exact ⟨⟨by simp, isByte_bsC _⟩, by simp, isByte_bsC _⟩
      · have dE2 : decide (E2 = 0) = false := by simpa using hE2
        simp (maxSteps := 4000000) only [Try.results7, ids_bsC, ren_bsC, noRo_bsC, plain_bsC, lt_bsC, ids_byte, ren_byte, noRo_byte, plain_byte, lt_byte, dE2, XX, Nat.reduceBEq, Nat.reduceLT, Nat.reduceAdd, Nat.reduceMul, Nat.reduceSub, Nat.reduceLeDiff, Nat.reduceEqDiff, Int.reduceToNat, Int.reduceLT, Int.reduceLE, Int.reduceAdd, Int.reduceSub, Int.reduceEq, reduceIte, Nat.reduceBNe, Int.reducePow, Nat.reducePow, Int.reduceMul, Int.reduceNeg, isB_i, isB_b, isB_y, isBv_i, isBv_b, eqCells_t, TT]
    · have dX := dX rfl
      simp (maxSteps := 4000000) only [Try.results7, dX, c1', c2', XX, Nat.reduceBEq, Nat.reduceLT, Nat.reduceAdd, Nat.reduceMul, Nat.reduceSub, Nat.reduceLeDiff, Nat.reduceEqDiff, Int.reduceToNat, Int.reduceLT, Int.reduceLE, Int.reduceAdd, Int.reduceSub, Int.reduceEq, reduceIte, Nat.reduceBNe, Int.reducePow, Nat.reducePow, Int.reduceMul, Int.reduceNeg, isB_i, isB_b, isB_y, isBv_i, isBv_b, eqCells_t, TT]
      refine ⟨⟨⟨by omega, by unfold maxLen; omega⟩, by simp⟩, xapp_grow (by omega) fun c3 hc3 _ => ?_⟩
      obtain ⟨y3, rfl⟩ := Nat.exists_eq_add_of_le hc3
      simp (maxSteps := 4000000) only [Try.results7, Nat.add_sub_cancel_left, tk, zeros_flat, bs_app, XX, Nat.reduceBEq, Nat.reduceLT, Nat.reduceAdd, Nat.reduceMul, Nat.reduceSub, Nat.reduceLeDiff, Nat.reduceEqDiff, Int.reduceToNat, Int.reduceLT, Int.reduceLE, Int.reduceAdd, Int.reduceSub, Int.reduceEq, reduceIte, Nat.reduceBNe, Int.reducePow, Nat.reducePow, Int.reduceMul, Int.reduceNeg, isB_i, isB_b, isB_y, isBv_i, isBv_b, eqCells_t, TT]
      have hR : (bsC (L ++ List.replicate y3 0)).getD i .any = SC.v (.int .u8 (L.getD i 0).toNat) := by
        rw [List.getD_eq_getElem?_getD, List.getElem?_map, List.getElem?_append_left hi, List.getD_eq_getElem?_getD, List.getElem?_eq_getElem hi]; rfl
      obtain ⟨x, j, hj, hb0, hbx, hx⟩ := turned8 (L.getD i 0) bit
      refine draw_of cx_ok (by kernel_rfl) 400 [] [(0, true), (1, true), (2, true), (3, true), (4, true), (6, true), (7, true), (8, true), (5, false), (9, true), (10, true), (11, false)] (by kernel_rfl) rfl ?_
      simp (maxSteps := 4000000) only [Try.results7, hR, hbx, cells_set hi, XX, Nat.reduceBEq, Nat.reduceLT, Nat.reduceAdd, Nat.reduceMul, Nat.reduceSub, Nat.reduceLeDiff, Nat.reduceEqDiff, Int.reduceToNat, Int.reduceLT, Int.reduceLE, Int.reduceAdd, Int.reduceSub, Int.reduceEq, reduceIte, Nat.reduceBNe, Int.reducePow, Nat.reducePow, Int.reduceMul, Int.reduceNeg, isB_i, isB_b, isB_y, isBv_i, isBv_b, eqCells_t, TT]
      refine ⟨⟨by omega, by omega⟩, hb0, by simp; omega, ⟨by omega, by omega⟩, by simp; omega, ?_⟩
      have hD := idec_spec (L.set i x) (List.replicate y3 0) (L.length + y3) (by simp)
      rw [idec_flip (by omega) (by omega) hok hi hj hx] at hD
      refine call_fz [.c (roB (L.set i x) (List.replicate y3 0) (L.length + y3))] hD (fun t h' h => resI_noRo h) ⟨fz_c (fz_sl' (by simp) rfl rfl rfl), trivial⟩ ?_
      rintro _ _ ⟨z10, o10, rfl, rfl, ho10⟩
      dsimp only at ho10 ⊢
      simp (maxSteps := 4000000) only [Try.results7, ids_bsC, ren_bsC, noRo_bsC, plain_bsC, lt_bsC, ids_byte, ren_byte, noRo_byte, plain_byte, lt_byte, XX, Nat.reduceBEq, Nat.reduceLT, Nat.reduceAdd, Nat.reduceMul, Nat.reduceSub, Nat.reduceLeDiff, Nat.reduceEqDiff, Int.reduceToNat, Int.reduceLT, Int.reduceLE, Int.reduceAdd, Int.reduceSub, Int.reduceEq, reduceIte, Nat.reduceBNe, Int.reducePow, Nat.reducePow, Int.reduceMul, Int.reduceNeg, isB_i, isB_b, isB_y, isBv_i, isBv_b, eqCells_t, TT]
      have hD2 := idec_spec l' sp' cp' hl1'
      have q2 := ienc_idec l'
      generalize idecR l' = Q at hD2 q2
      obtain ⟨k2, c2, r2, l2, E2⟩ := Q
      dsimp only at q2
      refine call_fz [.c (roB l' sp' cp')] hD2 (fun t h' h => resI_noRo h) ⟨.inl ⟨rfl, rfl⟩, trivial⟩ ?_
      rintro _ _ ⟨z8, o8, rfl, rfl, ho8⟩
      dsimp only at ho8 ⊢
      by_cases hE2 : E2 = 0
      · subst hE2
        simp (maxSteps := 4000000) only [Try.results7, ids_bsC, ren_bsC, noRo_bsC, plain_bsC, lt_bsC, ids_byte, ren_byte, noRo_byte, plain_byte, lt_byte, XX, Nat.reduceBEq, Nat.reduceLT, Nat.reduceAdd, Nat.reduceMul, Nat.reduceSub, Nat.reduceLeDiff, Nat.reduceEqDiff, Int.reduceToNat, Int.reduceLT, Int.reduceLE, Int.reduceAdd, Int.reduceSub, Int.reduceEq, reduceIte, Nat.reduceBNe, Int.reducePow, Nat.reducePow, Int.reduceMul, Int.reduceNeg, isB_i, isB_b, isB_y, isBv_i, isBv_b, eqCells_t, TT]
        have q3 := q2 rfl
        have hA3 := iencA_spec k2 c2 r2 l2 z8 (l2.length + z8.length) q3.2
        rw [q3.1] at hA3
        refine call_fz [.agg (icC k2 c2 r2 (roB l2 z8 (l2.length + z8.length)))] hA3 (fun t h' h => resB_noRo h) ⟨ic_fz (fz_any rfl ho8), trivial⟩ ?_
        rintro _ _ ⟨z9, o9, rfl, rfl, ho9⟩
        dsimp only at ho9 ⊢
        have m9 : (bsR (l' ++ sp')).take l'.length = bsR l' := by rw [rs_take, List.take_left' rfl]
        have se : decide (l' = l') = true := by simp
        simp (maxSteps := 4000000) only [Try.results7, ids_bsC, ren_bsC, noRo_bsC, plain_bsC, lt_bsC, ids_byte, ren_byte, noRo_byte, plain_byte, lt_byte, tk, strOf_bsC, str_eq, m9, bsR_toSC, se, XX, Nat.reduceBEq, Nat.reduceLT, Nat.reduceAdd, Nat.reduceMul, Nat.reduceSub, Nat.reduceLeDiff, Nat.reduceEqDiff, Int.reduceToNat, Int.reduceLT, Int.reduceLE, Int.reduceAdd, Int.reduceSub, Int.reduceEq, reduceIte, Nat.reduceBNe, Int.reducePow, Nat.reducePow, Int.reduceMul, Int.reduceNeg, isB_i, isB_b, isB_y, isBv_i, isBv_b, eqCells_t, TT]
        exact ⟨⟨by simp, isByte_bsC _⟩, by simp, isByte_bsC _⟩
      · have dE2 : decide (E2 = 0) = false := by simpa using hE2
        simp (maxSteps := 4000000) only [Try.results7, ids_bsC, ren_bsC, noRo_bsC, plain_bsC, lt_bsC, ids_byte, ren_byte, noRo_byte, plain_byte, lt_byte, dE2, XX, Nat.reduceBEq, Nat.reduceLT, Nat.reduceAdd, Nat.reduceMul, Nat.reduceSub, Nat.reduceLeDiff, Nat.reduceEqDiff, Int.reduceToNat, Int.reduceLT, Int.reduceLE, Int.reduceAdd, Int.reduceSub, Int.reduceEq, reduceIte, Nat.reduceBNe, Int.reducePow, Nat.reducePow, Int.reduceMul, Int.reduceNeg, isB_i, isB_b, isB_y, isBv_i, isBv_b, eqCells_t, TT]
  · have dE : decide ((iencR k c r l).2 = 0) = false := by simpa using hE
    have tk : ∀ a b : List UInt8, (bsC (a ++ b)).take a.length = bsC a := fun a b => by rw [bs_take, List.take_left' rfl]
    rw [dE]
    simp (maxSteps := 4000000) only [Try.results7, XX, Nat.reduceBEq, Nat.reduceLT, Nat.reduceAdd, Nat.reduceMul, Nat.reduceSub, Nat.reduceLeDiff, Nat.reduceEqDiff, Int.reduceToNat, Int.reduceLT, Int.reduceLE, Int.reduceAdd, Int.reduceSub, Int.reduceEq, reduceIte, Nat.reduceBNe, Int.reducePow, Nat.reducePow, Int.reduceMul, Int.reduceNeg, isB_i, isB_b, isB_y, isBv_i, isBv_b, eqCells_t, TT]
    have hD2 := idec_spec l' sp' cp' hl1'
    have q2 := ienc_idec l'
    generalize idecR l' = Q at hD2 q2
    obtain ⟨k2, c2, r2, l2, E2⟩ := Q
    dsimp only at q2
    refine call_fz [.c (roB l' sp' cp')] hD2 (fun t h' h => resI_noRo h) ⟨.inl ⟨rfl, rfl⟩, trivial⟩ ?_
    rintro _ _ ⟨z8, o8, rfl, rfl, ho8⟩
    dsimp only at ho8 ⊢
    by_cases hE2 : E2 = 0
    · subst hE2
      simp (maxSteps := 4000000) only [Try.results7, ids_bsC, ren_bsC, noRo_bsC, plain_bsC, lt_bsC, ids_byte, ren_byte, noRo_byte, plain_byte, lt_byte, XX, Nat.reduceBEq, Nat.reduceLT, Nat.reduceAdd, Nat.reduceMul, Nat.reduceSub, Nat.reduceLeDiff, Nat.reduceEqDiff, Int.reduceToNat, Int.reduceLT, Int.reduceLE, Int.reduceAdd, Int.reduceSub, Int.reduceEq, reduceIte, Nat.reduceBNe, Int.reducePow, Nat.reducePow, Int.reduceMul, Int.reduceNeg, isB_i, isB_b, isB_y, isBv_i, isBv_b, eqCells_t, TT]
      have q3 := q2 rfl
      have hA3 := iencA_spec k2 c2 r2 l2 z8 (l2.length + z8.length) q3.2
      rw [q3.1] at hA3
      refine call_fz [.agg (icC k2 c2 r2 (roB l2 z8 (l2.length + z8.length)))] hA3 (fun t h' h => resB_noRo h) ⟨ic_fz (fz_any rfl ho8), trivial⟩ ?_
      rintro _ _ ⟨z9, o9, rfl, rfl, ho9⟩
      dsimp only at ho9 ⊢
      have m9 : (bsR (l' ++ sp')).take l'.length = bsR l' := by rw [rs_take, List.take_left' rfl]
      have se : decide (l' = l') = true := by simp
      simp (maxSteps := 4000000) only [Try.results7, ids_bsC, ren_bsC, noRo_bsC, plain_bsC, lt_bsC, ids_byte, ren_byte, noRo_byte, plain_byte, lt_byte, tk, strOf_bsC, str_eq, m9, bsR_toSC, se, XX, Nat.reduceBEq, Nat.reduceLT, Nat.reduceAdd, Nat.reduceMul, Nat.reduceSub, Nat.reduceLeDiff, Nat.reduceEqDiff, Int.reduceToNat, Int.reduceLT, Int.reduceLE, Int.reduceAdd, Int.reduceSub, Int.reduceEq, reduceIte, Nat.reduceBNe, Int.reducePow, Nat.reducePow, Int.reduceMul, Int.reduceNeg, isB_i, isB_b, isB_y, isBv_i, isBv_b, eqCells_t, TT]
      exact ⟨⟨by simp, isByte_bsC _⟩, by simp, isByte_bsC _⟩
    · have dE2 : decide (E2 = 0) = false := by simpa using hE2
      simp (maxSteps := 4000000) only [Try.results7, ids_bsC, ren_bsC, noRo_bsC, plain_bsC, lt_bsC, ids_byte, ren_byte, noRo_byte, plain_byte, lt_byte, dE2, XX, Nat.reduceBEq, Nat.reduceLT, Nat.reduceAdd, Nat.reduceMul, Nat.reduceSub, Nat.reduceLeDiff, Nat.reduceEqDiff, Int.reduceToNat, Int.reduceLT, Int.reduceLE, Int.reduceAdd, Int.reduceSub, Int.reduceEq, reduceIte, Nat.reduceBNe, Int.reducePow, Nat.reducePow, Int.reduceMul, Int.reduceNeg, isB_i, isB_b, isB_y, isBv_i, isBv_b, eqCells_t, TT]

end Go.Proofs.Ytfpjabhlfjkhfaa.Sx
