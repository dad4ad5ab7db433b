/- The symbolic executor, at work: the laws of the net's messages that are read. No condition. -/
import Derived.Test.YtfpjabhlfjkhfaaI4g
namespace Go.Proofs.Ytfpjabhlfjkhfaa.Sx
open Go
set_option linter.unusedSimpArgs false
set_option linter.unusedVariables false
set_option linter.unusedSectionVars false
set_option maxRecDepth 10000
set_option maxHeartbeats 2000000

theorem icmpDecodes_walk : ∀ css, RTyL (RTy T reachBytes DEPTH) [24, 24] css → Spec Try.prog 5 (svs T [24, 24] css) [] fun r _ => r = .c (.v (.bool true)) := by
  intro css h
  obtain ⟨x3, xs3, rfl, h3, g3⟩ := RTyL_cons h
  obtain ⟨x4, xs4, rfl, h4, g4⟩ := RTyL_cons g3
  obtain rfl := RTyL_nil g4
  obtain ⟨l, sp, c, rfl, hl1, hl2, hl3, hl4⟩ := RTy_bytes h3
  obtain ⟨l', sp', c', rfl, hl1', hl2', hl3', hl4'⟩ := RTy_bytes h4
  have e3 : svOf T 24 [.sl (bsR (l ++ sp)) l.length c] = .c (roB l sp c) := rfl
  have e4 : svOf T 24 [.sl (bsR (l' ++ sp')) l'.length c'] = .c (roB l' sp' c') := rfl
  simp only [svs, e3, e4]
  clear h3 h4 g3 g4 h e3 e4
  unfold reachBytes at hl4 hl4'
  refine spec_of_X cx_ok Try.func5 rfl (by kernel_rfl) (by kernel_rfl) (Nat.le_of_ble_eq_true rfl) 400 22 ?_
  simp (maxSteps := 4000000) only [Try.results5, XX, Nat.reduceBEq, Nat.reduceLT, Nat.reduceAdd, Nat.reduceMul, Nat.reduceSub, Nat.reduceLeDiff, Nat.reduceEqDiff, Int.reduceToNat, Int.reduceLT, Int.reduceLE, Int.reduceAdd, Int.reduceSub, Int.reduceEq, reduceIte, Nat.reduceBNe, Int.reducePow, Nat.reducePow, Int.reduceMul, Int.reduceNeg, isB_i, isB_b, isB_y, isBv_i, isBv_b, eqCells_t, TT]
  refine call_plain (live_spec) rfl ?_
  rintro _ rfl
  simp (maxSteps := 4000000) only [Try.results5, XX, Nat.reduceBEq, Nat.reduceLT, Nat.reduceAdd, Nat.reduceMul, Nat.reduceSub, Nat.reduceLeDiff, Nat.reduceEqDiff, Int.reduceToNat, Int.reduceLT, Int.reduceLE, Int.reduceAdd, Int.reduceSub, Int.reduceEq, reduceIte, Nat.reduceBNe, Int.reducePow, Nat.reducePow, Int.reduceMul, Int.reduceNeg, isB_i, isB_b, isB_y, isBv_i, isBv_b, eqCells_t, TT]
  have hF := ridec_spec l sp c hl1
  have hG := ridec_spec l' sp' c' hl1'
  have hA := idec_spec l [71, 72] (l.length + 2) (by omega)
  have hB := idec_spec l' sp' c' hl1'
  have n1 := idecR_len l
  have n2 := idecR_len l'
  generalize idecR l = R at *
  generalize idecR l' = R' at *
  obtain ⟨a, b, r, L, E⟩ := R
  obtain ⟨a', b', r', L', E'⟩ := R'
  dsimp only at n1 n2
  refine call_fz [.c (roB l sp c)] (lent_spec l sp c (by omega)) (fun t h' h => lent_noRo h) ⟨.inl ⟨rfl, rfl⟩, trivial⟩ ?_
  rintro _ _ ⟨rfl, rfl⟩
  simp (maxSteps := 4000000) only [Try.results5, ids_bsC, ren_bsC, noRo_bsC, plain_bsC, lt_bsC, ids_byte, ren_byte, noRo_byte, plain_byte, lt_byte, XX, Nat.reduceBEq, Nat.reduceLT, Nat.reduceAdd, Nat.reduceMul, Nat.reduceSub, Nat.reduceLeDiff, Nat.reduceEqDiff, Int.reduceToNat, Int.reduceLT, Int.reduceLE, Int.reduceAdd, Int.reduceSub, Int.reduceEq, reduceIte, Nat.reduceBNe, Int.reducePow, Nat.reducePow, Int.reduceMul, Int.reduceNeg, isB_i, isB_b, isB_y, isBv_i, isBv_b, eqCells_t, TT]
  have hx : ∀ {r : Nat → Nat} {n : Nat} {h : List SB} {i : Nat}, h[i]? = some (wB true (l ++ [71, 72])) → frC true (fun _ => true) r n h (.sl i 0 l.length (l.length + 2)) (roB l [71, 72] (l.length + 2)) := fun hb => fz_sl hb rfl rfl
  refine call_fz [.c (roB l [71, 72] (l.length + 2))] hA (fun t h' h => resI_noRo h) ⟨fz_c (hx rfl), trivial⟩ ?_
  rintro _ _ ⟨z3, o3, rfl, rfl, ho3⟩
  try dsimp only at ho3 ⊢
  simp (maxSteps := 4000000) only [Try.results5, ids_bsC, ren_bsC, noRo_bsC, plain_bsC, lt_bsC, ids_byte, ren_byte, noRo_byte, plain_byte, lt_byte, XX, Nat.reduceBEq, Nat.reduceLT, Nat.reduceAdd, Nat.reduceMul, Nat.reduceSub, Nat.reduceLeDiff, Nat.reduceEqDiff, Int.reduceToNat, Int.reduceLT, Int.reduceLE, Int.reduceAdd, Int.reduceSub, Int.reduceEq, reduceIte, Nat.reduceBNe, Int.reducePow, Nat.reducePow, Int.reduceMul, Int.reduceNeg, isB_i, isB_b, isB_y, isBv_i, isBv_b, eqCells_t, TT]
  refine call_fz [.c (roB l' sp' c')] hB (fun t h' h => resI_noRo h) ⟨.inl ⟨rfl, rfl⟩, trivial⟩ ?_
  rintro _ _ ⟨z4, o4, rfl, rfl, ho4⟩
  try dsimp only at ho4 ⊢
  simp (maxSteps := 4000000) only [Try.results5, ids_bsC, ren_bsC, noRo_bsC, plain_bsC, lt_bsC, ids_byte, ren_byte, noRo_byte, plain_byte, lt_byte, XX, Nat.reduceBEq, Nat.reduceLT, Nat.reduceAdd, Nat.reduceMul, Nat.reduceSub, Nat.reduceLeDiff, Nat.reduceEqDiff, Int.reduceToNat, Int.reduceLT, Int.reduceLE, Int.reduceAdd, Int.reduceSub, Int.reduceEq, reduceIte, Nat.reduceBNe, Int.reducePow, Nat.reducePow, Int.reduceMul, Int.reduceNeg, isB_i, isB_b, isB_y, isBv_i, isBv_b, eqCells_t, TT]
  refine call_fz [.c (roB l [71, 72] (l.length + 2))] hA (fun t h' h => resI_noRo h) ⟨fz_c (hx rfl), trivial⟩ ?_
  rintro _ _ ⟨z5, o5, rfl, rfl, ho5⟩
  try dsimp only at ho5 ⊢
  simp (maxSteps := 4000000) only [Try.results5, ids_bsC, ren_bsC, noRo_bsC, plain_bsC, lt_bsC, ids_byte, ren_byte, noRo_byte, plain_byte, lt_byte, XX, Nat.reduceBEq, Nat.reduceLT, Nat.reduceAdd, Nat.reduceMul, Nat.reduceSub, Nat.reduceLeDiff, Nat.reduceEqDiff, Int.reduceToNat, Int.reduceLT, Int.reduceLE, Int.reduceAdd, Int.reduceSub, Int.reduceEq, reduceIte, Nat.reduceBNe, Int.reducePow, Nat.reducePow, Int.reduceMul, Int.reduceNeg, isB_i, isB_b, isB_y, isBv_i, isBv_b, eqCells_t, TT]
  refine call_frame (asLent_spec l sp c (by omega)) [0] rfl rfl ?_ rfl ?_ ?_
  · simp only [XX, Nat.reduceBEq, Nat.reduceLT, Nat.reduceAdd, Nat.reduceMul, Nat.reduceSub, Nat.reduceLeDiff, Nat.reduceEqDiff, Int.reduceToNat, Int.reduceLT, Int.reduceLE, Int.reduceAdd, Int.reduceSub, Int.reduceEq, reduceIte, Nat.reduceBNe, Int.reducePow, Nat.reducePow, Int.reduceMul, Int.reduceNeg, isB_i, isB_b, isB_y, isBv_i, isBv_b, eqCells_t, TT, preOk, ids_bsC, ren_bsC, noRo_bsC, plain_bsC, lt_bsC, ids_byte, ren_byte, noRo_byte, plain_byte, lt_byte]
  · simp only [XX, Nat.reduceBEq, Nat.reduceLT, Nat.reduceAdd, Nat.reduceMul, Nat.reduceSub, Nat.reduceLeDiff, Nat.reduceEqDiff, Int.reduceToNat, Int.reduceLT, Int.reduceLE, Int.reduceAdd, Int.reduceSub, Int.reduceEq, reduceIte, Nat.reduceBNe, Int.reducePow, Nat.reducePow, Int.reduceMul, Int.reduceNeg, isB_i, isB_b, isB_y, isBv_i, isBv_b, eqCells_t, TT, ids_bsC, ren_bsC, noRo_bsC, plain_bsC, lt_bsC, ids_byte, ren_byte, noRo_byte, plain_byte, lt_byte]
  rintro _ _ ⟨rfl, rfl⟩
  simp (maxSteps := 4000000) only [Try.results5, ids_bsC, ren_bsC, noRo_bsC, plain_bsC, lt_bsC, ids_byte, ren_byte, noRo_byte, plain_byte, lt_byte, XX, Nat.reduceBEq, Nat.reduceLT, Nat.reduceAdd, Nat.reduceMul, Nat.reduceSub, Nat.reduceLeDiff, Nat.reduceEqDiff, Int.reduceToNat, Int.reduceLT, Int.reduceLE, Int.reduceAdd, Int.reduceSub, Int.reduceEq, reduceIte, Nat.reduceBNe, Int.reducePow, Nat.reducePow, Int.reduceMul, Int.reduceNeg, isB_i, isB_b, isB_y, isBv_i, isBv_b, eqCells_t, TT]
  refine call_fz [.c (roB l sp c)] hF (fun t h' h => resI_noRo h) ⟨.inl ⟨rfl, rfl⟩, trivial⟩ ?_
  rintro _ _ ⟨z1, o1, rfl, rfl, ho1⟩
  try dsimp only at ho1 ⊢
  simp (maxSteps := 4000000) only [Try.results5, ids_bsC, ren_bsC, noRo_bsC, plain_bsC, lt_bsC, ids_byte, ren_byte, noRo_byte, plain_byte, lt_byte, XX, Nat.reduceBEq, Nat.reduceLT, Nat.reduceAdd, Nat.reduceMul, Nat.reduceSub, Nat.reduceLeDiff, Nat.reduceEqDiff, Int.reduceToNat, Int.reduceLT, Int.reduceLE, Int.reduceAdd, Int.reduceSub, Int.reduceEq, reduceIte, Nat.reduceBNe, Int.reducePow, Nat.reducePow, Int.reduceMul, Int.reduceNeg, isB_i, isB_b, isB_y, isBv_i, isBv_b, eqCells_t, TT]
  refine call_fz [.c (roB l' sp' c')] hG (fun t h' h => resI_noRo h) ⟨.inl ⟨rfl, rfl⟩, trivial⟩ ?_
  rintro _ _ ⟨z2, o2, rfl, rfl, ho2⟩
  try dsimp only at ho2 ⊢
  simp (maxSteps := 4000000) only [Try.results5, ids_bsC, ren_bsC, noRo_bsC, plain_bsC, lt_bsC, ids_byte, ren_byte, noRo_byte, plain_byte, lt_byte, XX, Nat.reduceBEq, Nat.reduceLT, Nat.reduceAdd, Nat.reduceMul, Nat.reduceSub, Nat.reduceLeDiff, Nat.reduceEqDiff, Int.reduceToNat, Int.reduceLT, Int.reduceLE, Int.reduceAdd, Int.reduceSub, Int.reduceEq, reduceIte, Nat.reduceBNe, Int.reducePow, Nat.reducePow, Int.reduceMul, Int.reduceNeg, isB_i, isB_b, isB_y, isBv_i, isBv_b, eqCells_t, TT]
  refine call_pureF [.agg (icC a b r (roB L z3 (L.length + z3.length))), .agg (icC a b r (roB L z1 (L.length + z1.length)))] (isame_spec a b a b r r L L z3 z1 _ _) ⟨ic_fz (fz_any rfl ho3), ic_fz (fz_any rfl ho1), trivial⟩ ?_
  rintro _ rfl
  simp (maxSteps := 4000000) only [Try.results5, XX, Nat.reduceBEq, Nat.reduceLT, Nat.reduceAdd, Nat.reduceMul, Nat.reduceSub, Nat.reduceLeDiff, Nat.reduceEqDiff, Int.reduceToNat, Int.reduceLT, Int.reduceLE, Int.reduceAdd, Int.reduceSub, Int.reduceEq, reduceIte, Nat.reduceBNe, Int.reducePow, Nat.reducePow, Int.reduceMul, Int.reduceNeg, isB_i, isB_b, isB_y, isBv_i, isBv_b, eqCells_t, TT]
  refine call_pureF [.agg (icC a' b' r' (roB L' z4 (L'.length + z4.length))), .agg (icC a' b' r' (roB L' z2 (L'.length + z2.length)))] (isame_spec a' b' a' b' r' r' L' L' z4 z2 _ _) ⟨ic_fz (fz_any rfl ho4), ic_fz (fz_any rfl ho2), trivial⟩ ?_
  rintro _ rfl
  simp (maxSteps := 4000000) only [Try.results5, XX, Nat.reduceBEq, Nat.reduceLT, Nat.reduceAdd, Nat.reduceMul, Nat.reduceSub, Nat.reduceLeDiff, Nat.reduceEqDiff, Int.reduceToNat, Int.reduceLT, Int.reduceLE, Int.reduceAdd, Int.reduceSub, Int.reduceEq, reduceIte, Nat.reduceBNe, Int.reducePow, Nat.reducePow, Int.reduceMul, Int.reduceNeg, isB_i, isB_b, isB_y, isBv_i, isBv_b, eqCells_t, TT]
  refine call_pureF [.agg (icC a b r (roB L z5 (L.length + z5.length))), .agg (icC a b r (roB L z1 (L.length + z1.length)))] (isame_spec a b a b r r L L z5 z1 _ _) ⟨ic_fz (fz_any rfl ho5), ic_fz (fz_any rfl ho1), trivial⟩ ?_
  rintro _ rfl
  have s0 : (decide ((a : Int) = (a : Int)) && decide ((b : Int) = (b : Int)) && decide (r = r) && decide (L = L)) = true := by simp
  have s1 : (decide ((a' : Int) = (a' : Int)) && decide ((b' : Int) = (b' : Int)) && decide (r' = r') && decide (L' = L')) = true := by simp
  simp (maxSteps := 4000000) only [Try.results5, XX, Nat.reduceBEq, Nat.reduceLT, Nat.reduceAdd, Nat.reduceMul, Nat.reduceSub, Nat.reduceLeDiff, Nat.reduceEqDiff, Int.reduceToNat, Int.reduceLT, Int.reduceLE, Int.reduceAdd, Int.reduceSub, Int.reduceEq, reduceIte, Nat.reduceBNe, Int.reducePow, Nat.reducePow, Int.reduceMul, Int.reduceNeg, isB_i, isB_b, isB_y, isBv_i, isBv_b, eqCells_t, TT]
  generalize hhp : ([_, _, _, _, _, _, _, _, _, _, _, _] : List SB) = hp
  have w1 : hp[1]? = some (wB o3 (L ++ z3)) := by rw [← hhp]; rfl
  have w2 : hp[3]? = some (wB o4 (L' ++ z4)) := by rw [← hhp]; rfl
  have w3 : hp[5]? = some (wB o5 (L ++ z5)) := by rw [← hhp]; rfl
  have wb : hp[11]? = some (bookB nilC nilC) := by rw [← hhp]; rfl
  have y2 : hp[4]? = some ⟨true, 26, [i64 a', i64 b', i32 r', slB 3 L' z4]⟩ := by rw [← hhp]; rfl
  have y3 : hp[6]? = some ⟨true, 26, [i64 a, i64 b, i32 r, slB 5 L z5]⟩ := by rw [← hhp]; rfl
  clear hhp
  refine call_is (take0_spec hp 11 1 L z3 o3 _ (by omega) wb w1) ?_
  rintro _ h1 ⟨rfl, iL, cL, iW, cW, B1, b1, l1, m1⟩
  have lt8 := lt_of w2
  have lt10 := lt_of w3
  have lt9 := lt_of y2
  have lt11 := lt_of y3
  have y2' := (b1.2 4 lt9 (by decide)).trans y2
  simp (maxSteps := 4000000) only [Try.results5, y2', XX, Nat.reduceBEq, Nat.reduceLT, Nat.reduceAdd, Nat.reduceMul, Nat.reduceSub, Nat.reduceLeDiff, Nat.reduceEqDiff, Int.reduceToNat, Int.reduceLT, Int.reduceLE, Int.reduceAdd, Int.reduceSub, Int.reduceEq, reduceIte, Nat.reduceBNe, Int.reducePow, Nat.reducePow, Int.reduceMul, Int.reduceNeg, isB_i, isB_b, isB_y, isBv_i, isBv_b, eqCells_t, TT]
  refine call_is (take_spec h1 11 3 _ _ _ _ _ _ L' z4 o4 _ (by omega) B1 (by simp) ((b1.2 3 lt8 (by decide)).trans w2)) ?_
  rintro _ h2 ⟨rfl, iL2, cL2, iW2, cW2, B2, b2, l2, m2⟩
  have y3' := ((b2.2 6 (by have := b1.1; omega) (by rintro (h | h | h) <;> omega)).trans (b1.2 6 lt11 (by decide))).trans y3
  simp (maxSteps := 4000000) only [Try.results5, y3', XX, Nat.reduceBEq, Nat.reduceLT, Nat.reduceAdd, Nat.reduceMul, Nat.reduceSub, Nat.reduceLeDiff, Nat.reduceEqDiff, Int.reduceToNat, Int.reduceLT, Int.reduceLE, Int.reduceAdd, Int.reduceSub, Int.reduceEq, reduceIte, Nat.reduceBNe, Int.reducePow, Nat.reducePow, Int.reduceMul, Int.reduceNeg, isB_i, isB_b, isB_y, isBv_i, isBv_b, eqCells_t, TT]
  refine call_is (take_spec h2 11 5 _ _ _ _ _ _ L z5 o5 _ (by omega) B2 (by simp) (((b2.2 5 (by have := b1.1; omega) (by rintro (h | h | h) <;> omega)).trans (b1.2 5 lt10 (by decide))).trans w3)) ?_
  rintro _ h3 ⟨rfl, iL3, cL3, iW3, cW3, B3, b3, l3, m3⟩
  simp (maxSteps := 4000000) only [Try.results5, XX, Nat.reduceBEq, Nat.reduceLT, Nat.reduceAdd, Nat.reduceMul, Nat.reduceSub, Nat.reduceLeDiff, Nat.reduceEqDiff, Int.reduceToNat, Int.reduceLT, Int.reduceLE, Int.reduceAdd, Int.reduceSub, Int.reduceEq, reduceIte, Nat.reduceBNe, Int.reducePow, Nat.reducePow, Int.reduceMul, Int.reduceNeg, isB_i, isB_b, isB_y, isBv_i, isBv_b, eqCells_t, TT]
  refine call_is (owned_spec h3 11 [⟨1, L, z3, o3⟩, ⟨3, L', z4, o4⟩, ⟨5, L, z5, o5⟩] iL3 cL3 iW3 cW3 B3 (owns3 (lt_of wb) b1 l1 m1 b2 l2 m2 b3 w1 w2 w3 (by decide) (by decide) (by decide) ho3 ho4 ho5 (by omega) (by omega) (by omega) (by decide) (by decide) (by decide)) (by simp)) ?_
  rintro _ _ rfl
  simp (maxSteps := 4000000) only [Try.results5, XX, Nat.reduceBEq, Nat.reduceLT, Nat.reduceAdd, Nat.reduceMul, Nat.reduceSub, Nat.reduceLeDiff, Nat.reduceEqDiff, Int.reduceToNat, Int.reduceLT, Int.reduceLE, Int.reduceAdd, Int.reduceSub, Int.reduceEq, reduceIte, Nat.reduceBNe, Int.reducePow, Nat.reducePow, Int.reduceMul, Int.reduceNeg, isB_i, isB_b, isB_y, isBv_i, isBv_b, eqCells_t, TT]

end Go.Proofs.Ytfpjabhlfjkhfaa.Sx
