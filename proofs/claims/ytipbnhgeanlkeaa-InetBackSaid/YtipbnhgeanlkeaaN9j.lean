/- The symbolic executor, at work: the laws of heads. No condition. -/
import Derived.Test.YtipbnhgeanlkeaaN9i
namespace Go.Proofs.Ytipbnhgeanlkeaa.Sx
open Go
set_option linter.unusedSimpArgs false
set_option linter.unusedVariables false
set_option linter.unusedSectionVars false
set_option maxRecDepth 10000
set_option maxHeartbeats 2000000

theorem lent_noRo {l : List UInt8} {n c : Nat} {t : SV} {h' : List SB} (h : t = .c (.sl 0 0 n c) ∧ h' = [wB true l]) : t.noRo = true ∧ (h'.all fun b => b.cells.all SC.noRo) = true := by
  obtain ⟨rfl, rfl⟩ := h
  exact ⟨rfl, by simp only [XX, Nat.reduceBEq, Nat.reduceLT, Nat.reduceAdd, Nat.reduceMul, Nat.reduceSub, Nat.reduceLeDiff, Nat.reduceEqDiff, Int.reduceToNat, Int.reduceLT, Int.reduceLE, Int.reduceAdd, Int.reduceSub, Int.reduceEq, reduceIte, Nat.reduceBNe, Int.reducePow, Nat.reducePow, Int.reduceMul, Int.reduceNeg, isB_i, isB_b, isB_y, isBv_i, isBv_b, eqCells_t, TT, ids_bsC, ren_bsC, noRo_bsC, plain_bsC, lt_bsC, ids_byte, ren_byte, noRo_byte, plain_byte, lt_byte]⟩
theorem RTy_u32 {B n : Nat} {x : List RC} (h : RTy T B (n + 1) 25 x) : ∃ z : Nat, x = [.v (.int .u32 z)] ∧ z < 4294967296 := by
  obtain ⟨z, rfl, h1, h2⟩ := RTy_int T_25 h
  simp [IntKind.min, IntKind.max, IntKind.bits, IntKind.signed] at h1 h2
  exact ⟨z.toNat, by rw [Int.toNat_of_nonneg h1], by omega⟩
theorem RTy_ip {B n : Nat} {x : List RC} (h : RTy T B (n + 3) 27 x) : ∃ a : IP, svOf T 27 x = .agg (ipC a) ∧ a.src < 4294967296 ∧ a.dst < 4294967296 := by
  obtain ⟨parts, rfl, g⟩ := RTy_struct T_27 h
  obtain ⟨x1, xs1, rfl, h1, g1⟩ := RTyL_cons g
  obtain ⟨x2, xs2, rfl, h2, g2⟩ := RTyL_cons g1
  obtain ⟨x3, xs3, rfl, h3, g3⟩ := RTyL_cons g2
  obtain ⟨x4, xs4, rfl, h4, g4⟩ := RTyL_cons g3
  obtain ⟨x5, xs5, rfl, h5, g5⟩ := RTyL_cons g4
  obtain ⟨x6, xs6, rfl, h6, g6⟩ := RTyL_cons g5
  obtain ⟨x7, xs7, rfl, h7, g7⟩ := RTyL_cons g6
  obtain rfl := RTyL_nil g7
  obtain ⟨a, rfl, ha⟩ := RTy_int T_3 h1
  obtain ⟨b, rfl, hb⟩ := RTy_int T_3 h2
  obtain ⟨c, rfl, hc⟩ := RTy_int T_3 h3
  obtain ⟨d, rfl, hd⟩ := RTy_int T_3 h4
  obtain ⟨k, rfl⟩ := RTy_bool T_4 h5
  obtain ⟨s, rfl, hs⟩ := RTy_u32 h6
  obtain ⟨u, rfl, hu⟩ := RTy_u32 h7
  exact ⟨⟨a, b, c, d, k, s, u⟩, rfl, hs, hu⟩

theorem inetNames_walk : ∀ css, RTyL (RTy T reachBytes DEPTH) [] css → Spec Try.prog 3 (svs T [] css) [] fun r _ => r = .c (.v (.bool true)) := by
  intro css h
  obtain rfl := RTyL_nil h
  simp only [svs]
  refine spec_of_X cx_ok Try.func3 rfl (by kernel_rfl) (by kernel_rfl) (Nat.le_of_ble_eq_true rfl) 400 4 ?_
  simp (maxSteps := 4000000) only [Try.results3, XX, Nat.reduceBEq, Nat.reduceLT, Nat.reduceAdd, Nat.reduceMul, Nat.reduceSub, Nat.reduceLeDiff, Nat.reduceEqDiff, Int.reduceToNat, Int.reduceLT, Int.reduceLE, Int.reduceAdd, Int.reduceSub, Int.reduceEq, reduceIte, Nat.reduceBNe, Int.reducePow, Nat.reducePow, Int.reduceMul, Int.reduceNeg, isB_i, isB_b, isB_y, isBv_i, isBv_b, eqCells_t, TT]
  refine call_plain (awake_spec) rfl ?_
  rintro _ rfl
  simp (maxSteps := 4000000) only [Try.results3, XX, Nat.reduceBEq, Nat.reduceLT, Nat.reduceAdd, Nat.reduceMul, Nat.reduceSub, Nat.reduceLeDiff, Nat.reduceEqDiff, Int.reduceToNat, Int.reduceLT, Int.reduceLE, Int.reduceAdd, Int.reduceSub, Int.reduceEq, reduceIte, Nat.reduceBNe, Int.reducePow, Nat.reducePow, Int.reduceMul, Int.reduceNeg, isB_i, isB_b, isB_y, isBv_i, isBv_b, eqCells_t, TT]
  simp only [List.replicate_succ, List.replicate_zero, List.flatten_cons, List.flatten_nil, List.cons_append, List.nil_append, List.drop_succ_cons, List.drop_zero, List.length_cons, List.length_nil, Nat.reduceAdd, Nat.reduceLeDiff, reduceIte]
  simp (maxSteps := 4000000) only [Try.results3, XX, Nat.reduceBEq, Nat.reduceLT, Nat.reduceAdd, Nat.reduceMul, Nat.reduceSub, Nat.reduceLeDiff, Nat.reduceEqDiff, Int.reduceToNat, Int.reduceLT, Int.reduceLE, Int.reduceAdd, Int.reduceSub, Int.reduceEq, reduceIte, Nat.reduceBNe, Int.reducePow, Nat.reducePow, Int.reduceMul, Int.reduceNeg, isB_i, isB_b, isB_y, isBv_i, isBv_b, eqCells_t, TT]
  refine loop_rounds cx_ok 400 7 ?_
  simp (maxSteps := 4000000) only [Try.results3, w64, Int.reduceAdd, XX, Nat.reduceBEq, Nat.reduceLT, Nat.reduceAdd, Nat.reduceMul, Nat.reduceSub, Nat.reduceLeDiff, Nat.reduceEqDiff, Int.reduceToNat, Int.reduceLT, Int.reduceLE, Int.reduceAdd, Int.reduceSub, Int.reduceEq, reduceIte, Nat.reduceBNe, Int.reducePow, Nat.reducePow, Int.reduceMul, Int.reduceNeg, isB_i, isB_b, isB_y, isBv_i, isBv_b, eqCells_t, TT]

theorem inetEncodes_walk : ∀ css, RTyL (RTy T reachBytes DEPTH) [27, 28, 27, 28] css → Spec Try.prog 4 (svs T [27, 28, 27, 28] css) [] fun r _ => r = .c (.v (.bool true)) := by
  intro css h
  obtain ⟨x1, xs1, rfl, h1, g1⟩ := RTyL_cons h
  obtain ⟨x2, xs2, rfl, h2, g2⟩ := RTyL_cons g1
  obtain ⟨x3, xs3, rfl, h3, g3⟩ := RTyL_cons g2
  obtain ⟨x4, xs4, rfl, h4, g4⟩ := RTyL_cons g3
  obtain rfl := RTyL_nil g4
  obtain ⟨a, e1, a1, a2⟩ := RTy_ip h1
  obtain ⟨l, sp, c, rfl, hl1, hl2, hl3, hl4⟩ := RTy_bytes h2
  obtain ⟨a', e3, a1', a2'⟩ := RTy_ip h3
  obtain ⟨l', sp', c', rfl, hl1', hl2', hl3', hl4'⟩ := RTy_bytes h4
  have e2 : svOf T 28 [.sl (bsR (l ++ sp)) l.length c] = .c (roB l sp c) := rfl
  have e4 : svOf T 28 [.sl (bsR (l' ++ sp')) l'.length c'] = .c (roB l' sp' c') := rfl
  simp only [svs, e1, e2, e3, e4]
  clear h1 h2 h3 h4 g1 g2 g3 g4 h e1 e2 e3 e4
  unfold reachBytes at hl4 hl4'
  refine spec_of_X cx_ok Try.func4 rfl (by kernel_rfl) (by kernel_rfl) (Nat.le_of_ble_eq_true rfl) 400 25 ?_
  simp (maxSteps := 4000000) only [Try.results4, XX, Nat.reduceBEq, Nat.reduceLT, Nat.reduceAdd, Nat.reduceMul, Nat.reduceSub, Nat.reduceLeDiff, Nat.reduceEqDiff, Int.reduceToNat, Int.reduceLT, Int.reduceLE, Int.reduceAdd, Int.reduceSub, Int.reduceEq, reduceIte, Nat.reduceBNe, Int.reducePow, Nat.reducePow, Int.reduceMul, Int.reduceNeg, isB_i, isB_b, isB_y, isBv_i, isBv_b, eqCells_t, TT]
  refine call_plain (awake_spec) rfl ?_
  rintro _ rfl
  simp (maxSteps := 4000000) only [Try.results4, XX, Nat.reduceBEq, Nat.reduceLT, Nat.reduceAdd, Nat.reduceMul, Nat.reduceSub, Nat.reduceLeDiff, Nat.reduceEqDiff, Int.reduceToNat, Int.reduceLT, Int.reduceLE, Int.reduceAdd, Int.reduceSub, Int.reduceEq, reduceIte, Nat.reduceBNe, Int.reducePow, Nat.reducePow, Int.reduceMul, Int.reduceNeg, isB_i, isB_b, isB_y, isBv_i, isBv_b, eqCells_t, TT]
  have hF := rencA_spec a l sp c a1 a2 (by omega)
  have hG := rencA_spec a' l' sp' c' a1' a2' (by omega)
  have hA := encA_spec a l [71, 72] (l.length + 2) a1 a2 (by omega)
  have hB := encA_spec a' l' [71, 72] (l'.length + 2) a1' a2' (by omega)
  have n1 := encR_len a l
  have n2 := encR_len a' l'
  generalize encR a l = L at *
  generalize encE a l = E at *
  generalize encR a' l' = L' at *
  generalize encE a' l' = E' at *
  refine call_fz [.agg (ipC a), .c (roB l sp c)] hF (fun t h' h => resB_noRo h) ⟨.inl ⟨rfl, rfl⟩, .inl ⟨rfl, rfl⟩, trivial⟩ ?_
  rintro _ _ ⟨z1, o1, rfl, rfl, ho1⟩
  simp (maxSteps := 4000000) only [Try.results4, ids_bsC, ren_bsC, noRo_bsC, plain_bsC, lt_bsC, ids_byte, ren_byte, noRo_byte, plain_byte, lt_byte, XX, Nat.reduceBEq, Nat.reduceLT, Nat.reduceAdd, Nat.reduceMul, Nat.reduceSub, Nat.reduceLeDiff, Nat.reduceEqDiff, Int.reduceToNat, Int.reduceLT, Int.reduceLE, Int.reduceAdd, Int.reduceSub, Int.reduceEq, reduceIte, Nat.reduceBNe, Int.reducePow, Nat.reducePow, Int.reduceMul, Int.reduceNeg, isB_i, isB_b, isB_y, isBv_i, isBv_b, eqCells_t, TT]
  refine call_fz [.agg (ipC a'), .c (roB l' sp' c')] hG (fun t h' h => resB_noRo h) ⟨.inl ⟨rfl, rfl⟩, .inl ⟨rfl, rfl⟩, trivial⟩ ?_
  rintro _ _ ⟨z2, o2, rfl, rfl, ho2⟩
  simp (maxSteps := 4000000) only [Try.results4, ids_bsC, ren_bsC, noRo_bsC, plain_bsC, lt_bsC, ids_byte, ren_byte, noRo_byte, plain_byte, lt_byte, XX, Nat.reduceBEq, Nat.reduceLT, Nat.reduceAdd, Nat.reduceMul, Nat.reduceSub, Nat.reduceLeDiff, Nat.reduceEqDiff, Int.reduceToNat, Int.reduceLT, Int.reduceLE, Int.reduceAdd, Int.reduceSub, Int.reduceEq, reduceIte, Nat.reduceBNe, Int.reducePow, Nat.reducePow, Int.reduceMul, Int.reduceNeg, isB_i, isB_b, isB_y, isBv_i, isBv_b, eqCells_t, TT]
  refine call_fz [.c (roB l sp c)] (lent_spec l sp c (by omega)) (fun t h' h => lent_noRo h) ⟨.inl ⟨rfl, rfl⟩, trivial⟩ ?_
  rintro _ _ ⟨rfl, rfl⟩
  simp (maxSteps := 4000000) only [Try.results4, ids_bsC, ren_bsC, noRo_bsC, plain_bsC, lt_bsC, ids_byte, ren_byte, noRo_byte, plain_byte, lt_byte, XX, Nat.reduceBEq, Nat.reduceLT, Nat.reduceAdd, Nat.reduceMul, Nat.reduceSub, Nat.reduceLeDiff, Nat.reduceEqDiff, Int.reduceToNat, Int.reduceLT, Int.reduceLE, Int.reduceAdd, Int.reduceSub, Int.reduceEq, reduceIte, Nat.reduceBNe, Int.reducePow, Nat.reducePow, Int.reduceMul, Int.reduceNeg, isB_i, isB_b, isB_y, isBv_i, isBv_b, eqCells_t, TT]
  refine call_fz [.c (roB l' sp' c')] (lent_spec l' sp' c' (by omega)) (fun t h' h => lent_noRo h) ⟨.inl ⟨rfl, rfl⟩, trivial⟩ ?_
  rintro _ _ ⟨rfl, rfl⟩
  simp (maxSteps := 4000000) only [Try.results4, ids_bsC, ren_bsC, noRo_bsC, plain_bsC, lt_bsC, ids_byte, ren_byte, noRo_byte, plain_byte, lt_byte, XX, Nat.reduceBEq, Nat.reduceLT, Nat.reduceAdd, Nat.reduceMul, Nat.reduceSub, Nat.reduceLeDiff, Nat.reduceEqDiff, Int.reduceToNat, Int.reduceLT, Int.reduceLE, Int.reduceAdd, Int.reduceSub, Int.reduceEq, reduceIte, Nat.reduceBNe, Int.reducePow, Nat.reducePow, Int.reduceMul, Int.reduceNeg, isB_i, isB_b, isB_y, isBv_i, isBv_b, eqCells_t, TT]
  have hx : ∀ {r : Nat → Nat} {n : Nat} {h : List SB} {i : Nat}, h[i]? = some (wB true (l ++ [71, 72])) → frC true (fun _ => true) r n h (.sl i 0 l.length (l.length + 2)) (roB l [71, 72] (l.length + 2)) := fun hb => fz_sl hb rfl rfl
  have hy : ∀ {r : Nat → Nat} {n : Nat} {h : List SB} {i : Nat}, h[i]? = some (wB true (l' ++ [71, 72])) → frC true (fun _ => true) r n h (.sl i 0 l'.length (l'.length + 2)) (roB l' [71, 72] (l'.length + 2)) := fun hb => fz_sl hb rfl rfl
  refine call_fz [.agg (ipC a), .c (roB l [71, 72] (l.length + 2))] hA (fun t h' h => resB_noRo h) ⟨.inl ⟨rfl, rfl⟩, fz_c (hx rfl), trivial⟩ ?_
  rintro _ _ ⟨z3, o3, rfl, rfl, ho3⟩
  simp (maxSteps := 4000000) only [Try.results4, ids_bsC, ren_bsC, noRo_bsC, plain_bsC, lt_bsC, ids_byte, ren_byte, noRo_byte, plain_byte, lt_byte, XX, Nat.reduceBEq, Nat.reduceLT, Nat.reduceAdd, Nat.reduceMul, Nat.reduceSub, Nat.reduceLeDiff, Nat.reduceEqDiff, Int.reduceToNat, Int.reduceLT, Int.reduceLE, Int.reduceAdd, Int.reduceSub, Int.reduceEq, reduceIte, Nat.reduceBNe, Int.reducePow, Nat.reducePow, Int.reduceMul, Int.reduceNeg, isB_i, isB_b, isB_y, isBv_i, isBv_b, eqCells_t, TT]
  refine call_fz [.agg (ipC a'), .c (roB l' [71, 72] (l'.length + 2))] hB (fun t h' h => resB_noRo h) ⟨.inl ⟨rfl, rfl⟩, fz_c (hy rfl), trivial⟩ ?_
  rintro _ _ ⟨z4, o4, rfl, rfl, ho4⟩
  simp (maxSteps := 4000000) only [Try.results4, ids_bsC, ren_bsC, noRo_bsC, plain_bsC, lt_bsC, ids_byte, ren_byte, noRo_byte, plain_byte, lt_byte, XX, Nat.reduceBEq, Nat.reduceLT, Nat.reduceAdd, Nat.reduceMul, Nat.reduceSub, Nat.reduceLeDiff, Nat.reduceEqDiff, Int.reduceToNat, Int.reduceLT, Int.reduceLE, Int.reduceAdd, Int.reduceSub, Int.reduceEq, reduceIte, Nat.reduceBNe, Int.reducePow, Nat.reducePow, Int.reduceMul, Int.reduceNeg, isB_i, isB_b, isB_y, isBv_i, isBv_b, eqCells_t, TT]
  refine call_fz [.agg (ipC a), .c (roB l [71, 72] (l.length + 2))] hA (fun t h' h => resB_noRo h) ⟨.inl ⟨rfl, rfl⟩, fz_c (hx rfl), trivial⟩ ?_
  rintro _ _ ⟨z5, o5, rfl, rfl, ho5⟩
  simp (maxSteps := 4000000) only [Try.results4, ids_bsC, ren_bsC, noRo_bsC, plain_bsC, lt_bsC, ids_byte, ren_byte, noRo_byte, plain_byte, lt_byte, XX, Nat.reduceBEq, Nat.reduceLT, Nat.reduceAdd, Nat.reduceMul, Nat.reduceSub, Nat.reduceLeDiff, Nat.reduceEqDiff, Int.reduceToNat, Int.reduceLT, Int.reduceLE, Int.reduceAdd, Int.reduceSub, Int.reduceEq, reduceIte, Nat.reduceBNe, Int.reducePow, Nat.reducePow, Int.reduceMul, Int.reduceNeg, isB_i, isB_b, isB_y, isBv_i, isBv_b, eqCells_t, TT]
  refine call_frame (asLent_spec l sp c (by omega)) [4] rfl rfl ?_ rfl ?_ ?_
  · simp only [XX, Nat.reduceBEq, Nat.reduceLT, Nat.reduceAdd, Nat.reduceMul, Nat.reduceSub, Nat.reduceLeDiff, Nat.reduceEqDiff, Int.reduceToNat, Int.reduceLT, Int.reduceLE, Int.reduceAdd, Int.reduceSub, Int.reduceEq, reduceIte, Nat.reduceBNe, Int.reducePow, Nat.reducePow, Int.reduceMul, Int.reduceNeg, isB_i, isB_b, isB_y, isBv_i, isBv_b, eqCells_t, TT, preOk, ids_bsC, ren_bsC, noRo_bsC, plain_bsC, lt_bsC, ids_byte, ren_byte, noRo_byte, plain_byte, lt_byte]
  · simp only [XX, Nat.reduceBEq, Nat.reduceLT, Nat.reduceAdd, Nat.reduceMul, Nat.reduceSub, Nat.reduceLeDiff, Nat.reduceEqDiff, Int.reduceToNat, Int.reduceLT, Int.reduceLE, Int.reduceAdd, Int.reduceSub, Int.reduceEq, reduceIte, Nat.reduceBNe, Int.reducePow, Nat.reducePow, Int.reduceMul, Int.reduceNeg, isB_i, isB_b, isB_y, isBv_i, isBv_b, eqCells_t, TT, ids_bsC, ren_bsC, noRo_bsC, plain_bsC, lt_bsC, ids_byte, ren_byte, noRo_byte, plain_byte, lt_byte]
  rintro _ _ ⟨rfl, rfl⟩
  simp (maxSteps := 4000000) only [Try.results4, ids_bsC, ren_bsC, noRo_bsC, plain_bsC, lt_bsC, ids_byte, ren_byte, noRo_byte, plain_byte, lt_byte, XX, Nat.reduceBEq, Nat.reduceLT, Nat.reduceAdd, Nat.reduceMul, Nat.reduceSub, Nat.reduceLeDiff, Nat.reduceEqDiff, Int.reduceToNat, Int.reduceLT, Int.reduceLE, Int.reduceAdd, Int.reduceSub, Int.reduceEq, reduceIte, Nat.reduceBNe, Int.reducePow, Nat.reducePow, Int.reduceMul, Int.reduceNeg, isB_i, isB_b, isB_y, isBv_i, isBv_b, eqCells_t, TT]
  refine call_frame (asLent_spec l' sp' c' (by omega)) [5] rfl rfl ?_ rfl ?_ ?_
  · simp only [XX, Nat.reduceBEq, Nat.reduceLT, Nat.reduceAdd, Nat.reduceMul, Nat.reduceSub, Nat.reduceLeDiff, Nat.reduceEqDiff, Int.reduceToNat, Int.reduceLT, Int.reduceLE, Int.reduceAdd, Int.reduceSub, Int.reduceEq, reduceIte, Nat.reduceBNe, Int.reducePow, Nat.reducePow, Int.reduceMul, Int.reduceNeg, isB_i, isB_b, isB_y, isBv_i, isBv_b, eqCells_t, TT, preOk, ids_bsC, ren_bsC, noRo_bsC, plain_bsC, lt_bsC, ids_byte, ren_byte, noRo_byte, plain_byte, lt_byte]
  · simp only [XX, Nat.reduceBEq, Nat.reduceLT, Nat.reduceAdd, Nat.reduceMul, Nat.reduceSub, Nat.reduceLeDiff, Nat.reduceEqDiff, Int.reduceToNat, Int.reduceLT, Int.reduceLE, Int.reduceAdd, Int.reduceSub, Int.reduceEq, reduceIte, Nat.reduceBNe, Int.reducePow, Nat.reducePow, Int.reduceMul, Int.reduceNeg, isB_i, isB_b, isB_y, isBv_i, isBv_b, eqCells_t, TT, ids_bsC, ren_bsC, noRo_bsC, plain_bsC, lt_bsC, ids_byte, ren_byte, noRo_byte, plain_byte, lt_byte]
  rintro _ _ ⟨rfl, rfl⟩
  have tk : ∀ a b : List UInt8, (bsC (a ++ b)).take a.length = bsC a := fun a b => by rw [bs_take, List.take_left' rfl]
  simp (maxSteps := 4000000) only [Try.results4, ids_bsC, ren_bsC, noRo_bsC, plain_bsC, lt_bsC, ids_byte, ren_byte, noRo_byte, plain_byte, lt_byte, tk, strOf_bsC, str_eq, XX, Nat.reduceBEq, Nat.reduceLT, Nat.reduceAdd, Nat.reduceMul, Nat.reduceSub, Nat.reduceLeDiff, Nat.reduceEqDiff, Int.reduceToNat, Int.reduceLT, Int.reduceLE, Int.reduceAdd, Int.reduceSub, Int.reduceEq, reduceIte, Nat.reduceBNe, Int.reducePow, Nat.reducePow, Int.reduceMul, Int.reduceNeg, isB_i, isB_b, isB_y, isBv_i, isBv_b, eqCells_t, TT]
  have q : ∀ a b : List UInt8, a.length ≤ (bsC (a ++ b)).length ∧ ∀ c ∈ bsC a, isByte c = true := fun a b => ⟨by simp, isByte_bsC a⟩
  refine ⟨q _ _, q _ _, q _ _, q _ _, q _ _, q _ _, ?_⟩
  generalize hhp : ([_, _, _, _, _, _, _, _, _, _] : List SB) = hp
  have w1 : hp[6]? = some (wB o3 (L ++ z3)) := by rw [← hhp]; rfl
  have w2 : hp[7]? = some (wB o4 (L' ++ z4)) := by rw [← hhp]; rfl
  have w3 : hp[8]? = some (wB o5 (L ++ z5)) := by rw [← hhp]; rfl
  have wb : hp[9]? = some (bookB nilC nilC) := by rw [← hhp]; rfl
  clear hhp
  refine call_is (take0_spec hp 9 6 L z3 o3 _ (by omega) wb w1) ?_
  rintro _ h1 ⟨rfl, iL, cL, iW, cW, B1, b1, l1, m1⟩
  simp (maxSteps := 4000000) only [Try.results4, XX, Nat.reduceBEq, Nat.reduceLT, Nat.reduceAdd, Nat.reduceMul, Nat.reduceSub, Nat.reduceLeDiff, Nat.reduceEqDiff, Int.reduceToNat, Int.reduceLT, Int.reduceLE, Int.reduceAdd, Int.reduceSub, Int.reduceEq, reduceIte, Nat.reduceBNe, Int.reducePow, Nat.reducePow, Int.reduceMul, Int.reduceNeg, isB_i, isB_b, isB_y, isBv_i, isBv_b, eqCells_t, TT]
  have lt9 := lt_of w2
  have lt10 := lt_of w3
  refine call_is (take_spec h1 9 7 _ _ _ _ _ _ L' z4 o4 _ (by omega) B1 (by simp) ((b1.2 7 lt9 (by decide)).trans w2)) ?_
  rintro _ h2 ⟨rfl, iL2, cL2, iW2, cW2, B2, b2, l2, m2⟩
  simp (maxSteps := 4000000) only [Try.results4, XX, Nat.reduceBEq, Nat.reduceLT, Nat.reduceAdd, Nat.reduceMul, Nat.reduceSub, Nat.reduceLeDiff, Nat.reduceEqDiff, Int.reduceToNat, Int.reduceLT, Int.reduceLE, Int.reduceAdd, Int.reduceSub, Int.reduceEq, reduceIte, Nat.reduceBNe, Int.reducePow, Nat.reducePow, Int.reduceMul, Int.reduceNeg, isB_i, isB_b, isB_y, isBv_i, isBv_b, eqCells_t, TT]
  refine call_is (take_spec h2 9 8 _ _ _ _ _ _ L z5 o5 _ (by omega) B2 (by simp) (((b2.2 8 (by have := b1.1; omega) (by rintro (h | h | h) <;> omega)).trans (b1.2 8 lt10 (by decide))).trans w3)) ?_
  rintro _ h3 ⟨rfl, iL3, cL3, iW3, cW3, B3, b3, l3, m3⟩
  simp (maxSteps := 4000000) only [Try.results4, XX, Nat.reduceBEq, Nat.reduceLT, Nat.reduceAdd, Nat.reduceMul, Nat.reduceSub, Nat.reduceLeDiff, Nat.reduceEqDiff, Int.reduceToNat, Int.reduceLT, Int.reduceLE, Int.reduceAdd, Int.reduceSub, Int.reduceEq, reduceIte, Nat.reduceBNe, Int.reducePow, Nat.reducePow, Int.reduceMul, Int.reduceNeg, isB_i, isB_b, isB_y, isBv_i, isBv_b, eqCells_t, TT]
  refine call_is (owned_spec h3 9 [⟨6, L, z3, o3⟩, ⟨7, L', z4, o4⟩, ⟨8, L, z5, o5⟩] iL3 cL3 iW3 cW3 B3 (owns3 (lt_of wb) b1 l1 m1 b2 l2 m2 b3 w1 w2 w3 (by decide) (by decide) (by decide) ho3 ho4 ho5 (by omega) (by omega) (by omega) (by decide) (by decide) (by decide)) (by simp)) ?_
  rintro _ _ rfl
  simp (maxSteps := 4000000) only [Try.results4, XX, Nat.reduceBEq, Nat.reduceLT, Nat.reduceAdd, Nat.reduceMul, Nat.reduceSub, Nat.reduceLeDiff, Nat.reduceEqDiff, Int.reduceToNat, Int.reduceLT, Int.reduceLE, Int.reduceAdd, Int.reduceSub, Int.reduceEq, reduceIte, Nat.reduceBNe, Int.reducePow, Nat.reducePow, Int.reduceMul, Int.reduceNeg, isB_i, isB_b, isB_y, isBv_i, isBv_b, eqCells_t, TT]

theorem decD_len (l : List UInt8) : (decD l).length ≤ l.length := by
  unfold decD; split
  · simp; omega
  · simp

theorem inetDecodes_walk : ∀ css, RTyL (RTy T reachBytes DEPTH) [28, 28] css → Spec Try.prog 5 (svs T [28, 28] css) [] fun r _ => r = .c (.v (.bool true)) := by
  intro css h
  obtain ⟨x3, xs3, rfl, h3, g3⟩ := RTyL_cons h
  obtain ⟨x4, xs4, rfl, h4, g4⟩ := RTyL_cons g3
  obtain rfl := RTyL_nil g4
  obtain ⟨l, sp, c, rfl, hl1, hl2, hl3, hl4⟩ := RTy_bytes h3
  obtain ⟨l', sp', c', rfl, hl1', hl2', hl3', hl4'⟩ := RTy_bytes h4
  have e3 : svOf T 28 [.sl (bsR (l ++ sp)) l.length c] = .c (roB l sp c) := rfl
  have e4 : svOf T 28 [.sl (bsR (l' ++ sp')) l'.length c'] = .c (roB l' sp' c') := rfl
  simp only [svs, e3, e4]
  clear h3 h4 g3 g4 h e3 e4
  unfold reachBytes at hl4 hl4'
  refine spec_of_X cx_ok Try.func5 rfl (by kernel_rfl) (by kernel_rfl) (Nat.le_of_ble_eq_true rfl) 400 26 ?_
  simp (maxSteps := 4000000) only [Try.results5, XX, Nat.reduceBEq, Nat.reduceLT, Nat.reduceAdd, Nat.reduceMul, Nat.reduceSub, Nat.reduceLeDiff, Nat.reduceEqDiff, Int.reduceToNat, Int.reduceLT, Int.reduceLE, Int.reduceAdd, Int.reduceSub, Int.reduceEq, reduceIte, Nat.reduceBNe, Int.reducePow, Nat.reducePow, Int.reduceMul, Int.reduceNeg, isB_i, isB_b, isB_y, isBv_i, isBv_b, eqCells_t, TT]
  refine call_plain (awake_spec) rfl ?_
  rintro _ rfl
  simp (maxSteps := 4000000) only [Try.results5, XX, Nat.reduceBEq, Nat.reduceLT, Nat.reduceAdd, Nat.reduceMul, Nat.reduceSub, Nat.reduceLeDiff, Nat.reduceEqDiff, Int.reduceToNat, Int.reduceLT, Int.reduceLE, Int.reduceAdd, Int.reduceSub, Int.reduceEq, reduceIte, Nat.reduceBNe, Int.reducePow, Nat.reducePow, Int.reduceMul, Int.reduceNeg, isB_i, isB_b, isB_y, isBv_i, isBv_b, eqCells_t, TT]
  have hF := rdec_spec l sp c hl1 (by omega)
  have hG := rdec_spec l' sp' c' hl1' (by omega)
  have hA := dec_spec l [71, 72] (l.length + 2) (by omega) (by omega)
  have hB := dec_spec l' [71, 72] (l'.length + 2) (by omega) (by omega)
  have n1 := decD_len l
  have n2 := decD_len l'
  generalize decD l = L at *
  generalize decD l' = L' at *
  generalize decI l = a at *
  generalize decI l' = a' at *
  generalize decE l = E at *
  generalize decE l' = E' at *
  refine call_fz [.c (roB l sp c)] hF (fun t h' h => resP_noRo h) ⟨.inl ⟨rfl, rfl⟩, trivial⟩ ?_
  rintro _ _ ⟨z1, o1, rfl, rfl, ho1⟩
  simp (maxSteps := 4000000) only [Try.results5, ids_bsC, ren_bsC, noRo_bsC, plain_bsC, lt_bsC, ids_byte, ren_byte, noRo_byte, plain_byte, lt_byte, XX, Nat.reduceBEq, Nat.reduceLT, Nat.reduceAdd, Nat.reduceMul, Nat.reduceSub, Nat.reduceLeDiff, Nat.reduceEqDiff, Int.reduceToNat, Int.reduceLT, Int.reduceLE, Int.reduceAdd, Int.reduceSub, Int.reduceEq, reduceIte, Nat.reduceBNe, Int.reducePow, Nat.reducePow, Int.reduceMul, Int.reduceNeg, isB_i, isB_b, isB_y, isBv_i, isBv_b, eqCells_t, TT]
  refine call_fz [.c (roB l' sp' c')] hG (fun t h' h => resP_noRo h) ⟨.inl ⟨rfl, rfl⟩, trivial⟩ ?_
  rintro _ _ ⟨z2, o2, rfl, rfl, ho2⟩
  simp (maxSteps := 4000000) only [Try.results5, ids_bsC, ren_bsC, noRo_bsC, plain_bsC, lt_bsC, ids_byte, ren_byte, noRo_byte, plain_byte, lt_byte, XX, Nat.reduceBEq, Nat.reduceLT, Nat.reduceAdd, Nat.reduceMul, Nat.reduceSub, Nat.reduceLeDiff, Nat.reduceEqDiff, Int.reduceToNat, Int.reduceLT, Int.reduceLE, Int.reduceAdd, Int.reduceSub, Int.reduceEq, reduceIte, Nat.reduceBNe, Int.reducePow, Nat.reducePow, Int.reduceMul, Int.reduceNeg, isB_i, isB_b, isB_y, isBv_i, isBv_b, eqCells_t, TT]
  refine call_fz [.c (roB l sp c)] (lent_spec l sp c (by omega)) (fun t h' h => lent_noRo h) ⟨.inl ⟨rfl, rfl⟩, trivial⟩ ?_
  rintro _ _ ⟨rfl, rfl⟩
  simp (maxSteps := 4000000) only [Try.results5, ids_bsC, ren_bsC, noRo_bsC, plain_bsC, lt_bsC, ids_byte, ren_byte, noRo_byte, plain_byte, lt_byte, XX, Nat.reduceBEq, Nat.reduceLT, Nat.reduceAdd, Nat.reduceMul, Nat.reduceSub, Nat.reduceLeDiff, Nat.reduceEqDiff, Int.reduceToNat, Int.reduceLT, Int.reduceLE, Int.reduceAdd, Int.reduceSub, Int.reduceEq, reduceIte, Nat.reduceBNe, Int.reducePow, Nat.reducePow, Int.reduceMul, Int.reduceNeg, isB_i, isB_b, isB_y, isBv_i, isBv_b, eqCells_t, TT]
  refine call_fz [.c (roB l' sp' c')] (lent_spec l' sp' c' (by omega)) (fun t h' h => lent_noRo h) ⟨.inl ⟨rfl, rfl⟩, trivial⟩ ?_
  rintro _ _ ⟨rfl, rfl⟩
  simp (maxSteps := 4000000) only [Try.results5, ids_bsC, ren_bsC, noRo_bsC, plain_bsC, lt_bsC, ids_byte, ren_byte, noRo_byte, plain_byte, lt_byte, XX, Nat.reduceBEq, Nat.reduceLT, Nat.reduceAdd, Nat.reduceMul, Nat.reduceSub, Nat.reduceLeDiff, Nat.reduceEqDiff, Int.reduceToNat, Int.reduceLT, Int.reduceLE, Int.reduceAdd, Int.reduceSub, Int.reduceEq, reduceIte, Nat.reduceBNe, Int.reducePow, Nat.reducePow, Int.reduceMul, Int.reduceNeg, isB_i, isB_b, isB_y, isBv_i, isBv_b, eqCells_t, TT]
  have hx : ∀ {r : Nat → Nat} {n : Nat} {h : List SB} {i : Nat}, h[i]? = some (wB true (l ++ [71, 72])) → frC true (fun _ => true) r n h (.sl i 0 l.length (l.length + 2)) (roB l [71, 72] (l.length + 2)) := fun hb => fz_sl hb rfl rfl
  have hy : ∀ {r : Nat → Nat} {n : Nat} {h : List SB} {i : Nat}, h[i]? = some (wB true (l' ++ [71, 72])) → frC true (fun _ => true) r n h (.sl i 0 l'.length (l'.length + 2)) (roB l' [71, 72] (l'.length + 2)) := fun hb => fz_sl hb rfl rfl
  refine call_fz [.c (roB l [71, 72] (l.length + 2))] hA (fun t h' h => resP_noRo h) ⟨fz_c (hx rfl), trivial⟩ ?_
  rintro _ _ ⟨z3, o3, rfl, rfl, ho3⟩
  simp (maxSteps := 4000000) only [Try.results5, ids_bsC, ren_bsC, noRo_bsC, plain_bsC, lt_bsC, ids_byte, ren_byte, noRo_byte, plain_byte, lt_byte, XX, Nat.reduceBEq, Nat.reduceLT, Nat.reduceAdd, Nat.reduceMul, Nat.reduceSub, Nat.reduceLeDiff, Nat.reduceEqDiff, Int.reduceToNat, Int.reduceLT, Int.reduceLE, Int.reduceAdd, Int.reduceSub, Int.reduceEq, reduceIte, Nat.reduceBNe, Int.reducePow, Nat.reducePow, Int.reduceMul, Int.reduceNeg, isB_i, isB_b, isB_y, isBv_i, isBv_b, eqCells_t, TT]
  refine call_fz [.c (roB l' [71, 72] (l'.length + 2))] hB (fun t h' h => resP_noRo h) ⟨fz_c (hy rfl), trivial⟩ ?_
  rintro _ _ ⟨z4, o4, rfl, rfl, ho4⟩
  simp (maxSteps := 4000000) only [Try.results5, ids_bsC, ren_bsC, noRo_bsC, plain_bsC, lt_bsC, ids_byte, ren_byte, noRo_byte, plain_byte, lt_byte, XX, Nat.reduceBEq, Nat.reduceLT, Nat.reduceAdd, Nat.reduceMul, Nat.reduceSub, Nat.reduceLeDiff, Nat.reduceEqDiff, Int.reduceToNat, Int.reduceLT, Int.reduceLE, Int.reduceAdd, Int.reduceSub, Int.reduceEq, reduceIte, Nat.reduceBNe, Int.reducePow, Nat.reducePow, Int.reduceMul, Int.reduceNeg, isB_i, isB_b, isB_y, isBv_i, isBv_b, eqCells_t, TT]
  refine call_fz [.c (roB l [71, 72] (l.length + 2))] hA (fun t h' h => resP_noRo h) ⟨fz_c (hx rfl), trivial⟩ ?_
  rintro _ _ ⟨z5, o5, rfl, rfl, ho5⟩
  simp (maxSteps := 4000000) only [Try.results5, ids_bsC, ren_bsC, noRo_bsC, plain_bsC, lt_bsC, ids_byte, ren_byte, noRo_byte, plain_byte, lt_byte, XX, Nat.reduceBEq, Nat.reduceLT, Nat.reduceAdd, Nat.reduceMul, Nat.reduceSub, Nat.reduceLeDiff, Nat.reduceEqDiff, Int.reduceToNat, Int.reduceLT, Int.reduceLE, Int.reduceAdd, Int.reduceSub, Int.reduceEq, reduceIte, Nat.reduceBNe, Int.reducePow, Nat.reducePow, Int.reduceMul, Int.reduceNeg, isB_i, isB_b, isB_y, isBv_i, isBv_b, eqCells_t, TT]
  refine call_frame (asLent_spec l sp c (by omega)) [4] rfl rfl ?_ rfl ?_ ?_
  · simp only [XX, Nat.reduceBEq, Nat.reduceLT, Nat.reduceAdd, Nat.reduceMul, Nat.reduceSub, Nat.reduceLeDiff, Nat.reduceEqDiff, Int.reduceToNat, Int.reduceLT, Int.reduceLE, Int.reduceAdd, Int.reduceSub, Int.reduceEq, reduceIte, Nat.reduceBNe, Int.reducePow, Nat.reducePow, Int.reduceMul, Int.reduceNeg, isB_i, isB_b, isB_y, isBv_i, isBv_b, eqCells_t, TT, preOk, ids_bsC, ren_bsC, noRo_bsC, plain_bsC, lt_bsC, ids_byte, ren_byte, noRo_byte, plain_byte, lt_byte]
  · simp only [XX, Nat.reduceBEq, Nat.reduceLT, Nat.reduceAdd, Nat.reduceMul, Nat.reduceSub, Nat.reduceLeDiff, Nat.reduceEqDiff, Int.reduceToNat, Int.reduceLT, Int.reduceLE, Int.reduceAdd, Int.reduceSub, Int.reduceEq, reduceIte, Nat.reduceBNe, Int.reducePow, Nat.reducePow, Int.reduceMul, Int.reduceNeg, isB_i, isB_b, isB_y, isBv_i, isBv_b, eqCells_t, TT, ids_bsC, ren_bsC, noRo_bsC, plain_bsC, lt_bsC, ids_byte, ren_byte, noRo_byte, plain_byte, lt_byte]
  rintro _ _ ⟨rfl, rfl⟩
  simp (maxSteps := 4000000) only [Try.results5, ids_bsC, ren_bsC, noRo_bsC, plain_bsC, lt_bsC, ids_byte, ren_byte, noRo_byte, plain_byte, lt_byte, XX, Nat.reduceBEq, Nat.reduceLT, Nat.reduceAdd, Nat.reduceMul, Nat.reduceSub, Nat.reduceLeDiff, Nat.reduceEqDiff, Int.reduceToNat, Int.reduceLT, Int.reduceLE, Int.reduceAdd, Int.reduceSub, Int.reduceEq, reduceIte, Nat.reduceBNe, Int.reducePow, Nat.reducePow, Int.reduceMul, Int.reduceNeg, isB_i, isB_b, isB_y, isBv_i, isBv_b, eqCells_t, TT]
  refine call_frame (asLent_spec l' sp' c' (by omega)) [5] rfl rfl ?_ rfl ?_ ?_
  · simp only [XX, Nat.reduceBEq, Nat.reduceLT, Nat.reduceAdd, Nat.reduceMul, Nat.reduceSub, Nat.reduceLeDiff, Nat.reduceEqDiff, Int.reduceToNat, Int.reduceLT, Int.reduceLE, Int.reduceAdd, Int.reduceSub, Int.reduceEq, reduceIte, Nat.reduceBNe, Int.reducePow, Nat.reducePow, Int.reduceMul, Int.reduceNeg, isB_i, isB_b, isB_y, isBv_i, isBv_b, eqCells_t, TT, preOk, ids_bsC, ren_bsC, noRo_bsC, plain_bsC, lt_bsC, ids_byte, ren_byte, noRo_byte, plain_byte, lt_byte]
  · simp only [XX, Nat.reduceBEq, Nat.reduceLT, Nat.reduceAdd, Nat.reduceMul, Nat.reduceSub, Nat.reduceLeDiff, Nat.reduceEqDiff, Int.reduceToNat, Int.reduceLT, Int.reduceLE, Int.reduceAdd, Int.reduceSub, Int.reduceEq, reduceIte, Nat.reduceBNe, Int.reducePow, Nat.reducePow, Int.reduceMul, Int.reduceNeg, isB_i, isB_b, isB_y, isBv_i, isBv_b, eqCells_t, TT, ids_bsC, ren_bsC, noRo_bsC, plain_bsC, lt_bsC, ids_byte, ren_byte, noRo_byte, plain_byte, lt_byte]
  rintro _ _ ⟨rfl, rfl⟩
  have tk : ∀ a b : List UInt8, (bsC (a ++ b)).take a.length = bsC a := fun a b => by rw [bs_take, List.take_left' rfl]
  simp (maxSteps := 4000000) only [Try.results5, ids_bsC, ren_bsC, noRo_bsC, plain_bsC, lt_bsC, ids_byte, ren_byte, noRo_byte, plain_byte, lt_byte, tk, strOf_bsC, str_eq, XX, Nat.reduceBEq, Nat.reduceLT, Nat.reduceAdd, Nat.reduceMul, Nat.reduceSub, Nat.reduceLeDiff, Nat.reduceEqDiff, Int.reduceToNat, Int.reduceLT, Int.reduceLE, Int.reduceAdd, Int.reduceSub, Int.reduceEq, reduceIte, Nat.reduceBNe, Int.reducePow, Nat.reducePow, Int.reduceMul, Int.reduceNeg, isB_i, isB_b, isB_y, isBv_i, isBv_b, eqCells_t, TT]
  have q : ∀ a b : List UInt8, a.length ≤ (bsC (a ++ b)).length ∧ ∀ c ∈ bsC a, isByte c = true := fun a b => ⟨by simp, isByte_bsC a⟩
  refine ⟨q _ _, q _ _, q _ _, q _ _, q _ _, q _ _, ?_⟩
  generalize hhp : ([_, _, _, _, _, _, _, _, _, _, _, _, _] : List SB) = hp
  have w1 : hp[6]? = some (wB o3 (L ++ z3)) := by rw [← hhp]; rfl
  have w2 : hp[8]? = some (wB o4 (L' ++ z4)) := by rw [← hhp]; rfl
  have w3 : hp[10]? = some (wB o5 (L ++ z5)) := by rw [← hhp]; rfl
  have wb : hp[12]? = some (bookB nilC nilC) := by rw [← hhp]; rfl
  clear hhp
  refine call_is (take0_spec hp 12 6 L z3 o3 _ (by omega) wb w1) ?_
  rintro _ h1 ⟨rfl, iL, cL, iW, cW, B1, b1, l1, m1⟩
  simp (maxSteps := 4000000) only [Try.results5, XX, Nat.reduceBEq, Nat.reduceLT, Nat.reduceAdd, Nat.reduceMul, Nat.reduceSub, Nat.reduceLeDiff, Nat.reduceEqDiff, Int.reduceToNat, Int.reduceLT, Int.reduceLE, Int.reduceAdd, Int.reduceSub, Int.reduceEq, reduceIte, Nat.reduceBNe, Int.reducePow, Nat.reducePow, Int.reduceMul, Int.reduceNeg, isB_i, isB_b, isB_y, isBv_i, isBv_b, eqCells_t, TT]
  have lt9 := lt_of w2
  have lt10 := lt_of w3
  refine call_is (take_spec h1 12 8 _ _ _ _ _ _ L' z4 o4 _ (by omega) B1 (by simp) ((b1.2 8 lt9 (by decide)).trans w2)) ?_
  rintro _ h2 ⟨rfl, iL2, cL2, iW2, cW2, B2, b2, l2, m2⟩
  simp (maxSteps := 4000000) only [Try.results5, XX, Nat.reduceBEq, Nat.reduceLT, Nat.reduceAdd, Nat.reduceMul, Nat.reduceSub, Nat.reduceLeDiff, Nat.reduceEqDiff, Int.reduceToNat, Int.reduceLT, Int.reduceLE, Int.reduceAdd, Int.reduceSub, Int.reduceEq, reduceIte, Nat.reduceBNe, Int.reducePow, Nat.reducePow, Int.reduceMul, Int.reduceNeg, isB_i, isB_b, isB_y, isBv_i, isBv_b, eqCells_t, TT]
  refine call_is (take_spec h2 12 10 _ _ _ _ _ _ L z5 o5 _ (by omega) B2 (by simp) (((b2.2 10 (by have := b1.1; omega) (by rintro (h | h | h) <;> omega)).trans (b1.2 10 lt10 (by decide))).trans w3)) ?_
  rintro _ h3 ⟨rfl, iL3, cL3, iW3, cW3, B3, b3, l3, m3⟩
  simp (maxSteps := 4000000) only [Try.results5, XX, Nat.reduceBEq, Nat.reduceLT, Nat.reduceAdd, Nat.reduceMul, Nat.reduceSub, Nat.reduceLeDiff, Nat.reduceEqDiff, Int.reduceToNat, Int.reduceLT, Int.reduceLE, Int.reduceAdd, Int.reduceSub, Int.reduceEq, reduceIte, Nat.reduceBNe, Int.reducePow, Nat.reducePow, Int.reduceMul, Int.reduceNeg, isB_i, isB_b, isB_y, isBv_i, isBv_b, eqCells_t, TT]
  refine call_is (owned_spec h3 12 [⟨6, L, z3, o3⟩, ⟨8, L', z4, o4⟩, ⟨10, L, z5, o5⟩] iL3 cL3 iW3 cW3 B3 (owns3 (lt_of wb) b1 l1 m1 b2 l2 m2 b3 w1 w2 w3 (by decide) (by decide) (by decide) ho3 ho4 ho5 (by omega) (by omega) (by omega) (by decide) (by decide) (by decide)) (by simp)) ?_
  rintro _ _ rfl
  simp (maxSteps := 4000000) only [Try.results5, XX, Nat.reduceBEq, Nat.reduceLT, Nat.reduceAdd, Nat.reduceMul, Nat.reduceSub, Nat.reduceLeDiff, Nat.reduceEqDiff, Int.reduceToNat, Int.reduceLT, Int.reduceLE, Int.reduceAdd, Int.reduceSub, Int.reduceEq, reduceIte, Nat.reduceBNe, Int.reducePow, Nat.reducePow, Int.reduceMul, Int.reduceNeg, isB_i, isB_b, isB_y, isBv_i, isBv_b, eqCells_t, TT]

end Go.Proofs.Ytipbnhgeanlkeaa.Sx
