/- The symbolic executor, at work: parts that are whole are one, as a law. No condition. -/
import Derived.Test.YtflccffjfnfoiaaOpQ
import Derived.Test.YtflccffjfnfoiaaOpS
namespace Go.Proofs.Ytflccffjfnfoiaa.Sx
open Go
set_option linter.unusedSimpArgs false
set_option linter.unusedVariables false
set_option maxRecDepth 10000
set_option maxHeartbeats 2000000

theorem optionParts_walk : ∀ css, RTyL (RTy T reachBytes DEPTH) [25, 25, 25] css → (css.map rcSizeL).sum ≤ 1048576 → Spec Try.prog 9 (svs T [25, 25, 25] css) [] fun r _ => r = .c (.v (.bool true)) := by
  intro css h hM
  obtain ⟨x1, xs1, rfl, h1, g1⟩ := RTyL_cons h
  obtain ⟨x2, xs2, rfl, h2, g2⟩ := RTyL_cons g1
  obtain ⟨x3, xs3, rfl, h3, g3⟩ := RTyL_cons g2
  obtain rfl := RTyL_nil g3
  obtain ⟨a, sa, ca, rfl, a1, a2, a3, a4⟩ := RTy_bytes h1
  obtain ⟨b, sb, cb, rfl, b1, b2, b3, b4⟩ := RTy_bytes h2
  obtain ⟨l, sl, cl, rfl, l1, l2, l3, l4⟩ := RTy_bytes h3
  simp only [List.map_cons, List.map_nil, List.sum_cons, List.sum_nil] at hM
  have e1 : ∀ (l sp : List UInt8) (c : Nat), svOf T 25 [.sl (bsR (l ++ sp)) l.length c] = .c (roB l sp c) := fun _ _ _ => rfl
  simp only [svs, e1]
  clear h1 h2 h3 g1 g2 g3 h e1
  unfold reachBytes at a4 b4 l4
  have hsum : a.length + b.length + l.length ≤ 1048576 := by
    have r1 := length_le_rcSizeL (bsR (a ++ sa))
    have r2 := length_le_rcSizeL (bsR (b ++ sb))
    have r3 := length_le_rcSizeL (bsR (l ++ sl))
    simp only [rcSizeL, rcSize, List.length_map, List.length_append] at hM r1 r2 r3
    omega
  have oa := open_spec a sa ca a1 (by omega)
  have ob := open_spec b sb cb b1 (by omega)
  refine spec_of_X cx_ok Try.func9 rfl (by kernel_rfl) (by kernel_rfl) (Nat.le_of_ble_eq_true rfl) 400 16 ?_
  simp (maxSteps := 4000000) only [Try.results9, XX, Nat.reduceBEq, Nat.reduceLT, Nat.reduceAdd, Nat.reduceMul, Nat.reduceSub, Nat.reduceLeDiff, Nat.reduceEqDiff, Int.reduceToNat, Int.reduceLT, Int.reduceLE, Int.reduceAdd, Int.reduceSub, Int.reduceEq, reduceIte, Nat.reduceBNe, Int.reducePow, Nat.reducePow, Int.reduceMul, Int.reduceNeg, isB_i, isB_b, isB_y, isBv_i, isBv_b, eqCells_t, TT]
  refine call_pureF [] (K := fun s => s = .c (bC true)) awake_spec trivial ?_
  rintro _ rfl
  simp (maxSteps := 4000000) only [Try.results9, XX, Nat.reduceBEq, Nat.reduceLT, Nat.reduceAdd, Nat.reduceMul, Nat.reduceSub, Nat.reduceLeDiff, Nat.reduceEqDiff, Int.reduceToNat, Int.reduceLT, Int.reduceLE, Int.reduceAdd, Int.reduceSub, Int.reduceEq, reduceIte, Nat.reduceBNe, Int.reducePow, Nat.reducePow, Int.reduceMul, Int.reduceNeg, isB_i, isB_b, isB_y, isBv_i, isBv_b, eqCells_t, TT]
  refine call_pureF [.c (roB a sa ca)] oa ⟨.inl ⟨rfl, rfl⟩, trivial⟩ ?_
  rintro _ rfl
  simp (maxSteps := 4000000) only [Try.results9, XX, Nat.reduceBEq, Nat.reduceLT, Nat.reduceAdd, Nat.reduceMul, Nat.reduceSub, Nat.reduceLeDiff, Nat.reduceEqDiff, Int.reduceToNat, Int.reduceLT, Int.reduceLE, Int.reduceAdd, Int.reduceSub, Int.reduceEq, reduceIte, Nat.reduceBNe, Int.reducePow, Nat.reducePow, Int.reduceMul, Int.reduceNeg, isB_i, isB_b, isB_y, isBv_i, isBv_b, eqCells_t, TT]
  refine call_pureF [.c (roB b sb cb)] ob ⟨.inl ⟨rfl, rfl⟩, trivial⟩ ?_
  rintro _ rfl
  cases ha : openF a with
  | false =>
    simp (maxSteps := 4000000) only [Try.results9, XX, Nat.reduceBEq, Nat.reduceLT, Nat.reduceAdd, Nat.reduceMul, Nat.reduceSub, Nat.reduceLeDiff, Nat.reduceEqDiff, Int.reduceToNat, Int.reduceLT, Int.reduceLE, Int.reduceAdd, Int.reduceSub, Int.reduceEq, reduceIte, Nat.reduceBNe, Int.reducePow, Nat.reducePow, Int.reduceMul, Int.reduceNeg, isB_i, isB_b, isB_y, isBv_i, isBv_b, eqCells_t, TT]
  | true =>
    cases hb : openF b with
    | false =>
      simp (maxSteps := 4000000) only [Try.results9, XX, Nat.reduceBEq, Nat.reduceLT, Nat.reduceAdd, Nat.reduceMul, Nat.reduceSub, Nat.reduceLeDiff, Nat.reduceEqDiff, Int.reduceToNat, Int.reduceLT, Int.reduceLE, Int.reduceAdd, Int.reduceSub, Int.reduceEq, reduceIte, Nat.reduceBNe, Int.reducePow, Nat.reducePow, Int.reduceMul, Int.reduceNeg, isB_i, isB_b, isB_y, isBv_i, isBv_b, eqCells_t, TT]
    | true =>
      have ta : (bsR (a ++ sa)).take a.length = bsR a := by rw [rs_take, List.take_left' rfl]
      have tb : (bsR (b ++ sb)).take b.length = bsR b := by rw [rs_take, List.take_left' rfl]
      have tl : (bsR (l ++ sl)).take l.length = bsR l := by rw [rs_take, List.take_left' rfl]
      have pp := parse_spec [(a, sa, ca), (b, sb, cb), (l, sl, cl)] [] 3 (by intro p hp; simp only [List.mem_cons, List.not_mem_nil, or_false] at hp; rcases hp with rfl | rfl | rfl <;> exact ⟨by assumption, by dsimp only; omega⟩) (by simp) (by simp [lenP]; omega)
      rw [show bytesP [(a, sa, ca), (b, sb, cb), (l, sl, cl)] = [a, b, l] from rfl, parts_one ha hb] at pp
      simp (maxSteps := 4000000) only [Try.results9, ta, tb, tl, bsR_toSC, rep_flat, XX, Nat.reduceBEq, Nat.reduceLT, Nat.reduceAdd, Nat.reduceMul, Nat.reduceSub, Nat.reduceLeDiff, Nat.reduceEqDiff, Int.reduceToNat, Int.reduceLT, Int.reduceLE, Int.reduceAdd, Int.reduceSub, Int.reduceEq, reduceIte, Nat.reduceBNe, Int.reducePow, Nat.reducePow, Int.reduceMul, Int.reduceNeg, isB_i, isB_b, isB_y, isBv_i, isBv_b, eqCells_t, TT]
      refine ⟨⟨⟨by omega, by unfold maxLen; omega⟩, by simp⟩, xapp_nilB rfl rfl fun j o0 ho0 => ?_⟩
      have B0 : Buf [wB o0 (a ++ List.replicate j 0)] 0 o0 a (List.replicate j 0) := ⟨rfl, ho0⟩
      refine gen_hp (fun H => Buf H 0 o0 a (List.replicate j 0)) B0 ?_
      clear B0
      rintro H B0
      have hB := B0.at_
      have lB := lt_of hB
      simp (maxSteps := 4000000) only [Try.results9, ta, tb, tl, bsR_toSC, rep_flat, hB, lB, bsC_len, List.append_assoc, List.getElem?_append_left, List.getElem?_append_right, List.length_append, List.length_set, List.set_append_left, gset, List.getElem?_set_ne, Nat.add_sub_cancel_left, Nat.sub_self, Nat.le_refl, Nat.le_add_right, List.replicate_one, List.flatten_cons, List.flatten_nil, rep_flat, XX, Nat.reduceBEq, Nat.reduceLT, Nat.reduceAdd, Nat.reduceMul, Nat.reduceSub, Nat.reduceLeDiff, Nat.reduceEqDiff, Int.reduceToNat, Int.reduceLT, Int.reduceLE, Int.reduceAdd, Int.reduceSub, Int.reduceEq, reduceIte, Nat.reduceBNe, Int.reducePow, Nat.reducePow, Int.reduceMul, Int.reduceNeg, isB_i, isB_b, isB_y, isBv_i, isBv_b, eqCells_t, TT]
      refine ⟨⟨⟨by omega, by unfold maxLen; omega, fun h => ⟨by rcases Nat.eq_zero_or_pos b.length with h0 | h0; exact .inl h0; exact .inr (B0.own (by rw [List.length_replicate] at h ⊢; omega)), h⟩⟩, by simp⟩, xapp_any B0 rfl rfl rfl rfl fun H1 w1 sp1 o1 B1 g1 g2 g3 => ?_⟩
      clear B0 hB lB g1 g2 g3
      have lab : (a ++ b).length = a.length + b.length := List.length_append
      generalize a ++ b = ab at *
      have hB := B1.at_
      have lB := lt_of hB
      simp (maxSteps := 4000000) only [Try.results9, ta, tb, tl, bsR_toSC, rep_flat, hB, lB, bsC_len, List.append_assoc, List.getElem?_append_left, List.getElem?_append_right, List.length_append, List.length_set, List.set_append_left, gset, List.getElem?_set_ne, Nat.add_sub_cancel_left, Nat.sub_self, Nat.le_refl, Nat.le_add_right, List.replicate_one, List.flatten_cons, List.flatten_nil, rep_flat, XX, Nat.reduceBEq, Nat.reduceLT, Nat.reduceAdd, Nat.reduceMul, Nat.reduceSub, Nat.reduceLeDiff, Nat.reduceEqDiff, Int.reduceToNat, Int.reduceLT, Int.reduceLE, Int.reduceAdd, Int.reduceSub, Int.reduceEq, reduceIte, Nat.reduceBNe, Int.reducePow, Nat.reducePow, Int.reduceMul, Int.reduceNeg, isB_i, isB_b, isB_y, isBv_i, isBv_b, eqCells_t, TT]
      refine ⟨⟨⟨by omega, by unfold maxLen; omega, fun h => ⟨by rcases Nat.eq_zero_or_pos l.length with h0 | h0; exact .inl h0; exact .inr (B1.own (by omega)), h⟩⟩, by simp⟩, xapp_any B1 rfl rfl rfl rfl fun H2 w2 sp2 o2 B2 g1 g2 g3 => ?_⟩
      clear B1 hB lB g1 g2 g3
      have hB := B2.at_
      have lB := lt_of hB
      have lall : (ab ++ l).length = a.length + b.length + l.length := by rw [List.length_append, lab]
      generalize ab ++ l = all at *
      simp (maxSteps := 4000000) only [Try.results9, List.flatten_cons, List.flatten_nil, List.cons_append, List.nil_append, List.append_nil, List.replicate_succ, List.replicate_zero, List.drop_succ_cons, List.drop_zero, List.length_cons, List.length_nil, Nat.reduceAdd, Nat.reduceLeDiff, reduceIte, ids_bsC, ren_bsC, noRo_bsC, plain_bsC, lt_bsC, ids_byte, ren_byte, noRo_byte, plain_byte, lt_byte, setR, List.set_cons_zero, List.set_cons_succ, List.append_assoc, List.getElem?_append_left, List.getElem?_append_right, List.length_append, List.length_set, List.set_append_left, gset, List.getElem?_set_ne, Nat.add_sub_cancel_left, Nat.sub_self, Nat.le_refl, Nat.le_add_right, List.replicate_one, List.flatten_cons, List.flatten_nil, rep_flat, XX, Nat.reduceBEq, Nat.reduceLT, Nat.reduceAdd, Nat.reduceMul, Nat.reduceSub, Nat.reduceLeDiff, Nat.reduceEqDiff, Int.reduceToNat, Int.reduceLT, Int.reduceLE, Int.reduceAdd, Int.reduceSub, Int.reduceEq, reduceIte, Nat.reduceBNe, Int.reducePow, Nat.reducePow, Int.reduceMul, Int.reduceNeg, isB_i, isB_b, isB_y, isBv_i, isBv_b, eqCells_t, TT]
      have u1 : (H2 ++ [⟨true, 25, [roB a sa ca, roB b sb cb, roB l sl cl]⟩])[H2.length]? = some ⟨true, 25, [roB a sa ca, roB b sb cb, roB l sl cl]⟩ := by rw [List.getElem?_append_right (Nat.le_refl _), Nat.sub_self]; rfl
      have p2 := parse_spec [(all, sp2, all.length + sp2.length)] [] 1 (by intro p hp; obtain rfl := List.mem_singleton.1 hp; exact ⟨Nat.le_add_right _ _, by show all.length ≤ _; omega⟩) (by simp) (by simp [lenP]; omega)
      rw [show bytesP [(all, sp2, all.length + sp2.length)] = [all] from rfl] at p2
      generalize hX : parseA [all] [] = X at *
      refine call_opts [.c (partsV [(a, sa, ca), (b, sb, cb), (l, sl, cl)] [] 3)] pp ⟨fzO_rows u1 rfl ⟨frO_ro, frO_ro, frO_ro, trivial⟩, trivial⟩ ?_
      rintro t oo es r O hw hpi
      obtain ⟨g1, g3, g5⟩ := parL_ok (N := 1048576) hX hpi (by simp; omega)
      refine gen_hp (fun G => Opts G (H2 ++ [(⟨true, 25, [roB a sa ca, roB b sb cb, roB l sl cl]⟩ : SB)]).length oo es r ∧ G[w2]? = some (wB o2 (all ++ sp2))) ⟨O, by rw [List.append_assoc, List.getElem?_append_left lB]; exact hB⟩ ?_
      clear O hw u1
      rintro G ⟨O, hG⟩
      generalize (H2 ++ [(⟨true, 25, [roB a sa ca, roB b sb cb, roB l sl cl]⟩ : SB)]).length = iM at *
      have lG := lt_of hG
      simp (maxSteps := 4000000) only [Try.results9, hG, lG, List.flatten_cons, List.flatten_nil, List.cons_append, List.nil_append, List.append_nil, List.replicate_succ, List.replicate_zero, List.drop_succ_cons, List.drop_zero, List.length_cons, List.length_nil, Nat.reduceAdd, Nat.reduceLeDiff, reduceIte, ids_bsC, ren_bsC, noRo_bsC, plain_bsC, lt_bsC, ids_byte, ren_byte, noRo_byte, plain_byte, lt_byte, setR, List.set_cons_zero, List.set_cons_succ, List.append_assoc, List.getElem?_append_left, List.getElem?_append_right, List.length_append, List.length_set, List.set_append_left, gset, List.getElem?_set_ne, Nat.add_sub_cancel_left, Nat.sub_self, Nat.le_refl, Nat.le_add_right, List.replicate_one, List.flatten_cons, List.flatten_nil, rep_flat, XX, Nat.reduceBEq, Nat.reduceLT, Nat.reduceAdd, Nat.reduceMul, Nat.reduceSub, Nat.reduceLeDiff, Nat.reduceEqDiff, Int.reduceToNat, Int.reduceLT, Int.reduceLE, Int.reduceAdd, Int.reduceSub, Int.reduceEq, reduceIte, Nat.reduceBNe, Int.reducePow, Nat.reducePow, Int.reduceMul, Int.reduceNeg, isB_i, isB_b, isB_y, isBv_i, isBv_b, eqCells_t, TT]
      have u1 : (G ++ [⟨true, 25, [slB w2 all sp2]⟩])[G.length]? = some ⟨true, 25, [slB w2 all sp2]⟩ := by rw [List.getElem?_append_right (Nat.le_refl _), Nat.sub_self]; rfl
      have u0 : (G ++ [⟨true, 25, [slB w2 all sp2]⟩])[w2]? = some (wB o2 (all ++ sp2)) := by rw [List.getElem?_append_left lG]; exact hG
      refine call_opts [.c (partsV [(all, sp2, all.length + sp2.length)] [] 1)] p2 ⟨fzO_rows u1 rfl ⟨frO_buf u0 B2.own, trivial⟩, trivial⟩ ?_
      rintro t2 o3 fs r2 O2 hw2 hpi2
      obtain ⟨f1, f3, f5⟩ := parL_ok (N := 1048576) hX hpi2 (by simp; omega)
      refine gen_hp (fun F => Opts F iM oo es r ∧ Opts F (G ++ [(⟨true, 25, [slB w2 all sp2]⟩ : SB)]).length o3 fs r2) ⟨(O.app _).app _, O2⟩ ?_
      clear O2 hw2 u0 u1
      rintro F ⟨O1, O2⟩
      generalize (G ++ [(⟨true, 25, [slB w2 all sp2]⟩ : SB)]).length = iK at *
      simp (maxSteps := 4000000) only [Try.results9, XX, Nat.reduceBEq, Nat.reduceLT, Nat.reduceAdd, Nat.reduceMul, Nat.reduceSub, Nat.reduceLeDiff, Nat.reduceEqDiff, Int.reduceToNat, Int.reduceLT, Int.reduceLE, Int.reduceAdd, Int.reduceSub, Int.reduceEq, reduceIte, Nat.reduceBNe, Int.reducePow, Nat.reducePow, Int.reduceMul, Int.reduceNeg, isB_i, isB_b, isB_y, isBv_i, isBv_b, eqCells_t, TT]
      refine call_same (xs := es.map PE.oi) (sp := []) (ys := fs.map PE.oi) (sp' := []) (c := es.length + r) (c' := fs.length + r2) (O1.oks fun e he => by have := g1 e he; exact ⟨by omega, by omega, by omega⟩) (O2.oks fun e he => by have := f1 e he; exact ⟨by omega, by omega, by omega⟩) (by omega) (by omega) O1.fz O2.fz ?_
      rw [decide_eq_true (g5.trans f5.symm)]
      have dX : decide (parE X = parE X) = true := by simp
      simp (maxSteps := 4000000) only [Try.results9, dX, XX, Nat.reduceBEq, Nat.reduceLT, Nat.reduceAdd, Nat.reduceMul, Nat.reduceSub, Nat.reduceLeDiff, Nat.reduceEqDiff, Int.reduceToNat, Int.reduceLT, Int.reduceLE, Int.reduceAdd, Int.reduceSub, Int.reduceEq, reduceIte, Nat.reduceBNe, Int.reducePow, Nat.reducePow, Int.reduceMul, Int.reduceNeg, isB_i, isB_b, isB_y, isBv_i, isBv_b, eqCells_t, TT]
end Go.Proofs.Ytflccffjfnfoiaa.Sx
