/- The symbolic executor, at work: options there and back, as a law. No condition. -/
import Derived.Test.YtflccffjfnfoiaaOpS
namespace Go.Proofs.Ytflccffjfnfoiaa.Sx
open Go
set_option linter.unusedSimpArgs false
set_option linter.unusedVariables false
set_option maxRecDepth 10000
set_option maxHeartbeats 2000000

theorem optionBack_walk : ∀ css, RTyL (RTy T reachBytes DEPTH) [24, 3, 25, 32] css → (css.map rcSizeL).sum ≤ 1048576 → Spec Try.prog 8 (svs T [24, 3, 25, 32] css) [] fun r _ => r = .c (.v (.bool true)) := by
  intro css h hM
  obtain ⟨x1, xs1, rfl, h1, g1⟩ := RTyL_cons h
  obtain ⟨x2, xs2, rfl, h2, g2⟩ := RTyL_cons g1
  obtain ⟨x3, xs3, rfl, h3, g3⟩ := RTyL_cons g2
  obtain ⟨x4, xs4, rfl, h4, g4⟩ := RTyL_cons g3
  obtain rfl := RTyL_nil g4
  obtain ⟨xs, sp, c, rfl, hok, hn⟩ := RTy_opts (n := 3) h1
  obtain ⟨room, rfl, hroom⟩ := RTy_int T_3 h2
  obtain ⟨b, sb, cb, rfl, b1, b2, b3, b4⟩ := RTy_bytes h3
  obtain ⟨ps, rs, cp, rfl, hps, hpn⟩ := RTy_parts (n := 5) h4
  have t1 := tot_size_app xs sp
  have t2 := lenP_size ps rs
  have t3 := length_le_rcSizeL (bsR (b ++ sb))
  simp only [List.map_cons, List.map_nil, List.sum_cons, List.sum_nil, rcSizeL, rcSize, List.length_map, List.length_append] at hM t3
  have tx : totO xs ≤ 1048576 := by omega
  have tp : lenP ps + ps.length ≤ 1048576 := by omega
  have tb : b.length ≤ 1048576 := by omega
  have e1 : ∀ a : Int, svOf T 3 [.v (.int .i64 a)] = .c (i64 a) := fun _ => rfl
  have e2 : svOf T 25 [.sl (bsR (b ++ sb)) b.length cb] = .c (roB b sb cb) := rfl
  have e3 : svOf T 24 [.sl (osR (xs ++ sp)) xs.length c] = .c (roO xs sp c) := rfl
  have e4 : svOf T 32 [.sl (ps.map partO ++ rs) ps.length cp] = .c (partsV ps rs cp) := rfl
  simp only [svs, e1, e2, e3, e4]
  clear h1 h2 h3 h4 g1 g2 g3 g4 h e1 e2 e3 e4 hM t1 t2 t3 hroom
  have by1 := beyond_spec ps rs cp hps hpn
  rw [decide_eq_false (by omega)] at by1
  have p1 := pack_spec xs sp c hok (by omega) room
  have qp := parse_spec ps rs cp hps (by omega) (by omega)
  generalize hx : parseA (bytesP ps) [] = X at qp
  refine spec_of_X cx_ok Try.func8 rfl (by kernel_rfl) (by kernel_rfl) (Nat.le_of_ble_eq_true rfl) 400 24 ?_
  simp (maxSteps := 4000000) only [Try.results8, XX, Nat.reduceBEq, Nat.reduceLT, Nat.reduceAdd, Nat.reduceMul, Nat.reduceSub, Nat.reduceLeDiff, Nat.reduceEqDiff, Int.reduceToNat, Int.reduceLT, Int.reduceLE, Int.reduceAdd, Int.reduceSub, Int.reduceEq, reduceIte, Nat.reduceBNe, Int.reducePow, Nat.reducePow, Int.reduceMul, Int.reduceNeg, isB_i, isB_b, isB_y, isBv_i, isBv_b, eqCells_t, TT]
  refine call_pureF [] (K := fun s => s = .c (bC true)) awake_spec trivial ?_
  rintro _ rfl
  simp (maxSteps := 4000000) only [Try.results8, XX, Nat.reduceBEq, Nat.reduceLT, Nat.reduceAdd, Nat.reduceMul, Nat.reduceSub, Nat.reduceLeDiff, Nat.reduceEqDiff, Int.reduceToNat, Int.reduceLT, Int.reduceLE, Int.reduceAdd, Int.reduceSub, Int.reduceEq, reduceIte, Nat.reduceBNe, Int.reducePow, Nat.reducePow, Int.reduceMul, Int.reduceNeg, isB_i, isB_b, isB_y, isBv_i, isBv_b, eqCells_t, TT]
  refine call_pureF [.c (partsV ps rs cp)] by1 ⟨.inl ⟨rfl, rfl⟩, trivial⟩ ?_
  rintro _ rfl
  simp (maxSteps := 4000000) only [Try.results8, XX, Nat.reduceBEq, Nat.reduceLT, Nat.reduceAdd, Nat.reduceMul, Nat.reduceSub, Nat.reduceLeDiff, Nat.reduceEqDiff, Int.reduceToNat, Int.reduceLT, Int.reduceLE, Int.reduceAdd, Int.reduceSub, Int.reduceEq, reduceIte, Nat.reduceBNe, Int.reducePow, Nat.reducePow, Int.reduceMul, Int.reduceNeg, isB_i, isB_b, isB_y, isBv_i, isBv_b, eqCells_t, TT]
  refine call_fz [.c (roO xs sp c), .c (i64 room)] p1 (fun t h' h => resB_noRo h) ⟨.inl ⟨rfl, rfl⟩, .inl ⟨rfl, rfl⟩, trivial⟩ ?_
  rintro _ _ ⟨z0, o0, rfl, rfl, ho0⟩
  by_cases hb : Bad xs
  · rw [packF_bad hb]
    simp (maxSteps := 4000000) only [Try.results8, ids_bsC, ren_bsC, noRo_bsC, plain_bsC, lt_bsC, ids_byte, ren_byte, noRo_byte, plain_byte, lt_byte, XX, Nat.reduceBEq, Nat.reduceLT, Nat.reduceAdd, Nat.reduceMul, Nat.reduceSub, Nat.reduceLeDiff, Nat.reduceEqDiff, Int.reduceToNat, Int.reduceLT, Int.reduceLE, Int.reduceAdd, Int.reduceSub, Int.reduceEq, reduceIte, Nat.reduceBNe, Int.reducePow, Nat.reducePow, Int.reduceMul, Int.reduceNeg, isB_i, isB_b, isB_y, isBv_i, isBv_b, eqCells_t, TT]
    refine gen_hp (fun _ => True) trivial ?_
    rintro H0 -
    refine call_opts [.c (partsV ps rs cp)] qp ⟨.inl ⟨rfl, rfl⟩, trivial⟩ ?_
    rintro t o es r O hw hpi
    cases X with
    | error e =>
      obtain rfl : es = [] := List.map_eq_nil_iff.1 hpi
      have de : decide (e = 0) = false := by rcases parseA_err _ _ _ hx with rfl | rfl <;> rfl
      simp (maxSteps := 4000000) only [Try.results8, parE, de, List.length_nil, XX, Nat.reduceBEq, Nat.reduceLT, Nat.reduceAdd, Nat.reduceMul, Nat.reduceSub, Nat.reduceLeDiff, Nat.reduceEqDiff, Int.reduceToNat, Int.reduceLT, Int.reduceLE, Int.reduceAdd, Int.reduceSub, Int.reduceEq, reduceIte, Nat.reduceBNe, Int.reducePow, Nat.reducePow, Int.reduceMul, Int.reduceNeg, isB_i, isB_b, isB_y, isBv_i, isBv_b, eqCells_t, TT]
    | ok is =>
      obtain ⟨G, hs⟩ := parseA_good _ _ _ goodP_nil hx
      rw [sum_bytesP] at hs
      obtain ⟨g1, g2, g3, g4, g5⟩ := opts_good (N := 1048576) (show es.map PE.pi = is from hpi) G (by simp only [List.map_nil, List.sum_nil] at hs; omega)
      refine gen_hp (fun H => Opts H H0.length o es r) O ?_
      clear O hw
      rintro H O
      generalize H0.length = iM at *
      have hoe := O.oks fun e he => by have := g1 e he; exact ⟨by omega, by omega, by omega⟩
      have pk := pack_spec (es.map PE.oi) [] (es.length + r) hoe (by omega) 1099511627776
      have zz := szO_le (es.map PE.oi)
      rw [packF_ok g2 (by omega) (by omega)] at pk
      dsimp only at pk
      have lE := encAll_len (es.map PE.oi)
      have pp := pack_parse g2 (by omega) []
      rw [List.append_nil] at pp
      obtain ⟨L, hL⟩ : ∃ L, L = encAll (es.map PE.oi) ++ [255] := ⟨_, rfl⟩
      rw [← hL] at pk pp
      have lL : L.length = szO (es.map PE.oi) + 1 := by rw [hL, List.length_append, lE]; rfl
      simp (maxSteps := 4000000) only [Try.results8, parE, List.length_cons, List.length_nil, Nat.reduceAdd, XX, Nat.reduceBEq, Nat.reduceLT, Nat.reduceAdd, Nat.reduceMul, Nat.reduceSub, Nat.reduceLeDiff, Nat.reduceEqDiff, Int.reduceToNat, Int.reduceLT, Int.reduceLE, Int.reduceAdd, Int.reduceSub, Int.reduceEq, reduceIte, Nat.reduceBNe, Int.reducePow, Nat.reducePow, Int.reduceMul, Int.reduceNeg, isB_i, isB_b, isB_y, isBv_i, isBv_b, eqCells_t, TT]
      refine call_fz [.c (roO (es.map PE.oi) [] (es.length + r)), .c (i64 1099511627776)] pk (fun t h' h => resB_noRo h) ⟨O.fz, .inl ⟨rfl, rfl⟩, trivial⟩ ?_
      rintro _ _ ⟨z0, o0, rfl, rfl, ho0⟩
      obtain rfl := ho0 (by omega)
      simp (maxSteps := 4000000) only [Try.results8, List.flatten_cons, List.flatten_nil, List.cons_append, List.nil_append, List.append_nil, List.replicate_succ, List.replicate_zero, List.drop_succ_cons, List.drop_zero, List.length_cons, List.length_nil, Nat.reduceAdd, Nat.reduceLeDiff, reduceIte, ids_bsC, ren_bsC, noRo_bsC, plain_bsC, lt_bsC, ids_byte, ren_byte, noRo_byte, plain_byte, lt_byte, setR, List.set_cons_zero, List.set_cons_succ, List.append_assoc, List.getElem?_append_left, List.getElem?_append_right, List.length_append, List.length_set, List.set_append_left, gset, List.getElem?_set_ne, Nat.add_sub_cancel_left, Nat.sub_self, Nat.le_refl, Nat.le_add_right, List.replicate_one, List.flatten_cons, List.flatten_nil, rep_flat, XX, Nat.reduceBEq, Nat.reduceLT, Nat.reduceAdd, Nat.reduceMul, Nat.reduceSub, Nat.reduceLeDiff, Nat.reduceEqDiff, Int.reduceToNat, Int.reduceLT, Int.reduceLE, Int.reduceAdd, Int.reduceSub, Int.reduceEq, reduceIte, Nat.reduceBNe, Int.reducePow, Nat.reducePow, Int.reduceMul, Int.reduceNeg, isB_i, isB_b, isB_y, isBv_i, isBv_b, eqCells_t, TT]
      have qq := parse_spec [(L, z0, L.length + z0.length)] [] 1 (by intro p hp; obtain rfl := List.mem_singleton.1 hp; exact ⟨Nat.le_add_right _ _, by show L.length ≤ _; omega⟩) (by simp) (by simp [lenP]; omega)
      rw [show parseA (bytesP [(L, z0, L.length + z0.length)]) [] = .ok (piL (es.map PE.oi)) by show parseA [L] [] = _; rw [parseA, pp]; rfl] at qq
      have u0 : (H ++ [wB true (L ++ z0), ⟨true, 25, [.sl H.length 0 L.length (L.length + z0.length)]⟩])[H.length]? = some (wB true (L ++ z0)) := by rw [List.getElem?_append_right (Nat.le_refl _), Nat.sub_self]; rfl
      have u1 : (H ++ [wB true (L ++ z0), ⟨true, 25, [.sl H.length 0 L.length (L.length + z0.length)]⟩])[H.length + 1]? = some ⟨true, 25, [.sl H.length 0 L.length (L.length + z0.length)]⟩ := by rw [List.getElem?_append_right (by omega), Nat.add_sub_cancel_left]; rfl
      refine call_opts [.c (partsV [(L, z0, L.length + z0.length)] [] 1)] qq ⟨fzO_rows u1 rfl ⟨frO_win u0 rfl rfl rfl, trivial⟩, trivial⟩ ?_
      rintro t2 o2 fs r2 O2 hw2 hpi2
      have hs' : (is.map fun p => p.2.length).sum ≤ 1048576 := by simp only [List.map_nil, List.sum_nil] at hs; omega
      obtain ⟨f1, f2, f3, f4, f5⟩ := opts_good (N := 1048576) (show fs.map PE.pi = is from (show fs.map PE.pi = piL (es.map PE.oi) from hpi2).trans g5) G hs'
      refine gen_hp (fun F => Opts F iM o es r ∧ Opts F (H ++ [(⟨true, 5, bsC (L ++ z0)⟩ : SB), ⟨true, 25, [.sl H.length 0 L.length (L.length + z0.length)]⟩]).length o2 fs r2) ⟨(O.app _).app _, O2⟩ ?_
      clear O2 hw2 u0 u1
      rintro F ⟨O1, O2⟩
      generalize (H ++ [(⟨true, 5, bsC (L ++ z0)⟩ : SB), ⟨true, 25, [.sl H.length 0 L.length (L.length + z0.length)]⟩]).length = iK at *
      simp (maxSteps := 4000000) only [Try.results8, parE, XX, Nat.reduceBEq, Nat.reduceLT, Nat.reduceAdd, Nat.reduceMul, Nat.reduceSub, Nat.reduceLeDiff, Nat.reduceEqDiff, Int.reduceToNat, Int.reduceLT, Int.reduceLE, Int.reduceAdd, Int.reduceSub, Int.reduceEq, reduceIte, Nat.reduceBNe, Int.reducePow, Nat.reducePow, Int.reduceMul, Int.reduceNeg, isB_i, isB_b, isB_y, isBv_i, isBv_b, eqCells_t, TT]
      refine call_same (xs := es.map PE.oi) (sp := []) (ys := fs.map PE.oi) (sp' := []) (c := es.length + r) (c' := fs.length + r2) (O1.oks fun e he => by have := g1 e he; exact ⟨by omega, by omega, by omega⟩) (O2.oks fun e he => by have := f1 e he; exact ⟨by omega, by omega, by omega⟩) (by omega) (by omega) O1.fz O2.fz ?_
      rw [decide_eq_true (g5.trans f5.symm)]
      simp (maxSteps := 4000000) only [Try.results8, XX, Nat.reduceBEq, Nat.reduceLT, Nat.reduceAdd, Nat.reduceMul, Nat.reduceSub, Nat.reduceLeDiff, Nat.reduceEqDiff, Int.reduceToNat, Int.reduceLT, Int.reduceLE, Int.reduceAdd, Int.reduceSub, Int.reduceEq, reduceIte, Nat.reduceBNe, Int.reducePow, Nat.reducePow, Int.reduceMul, Int.reduceNeg, isB_i, isB_b, isB_y, isBv_i, isBv_b, eqCells_t, TT]
  by_cases hl : 64 < xs.length
  · rw [packF_many hb hl]
    simp (maxSteps := 4000000) only [Try.results8, ids_bsC, ren_bsC, noRo_bsC, plain_bsC, lt_bsC, ids_byte, ren_byte, noRo_byte, plain_byte, lt_byte, XX, Nat.reduceBEq, Nat.reduceLT, Nat.reduceAdd, Nat.reduceMul, Nat.reduceSub, Nat.reduceLeDiff, Nat.reduceEqDiff, Int.reduceToNat, Int.reduceLT, Int.reduceLE, Int.reduceAdd, Int.reduceSub, Int.reduceEq, reduceIte, Nat.reduceBNe, Int.reducePow, Nat.reducePow, Int.reduceMul, Int.reduceNeg, isB_i, isB_b, isB_y, isBv_i, isBv_b, eqCells_t, TT]
    refine gen_hp (fun _ => True) trivial ?_
    rintro H0 -
    refine call_opts [.c (partsV ps rs cp)] qp ⟨.inl ⟨rfl, rfl⟩, trivial⟩ ?_
    rintro t o es r O hw hpi
    cases X with
    | error e =>
      obtain rfl : es = [] := List.map_eq_nil_iff.1 hpi
      have de : decide (e = 0) = false := by rcases parseA_err _ _ _ hx with rfl | rfl <;> rfl
      simp (maxSteps := 4000000) only [Try.results8, parE, de, List.length_nil, XX, Nat.reduceBEq, Nat.reduceLT, Nat.reduceAdd, Nat.reduceMul, Nat.reduceSub, Nat.reduceLeDiff, Nat.reduceEqDiff, Int.reduceToNat, Int.reduceLT, Int.reduceLE, Int.reduceAdd, Int.reduceSub, Int.reduceEq, reduceIte, Nat.reduceBNe, Int.reducePow, Nat.reducePow, Int.reduceMul, Int.reduceNeg, isB_i, isB_b, isB_y, isBv_i, isBv_b, eqCells_t, TT]
    | ok is =>
      obtain ⟨G, hs⟩ := parseA_good _ _ _ goodP_nil hx
      rw [sum_bytesP] at hs
      obtain ⟨g1, g2, g3, g4, g5⟩ := opts_good (N := 1048576) (show es.map PE.pi = is from hpi) G (by simp only [List.map_nil, List.sum_nil] at hs; omega)
      refine gen_hp (fun H => Opts H H0.length o es r) O ?_
      clear O hw
      rintro H O
      generalize H0.length = iM at *
      have hoe := O.oks fun e he => by have := g1 e he; exact ⟨by omega, by omega, by omega⟩
      have pk := pack_spec (es.map PE.oi) [] (es.length + r) hoe (by omega) 1099511627776
      have zz := szO_le (es.map PE.oi)
      rw [packF_ok g2 (by omega) (by omega)] at pk
      dsimp only at pk
      have lE := encAll_len (es.map PE.oi)
      have pp := pack_parse g2 (by omega) []
      rw [List.append_nil] at pp
      obtain ⟨L, hL⟩ : ∃ L, L = encAll (es.map PE.oi) ++ [255] := ⟨_, rfl⟩
      rw [← hL] at pk pp
      have lL : L.length = szO (es.map PE.oi) + 1 := by rw [hL, List.length_append, lE]; rfl
      simp (maxSteps := 4000000) only [Try.results8, parE, List.length_cons, List.length_nil, Nat.reduceAdd, XX, Nat.reduceBEq, Nat.reduceLT, Nat.reduceAdd, Nat.reduceMul, Nat.reduceSub, Nat.reduceLeDiff, Nat.reduceEqDiff, Int.reduceToNat, Int.reduceLT, Int.reduceLE, Int.reduceAdd, Int.reduceSub, Int.reduceEq, reduceIte, Nat.reduceBNe, Int.reducePow, Nat.reducePow, Int.reduceMul, Int.reduceNeg, isB_i, isB_b, isB_y, isBv_i, isBv_b, eqCells_t, TT]
      refine call_fz [.c (roO (es.map PE.oi) [] (es.length + r)), .c (i64 1099511627776)] pk (fun t h' h => resB_noRo h) ⟨O.fz, .inl ⟨rfl, rfl⟩, trivial⟩ ?_
      rintro _ _ ⟨z0, o0, rfl, rfl, ho0⟩
      obtain rfl := ho0 (by omega)
      simp (maxSteps := 4000000) only [Try.results8, List.flatten_cons, List.flatten_nil, List.cons_append, List.nil_append, List.append_nil, List.replicate_succ, List.replicate_zero, List.drop_succ_cons, List.drop_zero, List.length_cons, List.length_nil, Nat.reduceAdd, Nat.reduceLeDiff, reduceIte, ids_bsC, ren_bsC, noRo_bsC, plain_bsC, lt_bsC, ids_byte, ren_byte, noRo_byte, plain_byte, lt_byte, setR, List.set_cons_zero, List.set_cons_succ, List.append_assoc, List.getElem?_append_left, List.getElem?_append_right, List.length_append, List.length_set, List.set_append_left, gset, List.getElem?_set_ne, Nat.add_sub_cancel_left, Nat.sub_self, Nat.le_refl, Nat.le_add_right, List.replicate_one, List.flatten_cons, List.flatten_nil, rep_flat, XX, Nat.reduceBEq, Nat.reduceLT, Nat.reduceAdd, Nat.reduceMul, Nat.reduceSub, Nat.reduceLeDiff, Nat.reduceEqDiff, Int.reduceToNat, Int.reduceLT, Int.reduceLE, Int.reduceAdd, Int.reduceSub, Int.reduceEq, reduceIte, Nat.reduceBNe, Int.reducePow, Nat.reducePow, Int.reduceMul, Int.reduceNeg, isB_i, isB_b, isB_y, isBv_i, isBv_b, eqCells_t, TT]
      have qq := parse_spec [(L, z0, L.length + z0.length)] [] 1 (by intro p hp; obtain rfl := List.mem_singleton.1 hp; exact ⟨Nat.le_add_right _ _, by show L.length ≤ _; omega⟩) (by simp) (by simp [lenP]; omega)
      rw [show parseA (bytesP [(L, z0, L.length + z0.length)]) [] = .ok (piL (es.map PE.oi)) by show parseA [L] [] = _; rw [parseA, pp]; rfl] at qq
      have u0 : (H ++ [wB true (L ++ z0), ⟨true, 25, [.sl H.length 0 L.length (L.length + z0.length)]⟩])[H.length]? = some (wB true (L ++ z0)) := by rw [List.getElem?_append_right (Nat.le_refl _), Nat.sub_self]; rfl
      have u1 : (H ++ [wB true (L ++ z0), ⟨true, 25, [.sl H.length 0 L.length (L.length + z0.length)]⟩])[H.length + 1]? = some ⟨true, 25, [.sl H.length 0 L.length (L.length + z0.length)]⟩ := by rw [List.getElem?_append_right (by omega), Nat.add_sub_cancel_left]; rfl
      refine call_opts [.c (partsV [(L, z0, L.length + z0.length)] [] 1)] qq ⟨fzO_rows u1 rfl ⟨frO_win u0 rfl rfl rfl, trivial⟩, trivial⟩ ?_
      rintro t2 o2 fs r2 O2 hw2 hpi2
      have hs' : (is.map fun p => p.2.length).sum ≤ 1048576 := by simp only [List.map_nil, List.sum_nil] at hs; omega
      obtain ⟨f1, f2, f3, f4, f5⟩ := opts_good (N := 1048576) (show fs.map PE.pi = is from (show fs.map PE.pi = piL (es.map PE.oi) from hpi2).trans g5) G hs'
      refine gen_hp (fun F => Opts F iM o es r ∧ Opts F (H ++ [(⟨true, 5, bsC (L ++ z0)⟩ : SB), ⟨true, 25, [.sl H.length 0 L.length (L.length + z0.length)]⟩]).length o2 fs r2) ⟨(O.app _).app _, O2⟩ ?_
      clear O2 hw2 u0 u1
      rintro F ⟨O1, O2⟩
      generalize (H ++ [(⟨true, 5, bsC (L ++ z0)⟩ : SB), ⟨true, 25, [.sl H.length 0 L.length (L.length + z0.length)]⟩]).length = iK at *
      simp (maxSteps := 4000000) only [Try.results8, parE, XX, Nat.reduceBEq, Nat.reduceLT, Nat.reduceAdd, Nat.reduceMul, Nat.reduceSub, Nat.reduceLeDiff, Nat.reduceEqDiff, Int.reduceToNat, Int.reduceLT, Int.reduceLE, Int.reduceAdd, Int.reduceSub, Int.reduceEq, reduceIte, Nat.reduceBNe, Int.reducePow, Nat.reducePow, Int.reduceMul, Int.reduceNeg, isB_i, isB_b, isB_y, isBv_i, isBv_b, eqCells_t, TT]
      refine call_same (xs := es.map PE.oi) (sp := []) (ys := fs.map PE.oi) (sp' := []) (c := es.length + r) (c' := fs.length + r2) (O1.oks fun e he => by have := g1 e he; exact ⟨by omega, by omega, by omega⟩) (O2.oks fun e he => by have := f1 e he; exact ⟨by omega, by omega, by omega⟩) (by omega) (by omega) O1.fz O2.fz ?_
      rw [decide_eq_true (g5.trans f5.symm)]
      simp (maxSteps := 4000000) only [Try.results8, XX, Nat.reduceBEq, Nat.reduceLT, Nat.reduceAdd, Nat.reduceMul, Nat.reduceSub, Nat.reduceLeDiff, Nat.reduceEqDiff, Int.reduceToNat, Int.reduceLT, Int.reduceLE, Int.reduceAdd, Int.reduceSub, Int.reduceEq, reduceIte, Nat.reduceBNe, Int.reducePow, Nat.reducePow, Int.reduceMul, Int.reduceNeg, isB_i, isB_b, isB_y, isBv_i, isBv_b, eqCells_t, TT]
  by_cases hz : room < 1 + (szO xs : Int)
  · rw [packF_long hb hl hz]
    simp (maxSteps := 4000000) only [Try.results8, ids_bsC, ren_bsC, noRo_bsC, plain_bsC, lt_bsC, ids_byte, ren_byte, noRo_byte, plain_byte, lt_byte, XX, Nat.reduceBEq, Nat.reduceLT, Nat.reduceAdd, Nat.reduceMul, Nat.reduceSub, Nat.reduceLeDiff, Nat.reduceEqDiff, Int.reduceToNat, Int.reduceLT, Int.reduceLE, Int.reduceAdd, Int.reduceSub, Int.reduceEq, reduceIte, Nat.reduceBNe, Int.reducePow, Nat.reducePow, Int.reduceMul, Int.reduceNeg, isB_i, isB_b, isB_y, isBv_i, isBv_b, eqCells_t, TT]
    refine gen_hp (fun _ => True) trivial ?_
    rintro H0 -
    refine call_opts [.c (partsV ps rs cp)] qp ⟨.inl ⟨rfl, rfl⟩, trivial⟩ ?_
    rintro t o es r O hw hpi
    cases X with
    | error e =>
      obtain rfl : es = [] := List.map_eq_nil_iff.1 hpi
      have de : decide (e = 0) = false := by rcases parseA_err _ _ _ hx with rfl | rfl <;> rfl
      simp (maxSteps := 4000000) only [Try.results8, parE, de, List.length_nil, XX, Nat.reduceBEq, Nat.reduceLT, Nat.reduceAdd, Nat.reduceMul, Nat.reduceSub, Nat.reduceLeDiff, Nat.reduceEqDiff, Int.reduceToNat, Int.reduceLT, Int.reduceLE, Int.reduceAdd, Int.reduceSub, Int.reduceEq, reduceIte, Nat.reduceBNe, Int.reducePow, Nat.reducePow, Int.reduceMul, Int.reduceNeg, isB_i, isB_b, isB_y, isBv_i, isBv_b, eqCells_t, TT]
    | ok is =>
      obtain ⟨G, hs⟩ := parseA_good _ _ _ goodP_nil hx
      rw [sum_bytesP] at hs
      obtain ⟨g1, g2, g3, g4, g5⟩ := opts_good (N := 1048576) (show es.map PE.pi = is from hpi) G (by simp only [List.map_nil, List.sum_nil] at hs; omega)
      refine gen_hp (fun H => Opts H H0.length o es r) O ?_
      clear O hw
      rintro H O
      generalize H0.length = iM at *
      have hoe := O.oks fun e he => by have := g1 e he; exact ⟨by omega, by omega, by omega⟩
      have pk := pack_spec (es.map PE.oi) [] (es.length + r) hoe (by omega) 1099511627776
      have zz := szO_le (es.map PE.oi)
      rw [packF_ok g2 (by omega) (by omega)] at pk
      dsimp only at pk
      have lE := encAll_len (es.map PE.oi)
      have pp := pack_parse g2 (by omega) []
      rw [List.append_nil] at pp
      obtain ⟨L, hL⟩ : ∃ L, L = encAll (es.map PE.oi) ++ [255] := ⟨_, rfl⟩
      rw [← hL] at pk pp
      have lL : L.length = szO (es.map PE.oi) + 1 := by rw [hL, List.length_append, lE]; rfl
      simp (maxSteps := 4000000) only [Try.results8, parE, List.length_cons, List.length_nil, Nat.reduceAdd, XX, Nat.reduceBEq, Nat.reduceLT, Nat.reduceAdd, Nat.reduceMul, Nat.reduceSub, Nat.reduceLeDiff, Nat.reduceEqDiff, Int.reduceToNat, Int.reduceLT, Int.reduceLE, Int.reduceAdd, Int.reduceSub, Int.reduceEq, reduceIte, Nat.reduceBNe, Int.reducePow, Nat.reducePow, Int.reduceMul, Int.reduceNeg, isB_i, isB_b, isB_y, isBv_i, isBv_b, eqCells_t, TT]
      refine call_fz [.c (roO (es.map PE.oi) [] (es.length + r)), .c (i64 1099511627776)] pk (fun t h' h => resB_noRo h) ⟨O.fz, .inl ⟨rfl, rfl⟩, trivial⟩ ?_
      rintro _ _ ⟨z0, o0, rfl, rfl, ho0⟩
      obtain rfl := ho0 (by omega)
      simp (maxSteps := 4000000) only [Try.results8, List.flatten_cons, List.flatten_nil, List.cons_append, List.nil_append, List.append_nil, List.replicate_succ, List.replicate_zero, List.drop_succ_cons, List.drop_zero, List.length_cons, List.length_nil, Nat.reduceAdd, Nat.reduceLeDiff, reduceIte, ids_bsC, ren_bsC, noRo_bsC, plain_bsC, lt_bsC, ids_byte, ren_byte, noRo_byte, plain_byte, lt_byte, setR, List.set_cons_zero, List.set_cons_succ, List.append_assoc, List.getElem?_append_left, List.getElem?_append_right, List.length_append, List.length_set, List.set_append_left, gset, List.getElem?_set_ne, Nat.add_sub_cancel_left, Nat.sub_self, Nat.le_refl, Nat.le_add_right, List.replicate_one, List.flatten_cons, List.flatten_nil, rep_flat, XX, Nat.reduceBEq, Nat.reduceLT, Nat.reduceAdd, Nat.reduceMul, Nat.reduceSub, Nat.reduceLeDiff, Nat.reduceEqDiff, Int.reduceToNat, Int.reduceLT, Int.reduceLE, Int.reduceAdd, Int.reduceSub, Int.reduceEq, reduceIte, Nat.reduceBNe, Int.reducePow, Nat.reducePow, Int.reduceMul, Int.reduceNeg, isB_i, isB_b, isB_y, isBv_i, isBv_b, eqCells_t, TT]
      have qq := parse_spec [(L, z0, L.length + z0.length)] [] 1 (by intro p hp; obtain rfl := List.mem_singleton.1 hp; exact ⟨Nat.le_add_right _ _, by show L.length ≤ _; omega⟩) (by simp) (by simp [lenP]; omega)
      rw [show parseA (bytesP [(L, z0, L.length + z0.length)]) [] = .ok (piL (es.map PE.oi)) by show parseA [L] [] = _; rw [parseA, pp]; rfl] at qq
      have u0 : (H ++ [wB true (L ++ z0), ⟨true, 25, [.sl H.length 0 L.length (L.length + z0.length)]⟩])[H.length]? = some (wB true (L ++ z0)) := by rw [List.getElem?_append_right (Nat.le_refl _), Nat.sub_self]; rfl
      have u1 : (H ++ [wB true (L ++ z0), ⟨true, 25, [.sl H.length 0 L.length (L.length + z0.length)]⟩])[H.length + 1]? = some ⟨true, 25, [.sl H.length 0 L.length (L.length + z0.length)]⟩ := by rw [List.getElem?_append_right (by omega), Nat.add_sub_cancel_left]; rfl
      refine call_opts [.c (partsV [(L, z0, L.length + z0.length)] [] 1)] qq ⟨fzO_rows u1 rfl ⟨frO_win u0 rfl rfl rfl, trivial⟩, trivial⟩ ?_
      rintro t2 o2 fs r2 O2 hw2 hpi2
      have hs' : (is.map fun p => p.2.length).sum ≤ 1048576 := by simp only [List.map_nil, List.sum_nil] at hs; omega
      obtain ⟨f1, f2, f3, f4, f5⟩ := opts_good (N := 1048576) (show fs.map PE.pi = is from (show fs.map PE.pi = piL (es.map PE.oi) from hpi2).trans g5) G hs'
      refine gen_hp (fun F => Opts F iM o es r ∧ Opts F (H ++ [(⟨true, 5, bsC (L ++ z0)⟩ : SB), ⟨true, 25, [.sl H.length 0 L.length (L.length + z0.length)]⟩]).length o2 fs r2) ⟨(O.app _).app _, O2⟩ ?_
      clear O2 hw2 u0 u1
      rintro F ⟨O1, O2⟩
      generalize (H ++ [(⟨true, 5, bsC (L ++ z0)⟩ : SB), ⟨true, 25, [.sl H.length 0 L.length (L.length + z0.length)]⟩]).length = iK at *
      simp (maxSteps := 4000000) only [Try.results8, parE, XX, Nat.reduceBEq, Nat.reduceLT, Nat.reduceAdd, Nat.reduceMul, Nat.reduceSub, Nat.reduceLeDiff, Nat.reduceEqDiff, Int.reduceToNat, Int.reduceLT, Int.reduceLE, Int.reduceAdd, Int.reduceSub, Int.reduceEq, reduceIte, Nat.reduceBNe, Int.reducePow, Nat.reducePow, Int.reduceMul, Int.reduceNeg, isB_i, isB_b, isB_y, isBv_i, isBv_b, eqCells_t, TT]
      refine call_same (xs := es.map PE.oi) (sp := []) (ys := fs.map PE.oi) (sp' := []) (c := es.length + r) (c' := fs.length + r2) (O1.oks fun e he => by have := g1 e he; exact ⟨by omega, by omega, by omega⟩) (O2.oks fun e he => by have := f1 e he; exact ⟨by omega, by omega, by omega⟩) (by omega) (by omega) O1.fz O2.fz ?_
      rw [decide_eq_true (g5.trans f5.symm)]
      simp (maxSteps := 4000000) only [Try.results8, XX, Nat.reduceBEq, Nat.reduceLT, Nat.reduceAdd, Nat.reduceMul, Nat.reduceSub, Nat.reduceLeDiff, Nat.reduceEqDiff, Int.reduceToNat, Int.reduceLT, Int.reduceLE, Int.reduceAdd, Int.reduceSub, Int.reduceEq, reduceIte, Nat.reduceBNe, Int.reducePow, Nat.reducePow, Int.reduceMul, Int.reduceNeg, isB_i, isB_b, isB_y, isBv_i, isBv_b, eqCells_t, TT]
  rw [packF_ok hb hl hz] at ho0 ⊢
  have zx := szO_le xs
  have lE := encAll_len xs
  have pp := pack_parse hb (by omega) b
  obtain ⟨A, hA⟩ : ∃ A, A = encAll xs ++ [255] := ⟨_, rfl⟩
  rw [← hA] at pp ho0 ⊢
  have lA : A.length = szO xs + 1 := by rw [hA, List.length_append, lE]; rfl
  have tA : (bsC (A ++ z0)).take A.length = bsC A := by rw [bs_take, List.take_left' rfl]
  have tb2 : (bsR (b ++ sb)).take b.length = bsR b := by rw [rs_take, List.take_left' rfl]
  dsimp only at ho0 ⊢
  have o1 := ho0 (by omega)
  subst o1
  simp (maxSteps := 4000000) only [Try.results8, ids_bsC, ren_bsC, noRo_bsC, plain_bsC, lt_bsC, ids_byte, ren_byte, noRo_byte, plain_byte, lt_byte, tA, rep_flat, XX, Nat.reduceBEq, Nat.reduceLT, Nat.reduceAdd, Nat.reduceMul, Nat.reduceSub, Nat.reduceLeDiff, Nat.reduceEqDiff, Int.reduceToNat, Int.reduceLT, Int.reduceLE, Int.reduceAdd, Int.reduceSub, Int.reduceEq, reduceIte, Nat.reduceBNe, Int.reducePow, Nat.reducePow, Int.reduceMul, Int.reduceNeg, isB_i, isB_b, isB_y, isBv_i, isBv_b, eqCells_t, TT]
  refine ⟨⟨⟨by omega, by unfold maxLen; omega⟩, by simp⟩, xapp_nilB rfl rfl fun j oa hoa => ?_⟩
  obtain rfl := hoa (by omega)
  have B0 : Buf [wB true (A ++ z0), wB true (A ++ List.replicate j 0)] 1 true A (List.replicate j 0) := ⟨rfl, fun _ => rfl⟩
  refine gen_hp (fun H => Buf H 1 true A (List.replicate j 0) ∧ H[0]? = some (wB true (A ++ z0))) ⟨B0, rfl⟩ ?_
  clear B0
  rintro H ⟨B0, h0⟩
  have hB := B0.at_
  have lB := lt_of hB
  simp (maxSteps := 4000000) only [Try.results8, tb2, bsR_toSC, rep_flat, hB, lB, bsC_len, List.append_assoc, List.getElem?_append_left, List.getElem?_append_right, List.length_append, List.length_set, List.set_append_left, gset, List.getElem?_set_ne, Nat.add_sub_cancel_left, Nat.sub_self, Nat.le_refl, Nat.le_add_right, List.replicate_one, List.flatten_cons, List.flatten_nil, rep_flat, XX, Nat.reduceBEq, Nat.reduceLT, Nat.reduceAdd, Nat.reduceMul, Nat.reduceSub, Nat.reduceLeDiff, Nat.reduceEqDiff, Int.reduceToNat, Int.reduceLT, Int.reduceLE, Int.reduceAdd, Int.reduceSub, Int.reduceEq, reduceIte, Nat.reduceBNe, Int.reducePow, Nat.reducePow, Int.reduceMul, Int.reduceNeg, isB_i, isB_b, isB_y, isBv_i, isBv_b, eqCells_t, TT]
  refine ⟨⟨⟨by omega, by unfold maxLen; omega⟩, by simp⟩, xapp_any B0 rfl rfl rfl rfl fun H1 w1 sp1 o1 B1 g1 g2 g3 => ?_⟩
  have h1 : H1[0]? = some (wB true (A ++ z0)) := (g2 0 (by omega) (by omega)).trans h0
  clear B0 hB lB g1 g2 g3 h0
  have hB := B1.at_
  have lB := lt_of hB
  have lall : (A ++ b).length = A.length + b.length := List.length_append
  obtain ⟨all, hall⟩ : ∃ x, x = A ++ b := ⟨_, rfl⟩
  rw [← hall] at pp lall B1 hB ⊢
  simp (maxSteps := 4000000) only [Try.results8, List.flatten_cons, List.flatten_nil, List.cons_append, List.nil_append, List.append_nil, List.replicate_succ, List.replicate_zero, List.drop_succ_cons, List.drop_zero, List.length_cons, List.length_nil, Nat.reduceAdd, Nat.reduceLeDiff, reduceIte, ids_bsC, ren_bsC, noRo_bsC, plain_bsC, lt_bsC, ids_byte, ren_byte, noRo_byte, plain_byte, lt_byte, setR, List.set_cons_zero, List.set_cons_succ, List.append_assoc, List.getElem?_append_left, List.getElem?_append_right, List.length_append, List.length_set, List.set_append_left, gset, List.getElem?_set_ne, Nat.add_sub_cancel_left, Nat.sub_self, Nat.le_refl, Nat.le_add_right, List.replicate_one, List.flatten_cons, List.flatten_nil, rep_flat, XX, Nat.reduceBEq, Nat.reduceLT, Nat.reduceAdd, Nat.reduceMul, Nat.reduceSub, Nat.reduceLeDiff, Nat.reduceEqDiff, Int.reduceToNat, Int.reduceLT, Int.reduceLE, Int.reduceAdd, Int.reduceSub, Int.reduceEq, reduceIte, Nat.reduceBNe, Int.reducePow, Nat.reducePow, Int.reduceMul, Int.reduceNeg, isB_i, isB_b, isB_y, isBv_i, isBv_b, eqCells_t, TT]
  have u1 : (H1 ++ [(⟨true, 25, [slB w1 all sp1]⟩ : SB)])[H1.length]? = some ⟨true, 25, [slB w1 all sp1]⟩ := by rw [List.getElem?_append_right (Nat.le_refl _), Nat.sub_self]; rfl
  have u0 : (H1 ++ [(⟨true, 25, [slB w1 all sp1]⟩ : SB)])[w1]? = some (wB o1 (all ++ sp1)) := by rw [List.getElem?_append_left lB]; exact hB
  have qq := parse_spec [(all, sp1, all.length + sp1.length)] [] 1 (by intro p hp; obtain rfl := List.mem_singleton.1 hp; exact ⟨Nat.le_add_right _ _, by show all.length ≤ _; omega⟩) (by simp) (by simp [lenP]; omega)
  rw [show parseA (bytesP [(all, sp1, all.length + sp1.length)]) [] = .ok (piL xs) by show parseA [all] [] = _; rw [parseA, pp]; rfl] at qq
  refine call_opts [.c (partsV [(all, sp1, all.length + sp1.length)] [] 1)] qq ⟨fzO_rows u1 rfl ⟨frO_buf u0 B1.own, trivial⟩, trivial⟩ ?_
  rintro t2 o2 fs r2 O2 hw2 hpi2
  obtain ⟨f1, f2, f3⟩ := lent_ok hpi2 hok
  refine gen_hp (fun F => Opts F (H1 ++ [(⟨true, 25, [slB w1 all sp1]⟩ : SB)]).length o2 fs r2 ∧ F[0]? = some (wB true (A ++ z0))) ⟨O2, by rw [List.append_assoc, List.getElem?_append_left (lt_of h1)]; exact h1⟩ ?_
  clear O2 hw2 u0 u1
  rintro F ⟨O2, hF⟩
  generalize (H1 ++ [(⟨true, 25, [slB w1 all sp1]⟩ : SB)]).length = iK at *
  have lF := lt_of hF
  simp (maxSteps := 4000000) only [Try.results8, XX, Nat.reduceBEq, Nat.reduceLT, Nat.reduceAdd, Nat.reduceMul, Nat.reduceSub, Nat.reduceLeDiff, Nat.reduceEqDiff, Int.reduceToNat, Int.reduceLT, Int.reduceLE, Int.reduceAdd, Int.reduceSub, Int.reduceEq, reduceIte, Nat.reduceBNe, Int.reducePow, Nat.reducePow, Int.reduceMul, Int.reduceNeg, isB_i, isB_b, isB_y, isBv_i, isBv_b, eqCells_t, TT]
  refine call_same (xs := xs) (sp := sp) (ys := fs.map PE.oi) (sp' := []) (c := c) (c' := fs.length + r2) hok f1 (by omega) (by rw [List.length_map]; omega) (.inl ⟨rfl, rfl⟩) O2.fz ?_
  rw [decide_eq_true f2.symm]
  have d1 : decide (room < (A.length : Int)) = false := by simp only [decide_eq_false_iff_not]; omega
  have d2 : decide ((A.length : Int) = 0) = false := by simp only [decide_eq_false_iff_not]; omega
  have w1' : IntKind.i64.wrap ((A.length : Int) - 1) = ((szO xs : Nat) : Int) := by rw [w64] <;> omega
  have g1' : (bsC (A ++ z0)).getD (szO xs) .any = byteC 255 := by
    rw [hA, List.getD_eq_getElem?_getD, List.getElem?_map, List.append_assoc, List.getElem?_append_right (by omega), show szO xs - (encAll xs).length = 0 by omega]; rfl
  have d3 : decide (((255 : UInt8).toNat : Int) = 255) = true := rfl
  simp (maxSteps := 4000000) only [Try.results8, parE, hF, lF, d1, d2, w1', g1', byteC, d3, XX, Nat.reduceBEq, Nat.reduceLT, Nat.reduceAdd, Nat.reduceMul, Nat.reduceSub, Nat.reduceLeDiff, Nat.reduceEqDiff, Int.reduceToNat, Int.reduceLT, Int.reduceLE, Int.reduceAdd, Int.reduceSub, Int.reduceEq, reduceIte, Nat.reduceBNe, Int.reducePow, Nat.reducePow, Int.reduceMul, Int.reduceNeg, isB_i, isB_b, isB_y, isBv_i, isBv_b, eqCells_t, TT]
  refine ⟨by omega, by simp; omega, ?_⟩
  refine gen_hp (fun _ => True) trivial ?_
  rintro H0 -
  refine call_opts [.c (partsV ps rs cp)] qp ⟨.inl ⟨rfl, rfl⟩, trivial⟩ ?_
  rintro t o es r O hw hpi
  cases X with
  | error e =>
    obtain rfl : es = [] := List.map_eq_nil_iff.1 hpi
    have de : decide (e = 0) = false := by rcases parseA_err _ _ _ hx with rfl | rfl <;> rfl
    simp (maxSteps := 4000000) only [Try.results8, parE, de, List.length_nil, XX, Nat.reduceBEq, Nat.reduceLT, Nat.reduceAdd, Nat.reduceMul, Nat.reduceSub, Nat.reduceLeDiff, Nat.reduceEqDiff, Int.reduceToNat, Int.reduceLT, Int.reduceLE, Int.reduceAdd, Int.reduceSub, Int.reduceEq, reduceIte, Nat.reduceBNe, Int.reducePow, Nat.reducePow, Int.reduceMul, Int.reduceNeg, isB_i, isB_b, isB_y, isBv_i, isBv_b, eqCells_t, TT]
  | ok is =>
    obtain ⟨G, hs⟩ := parseA_good _ _ _ goodP_nil hx
    rw [sum_bytesP] at hs
    obtain ⟨g1, g2, g3, g4, g5⟩ := opts_good (N := 1048576) (show es.map PE.pi = is from hpi) G (by simp only [List.map_nil, List.sum_nil] at hs; omega)
    refine gen_hp (fun H => Opts H H0.length o es r) O ?_
    clear O hw
    rintro H O
    generalize H0.length = iM at *
    have hoe := O.oks fun e he => by have := g1 e he; exact ⟨by omega, by omega, by omega⟩
    have pk := pack_spec (es.map PE.oi) [] (es.length + r) hoe (by omega) 1099511627776
    have zz := szO_le (es.map PE.oi)
    rw [packF_ok g2 (by omega) (by omega)] at pk
    dsimp only at pk
    have lE := encAll_len (es.map PE.oi)
    have pp := pack_parse g2 (by omega) []
    rw [List.append_nil] at pp
    obtain ⟨L, hL⟩ : ∃ L, L = encAll (es.map PE.oi) ++ [255] := ⟨_, rfl⟩
    rw [← hL] at pk pp
    have lL : L.length = szO (es.map PE.oi) + 1 := by rw [hL, List.length_append, lE]; rfl
    simp (maxSteps := 4000000) only [Try.results8, parE, List.length_cons, List.length_nil, Nat.reduceAdd, XX, Nat.reduceBEq, Nat.reduceLT, Nat.reduceAdd, Nat.reduceMul, Nat.reduceSub, Nat.reduceLeDiff, Nat.reduceEqDiff, Int.reduceToNat, Int.reduceLT, Int.reduceLE, Int.reduceAdd, Int.reduceSub, Int.reduceEq, reduceIte, Nat.reduceBNe, Int.reducePow, Nat.reducePow, Int.reduceMul, Int.reduceNeg, isB_i, isB_b, isB_y, isBv_i, isBv_b, eqCells_t, TT]
    refine call_fz [.c (roO (es.map PE.oi) [] (es.length + r)), .c (i64 1099511627776)] pk (fun t h' h => resB_noRo h) ⟨O.fz, .inl ⟨rfl, rfl⟩, trivial⟩ ?_
    rintro _ _ ⟨z0, o0, rfl, rfl, ho0⟩
    obtain rfl := ho0 (by omega)
    simp (maxSteps := 4000000) only [Try.results8, List.flatten_cons, List.flatten_nil, List.cons_append, List.nil_append, List.append_nil, List.replicate_succ, List.replicate_zero, List.drop_succ_cons, List.drop_zero, List.length_cons, List.length_nil, Nat.reduceAdd, Nat.reduceLeDiff, reduceIte, ids_bsC, ren_bsC, noRo_bsC, plain_bsC, lt_bsC, ids_byte, ren_byte, noRo_byte, plain_byte, lt_byte, setR, List.set_cons_zero, List.set_cons_succ, List.append_assoc, List.getElem?_append_left, List.getElem?_append_right, List.length_append, List.length_set, List.set_append_left, gset, List.getElem?_set_ne, Nat.add_sub_cancel_left, Nat.sub_self, Nat.le_refl, Nat.le_add_right, List.replicate_one, List.flatten_cons, List.flatten_nil, rep_flat, XX, Nat.reduceBEq, Nat.reduceLT, Nat.reduceAdd, Nat.reduceMul, Nat.reduceSub, Nat.reduceLeDiff, Nat.reduceEqDiff, Int.reduceToNat, Int.reduceLT, Int.reduceLE, Int.reduceAdd, Int.reduceSub, Int.reduceEq, reduceIte, Nat.reduceBNe, Int.reducePow, Nat.reducePow, Int.reduceMul, Int.reduceNeg, isB_i, isB_b, isB_y, isBv_i, isBv_b, eqCells_t, TT]
    have qq := parse_spec [(L, z0, L.length + z0.length)] [] 1 (by intro p hp; obtain rfl := List.mem_singleton.1 hp; exact ⟨Nat.le_add_right _ _, by show L.length ≤ _; omega⟩) (by simp) (by simp [lenP]; omega)
    rw [show parseA (bytesP [(L, z0, L.length + z0.length)]) [] = .ok (piL (es.map PE.oi)) by show parseA [L] [] = _; rw [parseA, pp]; rfl] at qq
    have u0 : (H ++ [wB true (L ++ z0), ⟨true, 25, [.sl H.length 0 L.length (L.length + z0.length)]⟩])[H.length]? = some (wB true (L ++ z0)) := by rw [List.getElem?_append_right (Nat.le_refl _), Nat.sub_self]; rfl
    have u1 : (H ++ [wB true (L ++ z0), ⟨true, 25, [.sl H.length 0 L.length (L.length + z0.length)]⟩])[H.length + 1]? = some ⟨true, 25, [.sl H.length 0 L.length (L.length + z0.length)]⟩ := by rw [List.getElem?_append_right (by omega), Nat.add_sub_cancel_left]; rfl
    refine call_opts [.c (partsV [(L, z0, L.length + z0.length)] [] 1)] qq ⟨fzO_rows u1 rfl ⟨frO_win u0 rfl rfl rfl, trivial⟩, trivial⟩ ?_
    rintro t2 o2 fs r2 O2 hw2 hpi2
    have hs' : (is.map fun p => p.2.length).sum ≤ 1048576 := by simp only [List.map_nil, List.sum_nil] at hs; omega
    obtain ⟨f1, f2, f3, f4, f5⟩ := opts_good (N := 1048576) (show fs.map PE.pi = is from (show fs.map PE.pi = piL (es.map PE.oi) from hpi2).trans g5) G hs'
    refine gen_hp (fun F => Opts F iM o es r ∧ Opts F (H ++ [(⟨true, 5, bsC (L ++ z0)⟩ : SB), ⟨true, 25, [.sl H.length 0 L.length (L.length + z0.length)]⟩]).length o2 fs r2) ⟨(O.app _).app _, O2⟩ ?_
    clear O2 hw2 u0 u1
    rintro F ⟨O1, O2⟩
    generalize (H ++ [(⟨true, 5, bsC (L ++ z0)⟩ : SB), ⟨true, 25, [.sl H.length 0 L.length (L.length + z0.length)]⟩]).length = iK at *
    simp (maxSteps := 4000000) only [Try.results8, parE, XX, Nat.reduceBEq, Nat.reduceLT, Nat.reduceAdd, Nat.reduceMul, Nat.reduceSub, Nat.reduceLeDiff, Nat.reduceEqDiff, Int.reduceToNat, Int.reduceLT, Int.reduceLE, Int.reduceAdd, Int.reduceSub, Int.reduceEq, reduceIte, Nat.reduceBNe, Int.reducePow, Nat.reducePow, Int.reduceMul, Int.reduceNeg, isB_i, isB_b, isB_y, isBv_i, isBv_b, eqCells_t, TT]
    refine call_same (xs := es.map PE.oi) (sp := []) (ys := fs.map PE.oi) (sp' := []) (c := es.length + r) (c' := fs.length + r2) (O1.oks fun e he => by have := g1 e he; exact ⟨by omega, by omega, by omega⟩) (O2.oks fun e he => by have := f1 e he; exact ⟨by omega, by omega, by omega⟩) (by omega) (by omega) O1.fz O2.fz ?_
    rw [decide_eq_true (g5.trans f5.symm)]
    simp (maxSteps := 4000000) only [Try.results8, XX, Nat.reduceBEq, Nat.reduceLT, Nat.reduceAdd, Nat.reduceMul, Nat.reduceSub, Nat.reduceLeDiff, Nat.reduceEqDiff, Int.reduceToNat, Int.reduceLT, Int.reduceLE, Int.reduceAdd, Int.reduceSub, Int.reduceEq, reduceIte, Nat.reduceBNe, Int.reducePow, Nat.reducePow, Int.reduceMul, Int.reduceNeg, isB_i, isB_b, isB_y, isBv_i, isBv_b, eqCells_t, TT]
end Go.Proofs.Ytflccffjfnfoiaa.Sx
