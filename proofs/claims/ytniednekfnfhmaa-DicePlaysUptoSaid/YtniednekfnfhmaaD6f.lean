/- The symbolic executor, at work: the law of draws that are added. No condition. -/
import Derived.Test.YtniednekfnfhmaaD6e
namespace Go.Proofs.Ytniednekfnfhmaa.Sx
open Go
set_option linter.unusedSimpArgs false
set_option linter.unusedVariables false
set_option maxRecDepth 10000
set_option maxHeartbeats 2000000

theorem binS_x {d : TD} {sz : List Bool} {fl : Bool} {op : BinOp} {x : Value} : binS d sz fl op (.c (.v x)) (.c .any) = .bad := by
  cases x <;> first | rfl | (rename_i p _ _; cases p <;> rfl) | (rename_i p; cases p <;> rfl)
theorem fz_us0 {r : Nat → Nat} {n : Nat} {h : List SB} {i : Nat} {l sp : List Nat} {o : Bool} (hb : h[i]? = some (wU o (l ++ sp))) (ho : 0 < l.length + sp.length → o = true) : frC true (fun _ => true) r n h (.sl i 0 l.length (l.length + sp.length)) (roU l sp (l.length + sp.length)) := by
  by_cases h0 : 0 < l.length + sp.length
  · obtain rfl := ho h0
    exact fz_us hb rfl rfl
  · exact .inr ⟨rfl, .inl ⟨_, _, _, rfl, .inr (.inr ⟨i, 0, rfl, .inl ⟨by omega, by omega⟩⟩)⟩⟩

theorem diceAdds_walk : ∀ css, RTyL (RTy T reachBytes DEPTH) [22, 22, 3] css → (css.map rcSizeL).sum ≤ 1048576 → Spec Try.prog 5 (svs T [22, 22, 3] css) [] fun r _ => r = .c (.v (.bool true)) := by
  intro css h hM
  obtain ⟨x1, xs1, rfl, h1, g1⟩ := RTyL_cons h
  obtain ⟨x2, xs2, rfl, h2, g2⟩ := RTyL_cons g1
  obtain ⟨x3, xs3, rfl, h3, g3⟩ := RTyL_cons g2
  obtain rfl := RTyL_nil g3
  obtain ⟨l, sp, c, rfl, hl1, hl2, hl3, hl4⟩ := RTy_us h1
  obtain ⟨m, sq, c', rfl, hm1, hm2, hm3, hm4⟩ := RTy_us h2
  obtain ⟨ahead, rfl, ha⟩ := RTy_int T_3 h3
  simp only [List.map_cons, List.map_nil, List.sum_cons, List.sum_nil] at hM
  have e1 : ∀ (l sp : List Nat) (c : Nat), svOf T 22 [.sl (usR (l ++ sp)) l.length c] = .c (roU l sp c) := fun _ _ _ => rfl
  have e2 : ∀ z : Int, svOf T 3 [.v (.int .i64 z)] = .c (i64 z) := fun _ => rfl
  simp only [svs, e1, e2]
  clear h1 h2 h3 g1 g2 g3 h e1 e2
  refine spec_of_X cx_ok Try.func5 rfl (by kernel_rfl) (by kernel_rfl) (Nat.le_of_ble_eq_true rfl) 400 17 ?_
  simp (maxSteps := 4000000) only [Try.results5, XX, Nat.reduceBEq, Nat.reduceLT, Nat.reduceAdd, Nat.reduceMul, Nat.reduceSub, Nat.reduceLeDiff, Nat.reduceEqDiff, Int.reduceToNat, Int.reduceLT, Int.reduceLE, Int.reduceAdd, Int.reduceSub, Int.reduceEq, reduceIte, Nat.reduceBNe, Int.reducePow, Nat.reducePow, Int.reduceMul, Int.reduceNeg, isB_i, isB_b, isB_y, isBv_i, isBv_b, eqCells_t, TT]
  refine call_plain (awake_spec) rfl ?_
  rintro _ rfl
  simp (maxSteps := 4000000) only [Try.results5, XX, Nat.reduceBEq, Nat.reduceLT, Nat.reduceAdd, Nat.reduceMul, Nat.reduceSub, Nat.reduceLeDiff, Nat.reduceEqDiff, Int.reduceToNat, Int.reduceLT, Int.reduceLE, Int.reduceAdd, Int.reduceSub, Int.reduceEq, reduceIte, Nat.reduceBNe, Int.reducePow, Nat.reducePow, Int.reduceMul, Int.reduceNeg, isB_i, isB_b, isB_y, isBv_i, isBv_b, eqCells_t, TT]
  unfold reachBytes at hl4 hm4
  have hlm : l.length + m.length ≤ 1048576 := by
    have r1 := length_le_rcSizeL (usR (l ++ sp))
    have r2 := length_le_rcSizeL (usR (m ++ sq))
    simp only [rcSizeL, rcSize, usR_len, List.length_append] at hM r1 r2
    omega
  refine call_fz [.c (roU l sp c)] (new_spec l sp c hl1 (by omega)) (fun t h' h => new_noRo h) ⟨.inl ⟨rfl, rfl⟩, trivial⟩ ?_
  rintro _ _ ⟨rfl, z, o, rfl, ho⟩
  have e0 : (usR (l ++ sp)).take l.length = usR l := by rw [urs_take, List.take_left' rfl]
  have e0' : (usR (m ++ sq)).take m.length = usR m := by rw [urs_take, List.take_left' rfl]
  simp (maxSteps := 4000000) only [Try.results5, ids_usC, ren_usC, lt_usC, noRo_usC, e0, usR_toSC, XX, Nat.reduceBEq, Nat.reduceLT, Nat.reduceAdd, Nat.reduceMul, Nat.reduceSub, Nat.reduceLeDiff, Nat.reduceEqDiff, Int.reduceToNat, Int.reduceLT, Int.reduceLE, Int.reduceAdd, Int.reduceSub, Int.reduceEq, reduceIte, Nat.reduceBNe, Int.reducePow, Nat.reducePow, Int.reduceMul, Int.reduceNeg, isB_i, isB_b, isB_y, isBv_i, isBv_b, eqCells_t, TT]
  refine ⟨⟨⟨by omega, by unfold maxLen; omega⟩, by simp⟩, xapp_nil (ty := 37) (news := usC l) (z := [.v (.int .u32 0)]) (fun h => by rw [List.eq_nil_of_length_eq_zero h]; rfl) rfl (fun y3 o1 ho1 => ?_) (fun _ => rfl)⟩
  simp (maxSteps := 4000000) only [Try.results5, zerosU, us_app, e0', usR_toSC, XX, Nat.reduceBEq, Nat.reduceLT, Nat.reduceAdd, Nat.reduceMul, Nat.reduceSub, Nat.reduceLeDiff, Nat.reduceEqDiff, Int.reduceToNat, Int.reduceLT, Int.reduceLE, Int.reduceAdd, Int.reduceSub, Int.reduceEq, reduceIte, Nat.reduceBNe, Int.reducePow, Nat.reducePow, Int.reduceMul, Int.reduceNeg, isB_i, isB_b, isB_y, isBv_i, isBv_b, eqCells_t, TT]
  refine ⟨⟨⟨by omega, by unfold maxLen; omega, by simp, fun _ => ⟨?_, by simp; omega⟩⟩, by simp⟩, ?_⟩
  · by_cases hm0 : m.length = 0
    · exact .inl hm0
    · exact .inr (ho1 (by omega))
  refine xapp_P (fun s h' => ∃ (w' : Nat) (ov : Bool) (sq' : List Nat), s = .c (.sl w' 0 (l.length + m.length) (l.length + m.length + sq'.length)) ∧ h'[w']? = some (wU ov ((l ++ m) ++ sq')) ∧ (0 < l.length + m.length + sq'.length → ov = true) ∧ h'[0]? = some (wU o (l ++ z)) ∧ h'[1]? = some (dB 0 0 l.length (l.length + z.length)) ∧ 2 ≤ w' ∧ w' < h'.length) (fun h => ?_) (fun h c4 g1 g2 => ?_) ?_
  · refine ⟨2, o1, (List.replicate y3 0).drop m.length, ?_, ?_, fun hh => ho1 (by rw [List.length_drop, List.length_replicate] at hh; omega), rfl, rfl, by omega, by simp⟩
    · have : l.length + m.length + ((List.replicate y3 0).drop m.length).length = l.length + y3 := by simp; omega
      rw [this]
    · have t1 : (usC (l ++ List.replicate y3 0)).take l.length = usC l := by rw [us_take, List.take_left' rfl]
      have t2 : (usC (l ++ List.replicate y3 0)).drop (l.length + (usC m).length) = usC ((List.replicate y3 0).drop m.length) := by
        rw [us_drop, usC_len, List.drop_append, List.drop_of_length_le (by omega), List.nil_append, Nat.add_sub_cancel_left]
      rw [t1, t2, us_app, us_app]
      rfl
  · obtain ⟨r, rfl⟩ := Nat.exists_eq_add_of_le g1
    refine ⟨3, true, List.replicate r 0, by simp, ?_, fun _ => rfl, rfl, rfl, by omega, by simp⟩
    have t1 : (usC (l ++ List.replicate y3 0)).take l.length = usC l := by rw [us_take, List.take_left' rfl]
    rw [t1, Nat.add_sub_cancel_left, us_app, us_app]
    rfl
  rintro s H ⟨w1, ov, z1, rfl, k1, kov, k2, k3, k4, k5⟩
  have D0 : Dc H 1 0 o l := ⟨0, [], z, k3, k2, rfl, by decide, ho⟩
  have eL : l.length + m.length = (l ++ m).length := by simp
  rw [eL] at kov ⊢
  simp (maxSteps := 4000000) only [Try.results5, XX, Nat.reduceBEq, Nat.reduceLT, Nat.reduceAdd, Nat.reduceMul, Nat.reduceSub, Nat.reduceLeDiff, Nat.reduceEqDiff, Int.reduceToNat, Int.reduceLT, Int.reduceLE, Int.reduceAdd, Int.reduceSub, Int.reduceEq, reduceIte, Nat.reduceBNe, Int.reducePow, Nat.reducePow, Int.reduceMul, Int.reduceNeg, isB_i, isB_b, isB_y, isBv_i, isBv_b, eqCells_t, TT]
  have hN := new_spec (l ++ m) z1 ((l ++ m).length + z1.length) (by omega) (by simp; omega)
  refine call_fz [.c (roU (l ++ m) z1 ((l ++ m).length + z1.length))] hN (fun t h' h => new_noRo h) ⟨fz_c (fz_us0 k1 kov), trivial⟩ ?_
  rintro _ _ ⟨rfl, z2, o2, rfl, ho2⟩
  simp (maxSteps := 4000000) only [Try.results5, ids_usC, ren_usC, lt_usC, noRo_usC, XX, Nat.reduceBEq, Nat.reduceLT, Nat.reduceAdd, Nat.reduceMul, Nat.reduceSub, Nat.reduceLeDiff, Nat.reduceEqDiff, Int.reduceToNat, Int.reduceLT, Int.reduceLE, Int.reduceAdd, Int.reduceSub, Int.reduceEq, reduceIte, Nat.reduceBNe, Int.reducePow, Nat.reducePow, Int.reduceMul, Int.reduceNeg, isB_i, isB_b, isB_y, isBv_i, isBv_b, eqCells_t, TT]
  generalize hG : H ++ [_, _] = G
  have hb : ∃ e we : Nat, H.length + 1 = e ∧ H.length = we := ⟨_, _, rfl, rfl⟩
  obtain ⟨e, we, he, hwe⟩ := hb
  have De : Dc G e we o2 (l ++ m) := by
    rw [← hG, ← he, ← hwe]
    refine ⟨0, [], z2, ?_, ?_, rfl, by omega, ho2⟩
    · rw [List.getElem?_append_right (by omega), Nat.add_sub_cancel_left]; rfl
    · rw [List.getElem?_append_right (Nat.le_refl _), Nat.sub_self]; rfl
  have Dd : Dc G 1 0 o l := by rw [← hG]; exact D0.app _
  have kA : G[w1]? = some (wU ov ((l ++ m) ++ z1)) := by rw [← hG, List.getElem?_append_left k5]; exact k1
  rw [he]
  have dist : 2 ≤ w1 ∧ w1 < we ∧ we < e := by omega
  clear hG he hwe D0 k1 k2 k3 k4 k5
  by_cases h0 : 0 < ahead
  · have d0 : decide (0 < ahead) = true := by simpa using h0
    obtain ⟨nn, hnn, hnl⟩ : ∃ nn : Nat, (if (l.length : Int) < ahead then (l.length : Int) else ahead) = (nn : Int) ∧ nn ≤ l.length := ⟨(if (l.length : Int) < ahead then (l.length : Int) else ahead).toNat, by split <;> omega, by split <;> omega⟩
    simp (maxSteps := 4000000) only [Try.results5, d0, hnn, XX, Nat.reduceBEq, Nat.reduceLT, Nat.reduceAdd, Nat.reduceMul, Nat.reduceSub, Nat.reduceLeDiff, Nat.reduceEqDiff, Int.reduceToNat, Int.reduceLT, Int.reduceLE, Int.reduceAdd, Int.reduceSub, Int.reduceEq, reduceIte, Nat.reduceBNe, Int.reducePow, Nat.reducePow, Int.reduceMul, Int.reduceNeg, isB_i, isB_b, isB_y, isBv_i, isBv_b, eqCells_t, TT]
    have hq : ∀ j, j < nn → (l.drop j).headD 0 = ((l ++ m).drop j).headD 0 := fun j hj => by
      rw [List.drop_append_of_le_length (by omega)]
      cases hd : l.drop j with
      | nil => have := congrArg List.length hd; simp at this; omega
      | cons x t => rfl
    refine loop_any cx_ok 400 (fun μ σ => ∃ (j : Nat) (H : List SB), μ = nn - j ∧ j ≤ nn ∧ Dc H 1 0 o (l.drop j) ∧ Dc H e we o2 ((l ++ m).drop j) ∧ H[w1]? = some (wU ov ((l ++ m) ++ z1)) ∧
        σ = ⟨⟨17, 0⟩, [(1, .c (roU m sq c')), (8, .c (.ptr 1 0)), (9, .c (.sl w1 0 (l ++ m).length ((l ++ m).length + z1.length))), (10, .c (.ptr e 0)), (11, .c (i64 nn)), (12, .c (i64 j))], H⟩) nn
      ⟨⟨17, 0⟩, [(1, .c (roU m sq c')), (8, .c (.ptr 1 0)), (9, .c (.sl w1 0 (l ++ m).length ((l ++ m).length + z1.length))), (10, .c (.ptr e 0)), (11, .c (i64 nn)), (12, .c (i64 (0 : Nat)))], G⟩ ⟨0, G, rfl, by omega, Dd, De, kA, rfl⟩
      (.inl ⟨rfl, rfl, rfl, rfl, rfl, rfl, rfl, rfl, trivial⟩) ?_
    rintro μ σ ⟨j, H, rfl, hj, D1, E1, kA1, rfl⟩
    by_cases hlt : j < nn
    · have dj : decide ((j : Int) < (nn : Int)) = true := by simp only [decide_eq_true_eq]; omega
      have ej : IntKind.i64.wrap ((j : Int) + 1) = ((j + 1 : Nat) : Int) := by rw [w64] <;> omega
      simp (maxSteps := 4000000) only [Try.results5, dj, XX, Nat.reduceBEq, Nat.reduceLT, Nat.reduceAdd, Nat.reduceMul, Nat.reduceSub, Nat.reduceLeDiff, Nat.reduceEqDiff, Int.reduceToNat, Int.reduceLT, Int.reduceLE, Int.reduceAdd, Int.reduceSub, Int.reduceEq, reduceIte, Nat.reduceBNe, Int.reducePow, Nat.reducePow, Int.reduceMul, Int.reduceNeg, isB_i, isB_b, isB_y, isBv_i, isBv_b, eqCells_t, TT]
      refine call_is (next_spec H 1 0 o _ D1) ?_
      rintro _ H1 ⟨rfl, D2, q1, q2⟩
      simp (maxSteps := 4000000) only [Try.results5, XX, Nat.reduceBEq, Nat.reduceLT, Nat.reduceAdd, Nat.reduceMul, Nat.reduceSub, Nat.reduceLeDiff, Nat.reduceEqDiff, Int.reduceToNat, Int.reduceLT, Int.reduceLE, Int.reduceAdd, Int.reduceSub, Int.reduceEq, reduceIte, Nat.reduceBNe, Int.reducePow, Nat.reducePow, Int.reduceMul, Int.reduceNeg, isB_i, isB_b, isB_y, isBv_i, isBv_b, eqCells_t, TT]
      have E2 := E1.mono (q2 e (by omega)) (q2 we (by omega))
      refine call_is (next_spec H1 e we o2 _ E2) ?_
      rintro _ H2 ⟨rfl, E3, q3, q4⟩
      have D3 := D2.mono (q4 1 (by omega)) (q4 0 (by omega))
      rw [hq j hlt]
      have dd : decide ((((l ++ m).drop j).headD 0 : Int) = ((((l ++ m).drop j).headD 0 : Nat) : Int)) = true := by simp
      rw [List.tail_drop] at D3 E3
      simp (maxSteps := 4000000) only [Try.results5, dd, ej, XX, Nat.reduceBEq, Nat.reduceLT, Nat.reduceAdd, Nat.reduceMul, Nat.reduceSub, Nat.reduceLeDiff, Nat.reduceEqDiff, Int.reduceToNat, Int.reduceLT, Int.reduceLE, Int.reduceAdd, Int.reduceSub, Int.reduceEq, reduceIte, Nat.reduceBNe, Int.reducePow, Nat.reducePow, Int.reduceMul, Int.reduceNeg, isB_i, isB_b, isB_y, isBv_i, isBv_b, eqCells_t, TT]
      exact ⟨nn - (j + 1), by omega, _, ⟨j + 1, H2, rfl, by omega, D3, E3, ((q4 w1 (by omega)).trans (q2 w1 (by omega))).trans kA1, rfl⟩, .inl ⟨rfl, rfl, rfl, rfl, rfl, rfl, rfl, rfl, trivial⟩⟩
    have dj : decide ((j : Int) < (nn : Int)) = false := by simp only [decide_eq_false_iff_not]; omega
    obtain rfl : j = nn := by omega
    simp (maxSteps := 4000000) only [Try.results5, dj, XX, Nat.reduceBEq, Nat.reduceLT, Nat.reduceAdd, Nat.reduceMul, Nat.reduceSub, Nat.reduceLeDiff, Nat.reduceEqDiff, Int.reduceToNat, Int.reduceLT, Int.reduceLE, Int.reduceAdd, Int.reduceSub, Int.reduceEq, reduceIte, Nat.reduceBNe, Int.reducePow, Nat.reducePow, Int.reduceMul, Int.reduceNeg, isB_i, isB_b, isB_y, isBv_i, isBv_b, eqCells_t, TT]
    refine call_is (add_spec H 1 0 o _ D1 m sq c' (by simp; omega)) ?_
    rintro _ H1 ⟨rfl, w2, ow2, D2, g1, g2, g3⟩
    have lE := E1.lt
    have lA := lt_of kA1
    have E2 := E1.mono (g3 e (by omega) (by omega) (by omega)) (g3 we (by omega) (by omega) (by omega))
    have kA2 := (g3 w1 lA (by omega) (by omega)).trans kA1
    have w2d : w2 ≠ e ∧ w2 ≠ 1 ∧ w2 ≠ we ∧ w2 ≠ w1 := by omega
    rw [← List.drop_append_of_le_length (by omega)] at D2
    clear D1 E1 kA1 g1 g2 g3 lE lA
    simp (maxSteps := 4000000) only [Try.results5, XX, Nat.reduceBEq, Nat.reduceLT, Nat.reduceAdd, Nat.reduceMul, Nat.reduceSub, Nat.reduceLeDiff, Nat.reduceEqDiff, Int.reduceToNat, Int.reduceLT, Int.reduceLE, Int.reduceAdd, Int.reduceSub, Int.reduceEq, reduceIte, Nat.reduceBNe, Int.reducePow, Nat.reducePow, Int.reduceMul, Int.reduceNeg, isB_i, isB_b, isB_y, isBv_i, isBv_b, eqCells_t, TT]
    obtain ⟨A, hA⟩ : ∃ A, A = l ++ m := ⟨_, rfl⟩
    have nA : A.length = l.length + m.length := by rw [hA]; simp
    rw [← hA] at D2 E2 kA2 ⊢
    have eA : IntKind.i64.wrap ((A.length : Int) + 1) = ((A.length + 1 : Nat) : Int) := by rw [w64] <;> omega
    refine loop_any cx_ok 400 (fun μ σ => ∃ (i : Nat) (H : List SB), μ = A.length + 1 - i ∧ i ≤ A.length + 1 ∧ Dc H 1 w2 ow2 (A.drop i) ∧ Dc H e we o2 (A.drop i) ∧ H[w1]? = some (wU ov (A ++ z1)) ∧
        σ = ⟨⟨17, 0⟩, [(8, .c (.ptr 1 0)), (9, .c (.sl w1 0 A.length (A.length + z1.length))), (10, .c (.ptr e 0)), (14, .c (i64 i))], H⟩) (A.length + 1 - j)
      ⟨⟨17, 0⟩, [(8, .c (.ptr 1 0)), (9, .c (.sl w1 0 A.length (A.length + z1.length))), (10, .c (.ptr e 0)), (14, .c (i64 j))], H1⟩ ⟨j, H1, rfl, by omega, D2, E2, kA2, rfl⟩
      (.inl ⟨rfl, rfl, rfl, rfl, rfl, rfl, trivial⟩) ?_
    rintro μ σ ⟨i, H2, rfl, hi, D3, E3, kA3, rfl⟩
    by_cases hlt2 : i < A.length + 1
    · have di : decide ((i : Int) < ((A.length + 1 : Nat) : Int)) = true := by simp only [decide_eq_true_eq]; omega
      have ei : IntKind.i64.wrap ((i : Int) + 1) = ((i + 1 : Nat) : Int) := by rw [w64] <;> omega
      simp (maxSteps := 4000000) only [Try.results5, eA, di, XX, Nat.reduceBEq, Nat.reduceLT, Nat.reduceAdd, Nat.reduceMul, Nat.reduceSub, Nat.reduceLeDiff, Nat.reduceEqDiff, Int.reduceToNat, Int.reduceLT, Int.reduceLE, Int.reduceAdd, Int.reduceSub, Int.reduceEq, reduceIte, Nat.reduceBNe, Int.reducePow, Nat.reducePow, Int.reduceMul, Int.reduceNeg, isB_i, isB_b, isB_y, isBv_i, isBv_b, eqCells_t, TT]
      refine call_is (next_spec H2 1 w2 ow2 _ D3) ?_
      rintro _ H3 ⟨rfl, D4, q1, q2⟩
      simp (maxSteps := 4000000) only [Try.results5, XX, Nat.reduceBEq, Nat.reduceLT, Nat.reduceAdd, Nat.reduceMul, Nat.reduceSub, Nat.reduceLeDiff, Nat.reduceEqDiff, Int.reduceToNat, Int.reduceLT, Int.reduceLE, Int.reduceAdd, Int.reduceSub, Int.reduceEq, reduceIte, Nat.reduceBNe, Int.reducePow, Nat.reducePow, Int.reduceMul, Int.reduceNeg, isB_i, isB_b, isB_y, isBv_i, isBv_b, eqCells_t, TT]
      have E4 := E3.mono (q2 e (by omega)) (q2 we (by omega))
      refine call_is (next_spec H3 e we o2 _ E4) ?_
      rintro _ H4 ⟨rfl, E5, q3, q4⟩
      have D5 := D4.mono (q4 1 (by omega)) (q4 w2 (by omega))
      have kA4 := ((q4 w1 (by omega)).trans (q2 w1 (by omega))).trans kA3
      rw [List.tail_drop] at D5 E5
      have lt4 := lt_of kA4
      have dd : decide (((A.drop i).headD 0 : Int) = (((A.drop i).headD 0 : Nat) : Int)) = true := by simp
      have dn : decide (((A.drop (i + 1)).length : Int) = (((A.drop (i + 1)).length : Nat) : Int)) = true := by simp
      by_cases hlt3 : i < A.length
      · have d3 : decide ((i : Int) < (A.length : Int)) = true := by simp only [decide_eq_true_eq]; omega
        have hx : (usC (A ++ z1)).getD i .any = c32 ((A.drop i).headD 0) := by
          rw [List.drop_eq_getElem_cons hlt3, List.getD_eq_getElem?_getD, List.getElem?_map, List.getElem?_append_left hlt3, List.getElem?_eq_getElem hlt3]; rfl
        simp (maxSteps := 4000000) only [Try.results5, dd, d3, kA4, lt4, hx, binS_x, XX, Nat.reduceBEq, Nat.reduceLT, Nat.reduceAdd, Nat.reduceMul, Nat.reduceSub, Nat.reduceLeDiff, Nat.reduceEqDiff, Int.reduceToNat, Int.reduceLT, Int.reduceLE, Int.reduceAdd, Int.reduceSub, Int.reduceEq, reduceIte, Nat.reduceBNe, Int.reducePow, Nat.reducePow, Int.reduceMul, Int.reduceNeg, isB_i, isB_b, isB_y, isBv_i, isBv_b, eqCells_t, TT]
        refine ⟨⟨by omega, by omega⟩, by simp; omega, ?_⟩
        refine call_is (left_spec H4 1 w2 ow2 _ D5) ?_
        rintro _ _ ⟨rfl, rfl⟩
        simp (maxSteps := 4000000) only [Try.results5, XX, Nat.reduceBEq, Nat.reduceLT, Nat.reduceAdd, Nat.reduceMul, Nat.reduceSub, Nat.reduceLeDiff, Nat.reduceEqDiff, Int.reduceToNat, Int.reduceLT, Int.reduceLE, Int.reduceAdd, Int.reduceSub, Int.reduceEq, reduceIte, Nat.reduceBNe, Int.reducePow, Nat.reducePow, Int.reduceMul, Int.reduceNeg, isB_i, isB_b, isB_y, isBv_i, isBv_b, eqCells_t, TT]
        refine call_is (left_spec _ e we o2 _ E5) ?_
        rintro _ _ ⟨rfl, rfl⟩
        simp (maxSteps := 4000000) only [Try.results5, dn, ei, XX, Nat.reduceBEq, Nat.reduceLT, Nat.reduceAdd, Nat.reduceMul, Nat.reduceSub, Nat.reduceLeDiff, Nat.reduceEqDiff, Int.reduceToNat, Int.reduceLT, Int.reduceLE, Int.reduceAdd, Int.reduceSub, Int.reduceEq, reduceIte, Nat.reduceBNe, Int.reducePow, Nat.reducePow, Int.reduceMul, Int.reduceNeg, isB_i, isB_b, isB_y, isBv_i, isBv_b, eqCells_t, TT]
        exact ⟨A.length + 1 - (i + 1), by omega, _, ⟨i + 1, _, rfl, by omega, D5, E5, by first | exact kA4 | simpa using kA4, rfl⟩, .inl ⟨rfl, rfl, rfl, rfl, rfl, rfl, trivial⟩⟩
      · have d3 : decide ((i : Int) < (A.length : Int)) = false := by simp only [decide_eq_false_iff_not]; omega
        have hiA : i = A.length := by omega
        have hx0 : ∀ z, (usC (A ++ z)).getD i .any = (usC z).getD 0 .any := fun z => by
          rw [List.getD_eq_getElem?_getD, List.getElem?_map, List.getElem?_append_right (by omega), hiA, Nat.sub_self, List.getD_eq_getElem?_getD, List.getElem?_map]
        have hx := hx0 z1
        cases z1 with
        | nil =>
          have hx : (usC A).getD i .any = .any := by rw [← List.append_nil A]; exact hx
          rw [List.append_nil] at kA4
          simp (maxSteps := 4000000) only [Try.results5, dd, d3, kA4, lt4, hx, binS_x, XX, Nat.reduceBEq, Nat.reduceLT, Nat.reduceAdd, Nat.reduceMul, Nat.reduceSub, Nat.reduceLeDiff, Nat.reduceEqDiff, Int.reduceToNat, Int.reduceLT, Int.reduceLE, Int.reduceAdd, Int.reduceSub, Int.reduceEq, reduceIte, Nat.reduceBNe, Int.reducePow, Nat.reducePow, Int.reduceMul, Int.reduceNeg, isB_i, isB_b, isB_y, isBv_i, isBv_b, eqCells_t, TT]
          refine call_is (left_spec H4 1 w2 ow2 _ D5) ?_
          rintro _ _ ⟨rfl, rfl⟩
          simp (maxSteps := 4000000) only [Try.results5, XX, Nat.reduceBEq, Nat.reduceLT, Nat.reduceAdd, Nat.reduceMul, Nat.reduceSub, Nat.reduceLeDiff, Nat.reduceEqDiff, Int.reduceToNat, Int.reduceLT, Int.reduceLE, Int.reduceAdd, Int.reduceSub, Int.reduceEq, reduceIte, Nat.reduceBNe, Int.reducePow, Nat.reducePow, Int.reduceMul, Int.reduceNeg, isB_i, isB_b, isB_y, isBv_i, isBv_b, eqCells_t, TT]
          refine call_is (left_spec _ e we o2 _ E5) ?_
          rintro _ _ ⟨rfl, rfl⟩
          simp (maxSteps := 4000000) only [Try.results5, dn, ei, XX, Nat.reduceBEq, Nat.reduceLT, Nat.reduceAdd, Nat.reduceMul, Nat.reduceSub, Nat.reduceLeDiff, Nat.reduceEqDiff, Int.reduceToNat, Int.reduceLT, Int.reduceLE, Int.reduceAdd, Int.reduceSub, Int.reduceEq, reduceIte, Nat.reduceBNe, Int.reducePow, Nat.reducePow, Int.reduceMul, Int.reduceNeg, isB_i, isB_b, isB_y, isBv_i, isBv_b, eqCells_t, TT]
          exact ⟨A.length + 1 - (i + 1), by omega, _, ⟨i + 1, _, rfl, by omega, D5, E5, by first | exact kA4 | simpa using kA4, rfl⟩, .inl ⟨rfl, rfl, rfl, rfl, rfl, rfl, trivial⟩⟩
        | cons x t =>
          have hx : (usC (A ++ x :: t)).getD i .any = c32 x := hx
          simp (maxSteps := 4000000) only [Try.results5, dd, d3, kA4, lt4, hx, binS_x, XX, Nat.reduceBEq, Nat.reduceLT, Nat.reduceAdd, Nat.reduceMul, Nat.reduceSub, Nat.reduceLeDiff, Nat.reduceEqDiff, Int.reduceToNat, Int.reduceLT, Int.reduceLE, Int.reduceAdd, Int.reduceSub, Int.reduceEq, reduceIte, Nat.reduceBNe, Int.reducePow, Nat.reducePow, Int.reduceMul, Int.reduceNeg, isB_i, isB_b, isB_y, isBv_i, isBv_b, eqCells_t, TT]
          refine call_is (left_spec H4 1 w2 ow2 _ D5) ?_
          rintro _ _ ⟨rfl, rfl⟩
          simp (maxSteps := 4000000) only [Try.results5, XX, Nat.reduceBEq, Nat.reduceLT, Nat.reduceAdd, Nat.reduceMul, Nat.reduceSub, Nat.reduceLeDiff, Nat.reduceEqDiff, Int.reduceToNat, Int.reduceLT, Int.reduceLE, Int.reduceAdd, Int.reduceSub, Int.reduceEq, reduceIte, Nat.reduceBNe, Int.reducePow, Nat.reducePow, Int.reduceMul, Int.reduceNeg, isB_i, isB_b, isB_y, isBv_i, isBv_b, eqCells_t, TT]
          refine call_is (left_spec _ e we o2 _ E5) ?_
          rintro _ _ ⟨rfl, rfl⟩
          simp (maxSteps := 4000000) only [Try.results5, dn, ei, XX, Nat.reduceBEq, Nat.reduceLT, Nat.reduceAdd, Nat.reduceMul, Nat.reduceSub, Nat.reduceLeDiff, Nat.reduceEqDiff, Int.reduceToNat, Int.reduceLT, Int.reduceLE, Int.reduceAdd, Int.reduceSub, Int.reduceEq, reduceIte, Nat.reduceBNe, Int.reducePow, Nat.reducePow, Int.reduceMul, Int.reduceNeg, isB_i, isB_b, isB_y, isBv_i, isBv_b, eqCells_t, TT]
          exact ⟨A.length + 1 - (i + 1), by omega, _, ⟨i + 1, _, rfl, by omega, D5, E5, by first | exact kA4 | simpa using kA4, rfl⟩, .inl ⟨rfl, rfl, rfl, rfl, rfl, rfl, trivial⟩⟩
    have di : decide ((i : Int) < ((A.length + 1 : Nat) : Int)) = false := by simp only [decide_eq_false_iff_not]; omega
    simp (maxSteps := 4000000) only [Try.results5, eA, di, XX, Nat.reduceBEq, Nat.reduceLT, Nat.reduceAdd, Nat.reduceMul, Nat.reduceSub, Nat.reduceLeDiff, Nat.reduceEqDiff, Int.reduceToNat, Int.reduceLT, Int.reduceLE, Int.reduceAdd, Int.reduceSub, Int.reduceEq, reduceIte, Nat.reduceBNe, Int.reducePow, Nat.reducePow, Int.reduceMul, Int.reduceNeg, isB_i, isB_b, isB_y, isBv_i, isBv_b, eqCells_t, TT]
  · have d0 : decide (0 < ahead) = false := by simpa using h0
    have hnl : 0 ≤ l.length := by omega
    simp (maxSteps := 4000000) only [Try.results5, d0, XX, Nat.reduceBEq, Nat.reduceLT, Nat.reduceAdd, Nat.reduceMul, Nat.reduceSub, Nat.reduceLeDiff, Nat.reduceEqDiff, Int.reduceToNat, Int.reduceLT, Int.reduceLE, Int.reduceAdd, Int.reduceSub, Int.reduceEq, reduceIte, Nat.reduceBNe, Int.reducePow, Nat.reducePow, Int.reduceMul, Int.reduceNeg, isB_i, isB_b, isB_y, isBv_i, isBv_b, eqCells_t, TT]
    have hq : ∀ j, j < (0 : Nat) → (l.drop j).headD 0 = ((l ++ m).drop j).headD 0 := fun j hj => by
      rw [List.drop_append_of_le_length (by omega)]
      cases hd : l.drop j with
      | nil => have := congrArg List.length hd; simp at this; omega
      | cons x t => rfl
    refine loop_any cx_ok 400 (fun μ σ => ∃ (j : Nat) (H : List SB), μ = (0 : Nat) - j ∧ j ≤ (0 : Nat) ∧ Dc H 1 0 o (l.drop j) ∧ Dc H e we o2 ((l ++ m).drop j) ∧ H[w1]? = some (wU ov ((l ++ m) ++ z1)) ∧
        σ = ⟨⟨17, 0⟩, [(1, .c (roU m sq c')), (8, .c (.ptr 1 0)), (9, .c (.sl w1 0 (l ++ m).length ((l ++ m).length + z1.length))), (10, .c (.ptr e 0)), (11, .c (i64 (0 : Nat))), (12, .c (i64 j))], H⟩) (0 : Nat)
      ⟨⟨17, 0⟩, [(1, .c (roU m sq c')), (8, .c (.ptr 1 0)), (9, .c (.sl w1 0 (l ++ m).length ((l ++ m).length + z1.length))), (10, .c (.ptr e 0)), (11, .c (i64 (0 : Nat))), (12, .c (i64 (0 : Nat)))], G⟩ ⟨0, G, rfl, by omega, Dd, De, kA, rfl⟩
      (.inl ⟨rfl, rfl, rfl, rfl, rfl, rfl, rfl, rfl, trivial⟩) ?_
    rintro μ σ ⟨j, H, rfl, hj, D1, E1, kA1, rfl⟩
    have dj : decide ((j : Int) < 0) = false := by simp only [decide_eq_false_iff_not]; omega
    obtain rfl : j = (0 : Nat) := by omega
    simp (maxSteps := 4000000) only [Try.results5, dj, XX, Nat.reduceBEq, Nat.reduceLT, Nat.reduceAdd, Nat.reduceMul, Nat.reduceSub, Nat.reduceLeDiff, Nat.reduceEqDiff, Int.reduceToNat, Int.reduceLT, Int.reduceLE, Int.reduceAdd, Int.reduceSub, Int.reduceEq, reduceIte, Nat.reduceBNe, Int.reducePow, Nat.reducePow, Int.reduceMul, Int.reduceNeg, isB_i, isB_b, isB_y, isBv_i, isBv_b, eqCells_t, TT]
    refine call_is (add_spec H 1 0 o _ D1 m sq c' (by simp; omega)) ?_
    rintro _ H1 ⟨rfl, w2, ow2, D2, g1, g2, g3⟩
    have lE := E1.lt
    have lA := lt_of kA1
    have E2 := E1.mono (g3 e (by omega) (by omega) (by omega)) (g3 we (by omega) (by omega) (by omega))
    have kA2 := (g3 w1 lA (by omega) (by omega)).trans kA1
    have w2d : w2 ≠ e ∧ w2 ≠ 1 ∧ w2 ≠ we ∧ w2 ≠ w1 := by omega
    rw [← List.drop_append_of_le_length (by omega)] at D2
    clear D1 E1 kA1 g1 g2 g3 lE lA
    simp (maxSteps := 4000000) only [Try.results5, XX, Nat.reduceBEq, Nat.reduceLT, Nat.reduceAdd, Nat.reduceMul, Nat.reduceSub, Nat.reduceLeDiff, Nat.reduceEqDiff, Int.reduceToNat, Int.reduceLT, Int.reduceLE, Int.reduceAdd, Int.reduceSub, Int.reduceEq, reduceIte, Nat.reduceBNe, Int.reducePow, Nat.reducePow, Int.reduceMul, Int.reduceNeg, isB_i, isB_b, isB_y, isBv_i, isBv_b, eqCells_t, TT]
    obtain ⟨A, hA⟩ : ∃ A, A = l ++ m := ⟨_, rfl⟩
    have nA : A.length = l.length + m.length := by rw [hA]; simp
    rw [← hA] at D2 E2 kA2 ⊢
    have eA : IntKind.i64.wrap ((A.length : Int) + 1) = ((A.length + 1 : Nat) : Int) := by rw [w64] <;> omega
    refine loop_any cx_ok 400 (fun μ σ => ∃ (i : Nat) (H : List SB), μ = A.length + 1 - i ∧ i ≤ A.length + 1 ∧ Dc H 1 w2 ow2 (A.drop i) ∧ Dc H e we o2 (A.drop i) ∧ H[w1]? = some (wU ov (A ++ z1)) ∧
        σ = ⟨⟨17, 0⟩, [(8, .c (.ptr 1 0)), (9, .c (.sl w1 0 A.length (A.length + z1.length))), (10, .c (.ptr e 0)), (14, .c (i64 i))], H⟩) (A.length + 1 - 0)
      ⟨⟨17, 0⟩, [(8, .c (.ptr 1 0)), (9, .c (.sl w1 0 A.length (A.length + z1.length))), (10, .c (.ptr e 0)), (14, .c (i64 (0 : Nat)))], H1⟩ ⟨0, H1, rfl, by omega, D2, E2, kA2, rfl⟩
      (.inl ⟨rfl, rfl, rfl, rfl, rfl, rfl, trivial⟩) ?_
    rintro μ σ ⟨i, H2, rfl, hi, D3, E3, kA3, rfl⟩
    by_cases hlt2 : i < A.length + 1
    · have di : decide ((i : Int) < ((A.length + 1 : Nat) : Int)) = true := by simp only [decide_eq_true_eq]; omega
      have ei : IntKind.i64.wrap ((i : Int) + 1) = ((i + 1 : Nat) : Int) := by rw [w64] <;> omega
      simp (maxSteps := 4000000) only [Try.results5, eA, di, XX, Nat.reduceBEq, Nat.reduceLT, Nat.reduceAdd, Nat.reduceMul, Nat.reduceSub, Nat.reduceLeDiff, Nat.reduceEqDiff, Int.reduceToNat, Int.reduceLT, Int.reduceLE, Int.reduceAdd, Int.reduceSub, Int.reduceEq, reduceIte, Nat.reduceBNe, Int.reducePow, Nat.reducePow, Int.reduceMul, Int.reduceNeg, isB_i, isB_b, isB_y, isBv_i, isBv_b, eqCells_t, TT]
      refine call_is (next_spec H2 1 w2 ow2 _ D3) ?_
      rintro _ H3 ⟨rfl, D4, q1, q2⟩
      simp (maxSteps := 4000000) only [Try.results5, XX, Nat.reduceBEq, Nat.reduceLT, Nat.reduceAdd, Nat.reduceMul, Nat.reduceSub, Nat.reduceLeDiff, Nat.reduceEqDiff, Int.reduceToNat, Int.reduceLT, Int.reduceLE, Int.reduceAdd, Int.reduceSub, Int.reduceEq, reduceIte, Nat.reduceBNe, Int.reducePow, Nat.reducePow, Int.reduceMul, Int.reduceNeg, isB_i, isB_b, isB_y, isBv_i, isBv_b, eqCells_t, TT]
      have E4 := E3.mono (q2 e (by omega)) (q2 we (by omega))
      refine call_is (next_spec H3 e we o2 _ E4) ?_
      rintro _ H4 ⟨rfl, E5, q3, q4⟩
      have D5 := D4.mono (q4 1 (by omega)) (q4 w2 (by omega))
      have kA4 := ((q4 w1 (by omega)).trans (q2 w1 (by omega))).trans kA3
      rw [List.tail_drop] at D5 E5
      have lt4 := lt_of kA4
      have dd : decide (((A.drop i).headD 0 : Int) = (((A.drop i).headD 0 : Nat) : Int)) = true := by simp
      have dn : decide (((A.drop (i + 1)).length : Int) = (((A.drop (i + 1)).length : Nat) : Int)) = true := by simp
      by_cases hlt3 : i < A.length
      · have d3 : decide ((i : Int) < (A.length : Int)) = true := by simp only [decide_eq_true_eq]; omega
        have hx : (usC (A ++ z1)).getD i .any = c32 ((A.drop i).headD 0) := by
          rw [List.drop_eq_getElem_cons hlt3, List.getD_eq_getElem?_getD, List.getElem?_map, List.getElem?_append_left hlt3, List.getElem?_eq_getElem hlt3]; rfl
        simp (maxSteps := 4000000) only [Try.results5, dd, d3, kA4, lt4, hx, binS_x, XX, Nat.reduceBEq, Nat.reduceLT, Nat.reduceAdd, Nat.reduceMul, Nat.reduceSub, Nat.reduceLeDiff, Nat.reduceEqDiff, Int.reduceToNat, Int.reduceLT, Int.reduceLE, Int.reduceAdd, Int.reduceSub, Int.reduceEq, reduceIte, Nat.reduceBNe, Int.reducePow, Nat.reducePow, Int.reduceMul, Int.reduceNeg, isB_i, isB_b, isB_y, isBv_i, isBv_b, eqCells_t, TT]
        refine ⟨⟨by omega, by omega⟩, by simp; omega, ?_⟩
        refine call_is (left_spec H4 1 w2 ow2 _ D5) ?_
        rintro _ _ ⟨rfl, rfl⟩
        simp (maxSteps := 4000000) only [Try.results5, XX, Nat.reduceBEq, Nat.reduceLT, Nat.reduceAdd, Nat.reduceMul, Nat.reduceSub, Nat.reduceLeDiff, Nat.reduceEqDiff, Int.reduceToNat, Int.reduceLT, Int.reduceLE, Int.reduceAdd, Int.reduceSub, Int.reduceEq, reduceIte, Nat.reduceBNe, Int.reducePow, Nat.reducePow, Int.reduceMul, Int.reduceNeg, isB_i, isB_b, isB_y, isBv_i, isBv_b, eqCells_t, TT]
        refine call_is (left_spec _ e we o2 _ E5) ?_
        rintro _ _ ⟨rfl, rfl⟩
        simp (maxSteps := 4000000) only [Try.results5, dn, ei, XX, Nat.reduceBEq, Nat.reduceLT, Nat.reduceAdd, Nat.reduceMul, Nat.reduceSub, Nat.reduceLeDiff, Nat.reduceEqDiff, Int.reduceToNat, Int.reduceLT, Int.reduceLE, Int.reduceAdd, Int.reduceSub, Int.reduceEq, reduceIte, Nat.reduceBNe, Int.reducePow, Nat.reducePow, Int.reduceMul, Int.reduceNeg, isB_i, isB_b, isB_y, isBv_i, isBv_b, eqCells_t, TT]
        exact ⟨A.length + 1 - (i + 1), by omega, _, ⟨i + 1, _, rfl, by omega, D5, E5, by first | exact kA4 | simpa using kA4, rfl⟩, .inl ⟨rfl, rfl, rfl, rfl, rfl, rfl, trivial⟩⟩
      · have d3 : decide ((i : Int) < (A.length : Int)) = false := by simp only [decide_eq_false_iff_not]; omega
        have hiA : i = A.length := by omega
        have hx0 : ∀ z, (usC (A ++ z)).getD i .any = (usC z).getD 0 .any := fun z => by
          rw [List.getD_eq_getElem?_getD, List.getElem?_map, List.getElem?_append_right (by omega), hiA, Nat.sub_self, List.getD_eq_getElem?_getD, List.getElem?_map]
        have hx := hx0 z1
        cases z1 with
        | nil =>
          have hx : (usC A).getD i .any = .any := by rw [← List.append_nil A]; exact hx
          rw [List.append_nil] at kA4
          simp (maxSteps := 4000000) only [Try.results5, dd, d3, kA4, lt4, hx, binS_x, XX, Nat.reduceBEq, Nat.reduceLT, Nat.reduceAdd, Nat.reduceMul, Nat.reduceSub, Nat.reduceLeDiff, Nat.reduceEqDiff, Int.reduceToNat, Int.reduceLT, Int.reduceLE, Int.reduceAdd, Int.reduceSub, Int.reduceEq, reduceIte, Nat.reduceBNe, Int.reducePow, Nat.reducePow, Int.reduceMul, Int.reduceNeg, isB_i, isB_b, isB_y, isBv_i, isBv_b, eqCells_t, TT]
          refine call_is (left_spec H4 1 w2 ow2 _ D5) ?_
          rintro _ _ ⟨rfl, rfl⟩
          simp (maxSteps := 4000000) only [Try.results5, XX, Nat.reduceBEq, Nat.reduceLT, Nat.reduceAdd, Nat.reduceMul, Nat.reduceSub, Nat.reduceLeDiff, Nat.reduceEqDiff, Int.reduceToNat, Int.reduceLT, Int.reduceLE, Int.reduceAdd, Int.reduceSub, Int.reduceEq, reduceIte, Nat.reduceBNe, Int.reducePow, Nat.reducePow, Int.reduceMul, Int.reduceNeg, isB_i, isB_b, isB_y, isBv_i, isBv_b, eqCells_t, TT]
          refine call_is (left_spec _ e we o2 _ E5) ?_
          rintro _ _ ⟨rfl, rfl⟩
          simp (maxSteps := 4000000) only [Try.results5, dn, ei, XX, Nat.reduceBEq, Nat.reduceLT, Nat.reduceAdd, Nat.reduceMul, Nat.reduceSub, Nat.reduceLeDiff, Nat.reduceEqDiff, Int.reduceToNat, Int.reduceLT, Int.reduceLE, Int.reduceAdd, Int.reduceSub, Int.reduceEq, reduceIte, Nat.reduceBNe, Int.reducePow, Nat.reducePow, Int.reduceMul, Int.reduceNeg, isB_i, isB_b, isB_y, isBv_i, isBv_b, eqCells_t, TT]
          exact ⟨A.length + 1 - (i + 1), by omega, _, ⟨i + 1, _, rfl, by omega, D5, E5, by first | exact kA4 | simpa using kA4, rfl⟩, .inl ⟨rfl, rfl, rfl, rfl, rfl, rfl, trivial⟩⟩
        | cons x t =>
          have hx : (usC (A ++ x :: t)).getD i .any = c32 x := hx
          simp (maxSteps := 4000000) only [Try.results5, dd, d3, kA4, lt4, hx, binS_x, XX, Nat.reduceBEq, Nat.reduceLT, Nat.reduceAdd, Nat.reduceMul, Nat.reduceSub, Nat.reduceLeDiff, Nat.reduceEqDiff, Int.reduceToNat, Int.reduceLT, Int.reduceLE, Int.reduceAdd, Int.reduceSub, Int.reduceEq, reduceIte, Nat.reduceBNe, Int.reducePow, Nat.reducePow, Int.reduceMul, Int.reduceNeg, isB_i, isB_b, isB_y, isBv_i, isBv_b, eqCells_t, TT]
          refine call_is (left_spec H4 1 w2 ow2 _ D5) ?_
          rintro _ _ ⟨rfl, rfl⟩
          simp (maxSteps := 4000000) only [Try.results5, XX, Nat.reduceBEq, Nat.reduceLT, Nat.reduceAdd, Nat.reduceMul, Nat.reduceSub, Nat.reduceLeDiff, Nat.reduceEqDiff, Int.reduceToNat, Int.reduceLT, Int.reduceLE, Int.reduceAdd, Int.reduceSub, Int.reduceEq, reduceIte, Nat.reduceBNe, Int.reducePow, Nat.reducePow, Int.reduceMul, Int.reduceNeg, isB_i, isB_b, isB_y, isBv_i, isBv_b, eqCells_t, TT]
          refine call_is (left_spec _ e we o2 _ E5) ?_
          rintro _ _ ⟨rfl, rfl⟩
          simp (maxSteps := 4000000) only [Try.results5, dn, ei, XX, Nat.reduceBEq, Nat.reduceLT, Nat.reduceAdd, Nat.reduceMul, Nat.reduceSub, Nat.reduceLeDiff, Nat.reduceEqDiff, Int.reduceToNat, Int.reduceLT, Int.reduceLE, Int.reduceAdd, Int.reduceSub, Int.reduceEq, reduceIte, Nat.reduceBNe, Int.reducePow, Nat.reducePow, Int.reduceMul, Int.reduceNeg, isB_i, isB_b, isB_y, isBv_i, isBv_b, eqCells_t, TT]
          exact ⟨A.length + 1 - (i + 1), by omega, _, ⟨i + 1, _, rfl, by omega, D5, E5, by first | exact kA4 | simpa using kA4, rfl⟩, .inl ⟨rfl, rfl, rfl, rfl, rfl, rfl, trivial⟩⟩
    have di : decide ((i : Int) < ((A.length + 1 : Nat) : Int)) = false := by simp only [decide_eq_false_iff_not]; omega
    simp (maxSteps := 4000000) only [Try.results5, eA, di, XX, Nat.reduceBEq, Nat.reduceLT, Nat.reduceAdd, Nat.reduceMul, Nat.reduceSub, Nat.reduceLeDiff, Nat.reduceEqDiff, Int.reduceToNat, Int.reduceLT, Int.reduceLE, Int.reduceAdd, Int.reduceSub, Int.reduceEq, reduceIte, Nat.reduceBNe, Int.reducePow, Nat.reducePow, Int.reduceMul, Int.reduceNeg, isB_i, isB_b, isB_y, isBv_i, isBv_b, eqCells_t, TT]

end Go.Proofs.Ytniednekfnfhmaa.Sx
