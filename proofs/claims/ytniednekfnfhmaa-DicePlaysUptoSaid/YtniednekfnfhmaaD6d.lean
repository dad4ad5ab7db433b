/- The symbolic executor, at work: draws that are added; the chapter's examples. No condition. -/
import Derived.Test.YtniednekfnfhmaaD6c
namespace Go.Proofs.Ytniednekfnfhmaa.Sx
open Go
set_option linter.unusedSimpArgs false
set_option linter.unusedVariables false
set_option maxRecDepth 10000
set_option maxHeartbeats 2000000

theorem new_noRo {l : List Nat} {t : SV} {h' : List SB} (h : t = .c (.ptr 1 0) ∧ ∃ z o, h' = [wU o (l ++ z), dB 0 0 l.length (l.length + z.length)] ∧ (0 < l.length + z.length → o = true)) : t.noRo = true ∧ (h'.all fun b => b.cells.all SC.noRo) = true := by
  obtain ⟨rfl, z, o, rfl, _⟩ := h
  exact ⟨rfl, by simp only [XX, Nat.reduceBEq, Nat.reduceLT, Nat.reduceAdd, Nat.reduceMul, Nat.reduceSub, Nat.reduceLeDiff, Nat.reduceEqDiff, Int.reduceToNat, Int.reduceLT, Int.reduceLE, Int.reduceAdd, Int.reduceSub, Int.reduceEq, reduceIte, Nat.reduceBNe, Int.reducePow, Nat.reducePow, Int.reduceMul, Int.reduceNeg, isB_i, isB_b, isB_y, isBv_i, isBv_b, eqCells_t, TT, noRo_usC]⟩

theorem add_spec (H : List SB) (i w : Nat) (ow : Bool) (L : List Nat) (D : Dc H i w ow L) (M sp : List Nat) (c : Nat) (hl : 4 * (L.length + M.length) ≤ 140737488355328) : Spec cx.P 20 [.c (.ptr i 0), .c (roU M sp c)] H fun t h' => t = .tup [] ∧ ∃ w' ow', Dc h' i w' ow' (L ++ M) ∧ (w' = w ∨ H.length ≤ w') ∧ H.length ≤ h'.length ∧ ∀ k, k < H.length → k ≠ i → k ≠ w → h'[k]? = H[k]? := by
  obtain ⟨o, pre, sq, h1, h2, h3, h4, h5⟩ := D.ex
  have lt1 := lt_of h1
  have lt2 := lt_of h2
  have e0 : (usR (M ++ sp)).take M.length = usR M := by rw [urs_take, List.take_left' rfl]
  refine spec_of_X cx_ok Try.func20 rfl (by kernel_rfl) (by kernel_rfl) (Nat.le_of_ble_eq_true rfl) 400 2 ?_
  simp (maxSteps := 4000000) only [Try.results20, XX, Nat.reduceBEq, Nat.reduceLT, Nat.reduceAdd, Nat.reduceMul, Nat.reduceSub, Nat.reduceLeDiff, Nat.reduceEqDiff, Int.reduceToNat, Int.reduceLT, Int.reduceLE, Int.reduceAdd, Int.reduceSub, Int.reduceEq, reduceIte, Nat.reduceBNe, Int.reducePow, Nat.reducePow, Int.reduceMul, Int.reduceNeg, isB_i, isB_b, isB_y, isBv_i, isBv_b, eqCells_t, TT]
  simp (maxSteps := 4000000) only [Try.results20, h1, lt1, h2, lt2, e0, usR_toSC, XX, Nat.reduceBEq, Nat.reduceLT, Nat.reduceAdd, Nat.reduceMul, Nat.reduceSub, Nat.reduceLeDiff, Nat.reduceEqDiff, Int.reduceToNat, Int.reduceLT, Int.reduceLE, Int.reduceAdd, Int.reduceSub, Int.reduceEq, reduceIte, Nat.reduceBNe, Int.reducePow, Nat.reducePow, Int.reduceMul, Int.reduceNeg, isB_i, isB_b, isB_y, isBv_i, isBv_b, eqCells_t, TT]
  refine ⟨⟨⟨by omega, by unfold maxLen; omega, by simp; omega, fun h => ⟨?_, by simp; omega⟩⟩, by simp⟩, ?_⟩
  · by_cases hm0 : M.length = 0
    · exact .inl hm0
    · exact .inr (h5 (by omega))
  refine xapp_P (fun s h' => ∃ (w' o' : Nat) (ow' : Bool) (pre' sq' : List Nat), s = .c (.sl w' o' (L.length + M.length) (L.length + M.length + sq'.length)) ∧ h'[w']? = some (wU ow' (pre' ++ ((L ++ M) ++ sq'))) ∧ pre'.length = o' ∧ w' ≠ i ∧ h'[i]? = H[i]? ∧ (w' = w ∨ H.length ≤ w') ∧ H.length ≤ h'.length ∧ (0 < L.length + M.length + sq'.length → ow' = true) ∧ ∀ k, k < H.length → k ≠ w → h'[k]? = H[k]?) (fun h => ?_) (fun h c' g1 g2 => ?_) ?_
  · refine ⟨w, o, ow, pre, sq.drop M.length, ?_, ?_, h3, h4, List.getElem?_set_ne h4, .inl rfl, by simp, fun hh => h5 (by rw [List.length_drop] at hh; omega), fun k _ hk => List.getElem?_set_ne (Ne.symm hk)⟩
    · have : L.length + M.length + (sq.drop M.length).length = L.length + sq.length := by simp; omega
      rw [this]
    · rw [List.getElem?_set_self lt2]
      have t1 : (usC (pre ++ (L ++ sq))).take (o + L.length) = usC (pre ++ L) := by
        rw [us_take, ← List.append_assoc, List.take_left' (by simp; omega)]
      have t2 : (usC (pre ++ (L ++ sq))).drop (o + L.length + (usC M).length) = usC (sq.drop M.length) := by
        rw [us_drop, usC_len, ← List.append_assoc, List.drop_append, List.drop_of_length_le (by simp; omega), List.nil_append]
        congr 2
        simp; omega
      rw [t1, t2, us_app, us_app]
      simp
  · obtain ⟨r, rfl⟩ := Nat.exists_eq_add_of_le g1
    refine ⟨H.length, 0, true, [], List.replicate r 0, by simp, ?_, rfl, by omega, List.getElem?_append_left lt1, .inr (Nat.le_refl _), by simp, fun _ => rfl, fun k hk _ => List.getElem?_append_left hk⟩
    rw [List.getElem?_append_right (Nat.le_refl _), Nat.sub_self, Nat.add_sub_cancel_left, zerosU, us_drop, us_take, ← h3, List.drop_left' rfl, List.take_left' rfl, us_app, us_app]
    simp
  rintro s H' ⟨w', o', ow', pre', sq', rfl, k1, k2, k3, k4, k6, k7, k9, k8⟩
  have k5 := k4.trans h1
  have lt5 := lt_of k5
  simp (maxSteps := 4000000) only [Try.results20, k5, lt5, XX, Nat.reduceBEq, Nat.reduceLT, Nat.reduceAdd, Nat.reduceMul, Nat.reduceSub, Nat.reduceLeDiff, Nat.reduceEqDiff, Int.reduceToNat, Int.reduceLT, Int.reduceLE, Int.reduceAdd, Int.reduceSub, Int.reduceEq, reduceIte, Nat.reduceBNe, Int.reducePow, Nat.reducePow, Int.reduceMul, Int.reduceNeg, isB_i, isB_b, isB_y, isBv_i, isBv_b, eqCells_t, TT]
  refine ⟨w', ow', ⟨o', pre', sq', ?_, ?_, k2, k3, by simpa using k9⟩, k6, by simpa using k7, fun k hk hne hw => (List.getElem?_set_ne (Ne.symm hne)).trans (k8 k hk hw)⟩
  · rw [List.getElem?_set_self lt5, List.length_append]
  · rw [List.getElem?_set_ne (Ne.symm k3), k1]

theorem addW_spec (H : List SB) (i w : Nat) (ow : Bool) (L : List Nat) (D : Dc H i w ow L) (M sp : List Nat) (wm : Nat) (om : Bool) (hm : H[wm]? = some (wU om (M ++ sp))) (hl : 4 * (L.length + M.length) ≤ 140737488355328) : Spec cx.P 20 [.c (.ptr i 0), .c (.sl wm 0 M.length (M.length + sp.length))] H fun t h' => t = .tup [] ∧ ∃ w' ow', Dc h' i w' ow' (L ++ M) ∧ (w' = w ∨ H.length ≤ w') ∧ H.length ≤ h'.length ∧ ∀ k, k < H.length → k ≠ i → k ≠ w → h'[k]? = H[k]? := by
  obtain ⟨o, pre, sq, h1, h2, h3, h4, h5⟩ := D.ex
  have lt1 := lt_of h1
  have lt2 := lt_of h2
  have e0 : (usC (M ++ sp)).take M.length = usC M := by rw [us_take, List.take_left' rfl]
  have ltm := lt_of hm
  refine spec_of_X cx_ok Try.func20 rfl (by kernel_rfl) (by kernel_rfl) (Nat.le_of_ble_eq_true rfl) 400 2 ?_
  simp (maxSteps := 4000000) only [Try.results20, XX, Nat.reduceBEq, Nat.reduceLT, Nat.reduceAdd, Nat.reduceMul, Nat.reduceSub, Nat.reduceLeDiff, Nat.reduceEqDiff, Int.reduceToNat, Int.reduceLT, Int.reduceLE, Int.reduceAdd, Int.reduceSub, Int.reduceEq, reduceIte, Nat.reduceBNe, Int.reducePow, Nat.reducePow, Int.reduceMul, Int.reduceNeg, isB_i, isB_b, isB_y, isBv_i, isBv_b, eqCells_t, TT]
  simp (maxSteps := 4000000) only [Try.results20, h1, lt1, h2, lt2, e0, hm, ltm, List.drop_zero, XX, Nat.reduceBEq, Nat.reduceLT, Nat.reduceAdd, Nat.reduceMul, Nat.reduceSub, Nat.reduceLeDiff, Nat.reduceEqDiff, Int.reduceToNat, Int.reduceLT, Int.reduceLE, Int.reduceAdd, Int.reduceSub, Int.reduceEq, reduceIte, Nat.reduceBNe, Int.reducePow, Nat.reducePow, Int.reduceMul, Int.reduceNeg, isB_i, isB_b, isB_y, isBv_i, isBv_b, eqCells_t, TT]
  refine ⟨⟨⟨by omega, by unfold maxLen; omega, by simp; omega, fun h => ⟨?_, by simp; omega⟩⟩, by simp⟩, ?_⟩
  · by_cases hm0 : M.length = 0
    · exact .inl hm0
    · exact .inr (h5 (by omega))
  refine xapp_P (fun s h' => ∃ (w' o' : Nat) (ow' : Bool) (pre' sq' : List Nat), s = .c (.sl w' o' (L.length + M.length) (L.length + M.length + sq'.length)) ∧ h'[w']? = some (wU ow' (pre' ++ ((L ++ M) ++ sq'))) ∧ pre'.length = o' ∧ w' ≠ i ∧ h'[i]? = H[i]? ∧ (w' = w ∨ H.length ≤ w') ∧ H.length ≤ h'.length ∧ (0 < L.length + M.length + sq'.length → ow' = true) ∧ ∀ k, k < H.length → k ≠ w → h'[k]? = H[k]?) (fun h => ?_) (fun h c' g1 g2 => ?_) ?_
  · refine ⟨w, o, ow, pre, sq.drop M.length, ?_, ?_, h3, h4, List.getElem?_set_ne h4, .inl rfl, by simp, fun hh => h5 (by rw [List.length_drop] at hh; omega), fun k _ hk => List.getElem?_set_ne (Ne.symm hk)⟩
    · have : L.length + M.length + (sq.drop M.length).length = L.length + sq.length := by simp; omega
      rw [this]
    · rw [List.getElem?_set_self lt2]
      have t1 : (usC (pre ++ (L ++ sq))).take (o + L.length) = usC (pre ++ L) := by
        rw [us_take, ← List.append_assoc, List.take_left' (by simp; omega)]
      have t2 : (usC (pre ++ (L ++ sq))).drop (o + L.length + (usC M).length) = usC (sq.drop M.length) := by
        rw [us_drop, usC_len, ← List.append_assoc, List.drop_append, List.drop_of_length_le (by simp; omega), List.nil_append]
        congr 2
        simp; omega
      rw [t1, t2, us_app, us_app]
      simp
  · obtain ⟨r, rfl⟩ := Nat.exists_eq_add_of_le g1
    refine ⟨H.length, 0, true, [], List.replicate r 0, by simp, ?_, rfl, by omega, List.getElem?_append_left lt1, .inr (Nat.le_refl _), by simp, fun _ => rfl, fun k hk _ => List.getElem?_append_left hk⟩
    rw [List.getElem?_append_right (Nat.le_refl _), Nat.sub_self, Nat.add_sub_cancel_left, zerosU, us_drop, us_take, ← h3, List.drop_left' rfl, List.take_left' rfl, us_app, us_app]
    simp
  rintro s H' ⟨w', o', ow', pre', sq', rfl, k1, k2, k3, k4, k6, k7, k9, k8⟩
  have k5 := k4.trans h1
  have lt5 := lt_of k5
  simp (maxSteps := 4000000) only [Try.results20, k5, lt5, XX, Nat.reduceBEq, Nat.reduceLT, Nat.reduceAdd, Nat.reduceMul, Nat.reduceSub, Nat.reduceLeDiff, Nat.reduceEqDiff, Int.reduceToNat, Int.reduceLT, Int.reduceLE, Int.reduceAdd, Int.reduceSub, Int.reduceEq, reduceIte, Nat.reduceBNe, Int.reducePow, Nat.reducePow, Int.reduceMul, Int.reduceNeg, isB_i, isB_b, isB_y, isBv_i, isBv_b, eqCells_t, TT]
  refine ⟨w', ow', ⟨o', pre', sq', ?_, ?_, k2, k3, by simpa using k9⟩, k6, by simpa using k7, fun k hk hne hw => (List.getElem?_set_ne (Ne.symm hne)).trans (k8 k hk hw)⟩
  · rw [List.getElem?_set_self lt5, List.length_append]
  · rw [List.getElem?_set_ne (Ne.symm k3), k1]

theorem frL_us {ok : Nat → Bool} {h : List SB} (b : List Nat) : ∀ a : List Nat, frL ok h (usR a) (usC (a ++ b))
  | [] => by simp only [usR, List.map_nil, frL]
  | x :: a => ⟨rfl, frL_us b a⟩
theorem fz_us {r : Nat → Nat} {n : Nat} {h : List SB} {i o c : Nat} {l sp : List Nat} {b : SB} (hb : h[i]? = some b) (hv : b.void = false) (hc : b.cells.drop o = usC (l ++ sp)) : frC true (fun _ => true) r n h (.sl i o l.length c) (roU l sp c) :=
  .inr ⟨rfl, .inl ⟨_, _, _, rfl, .inr (.inr ⟨i, o, rfl, .inr ⟨rfl, b, hb, hv, by
    have := frL_us (ok := fun _ => true) (h := h) [] (l ++ sp)
    rw [List.append_nil] at this
    rw [hc]; exact this⟩⟩)⟩⟩
theorem Dc.mono {H H' : List SB} {i w : Nat} {ow : Bool} {L : List Nat} (D : Dc H i w ow L) (h1 : H'[i]? = H[i]?) (h2 : H'[w]? = H[w]?)   : Dc H' i w ow L := by
  obtain ⟨o, pre, sp, g1, g2, g3, g4, g5⟩ := D.ex
  exact ⟨o, pre, sp, h1.trans g1, h2.trans g2, g3, g4, g5⟩
theorem Dc.lt {H : List SB} {i w : Nat} {ow : Bool} {L : List Nat} (D : Dc H i w ow L) : i < H.length ∧ w < H.length := by
  obtain ⟨o, pre, sp, g1, g2, g3, g4, g5⟩ := D.ex
  exact ⟨lt_of g1, lt_of g2⟩
theorem Dc.keep {H H' : List SB} {i w j : Nat} {ow : Bool} {L : List Nat} (D : Dc H i w ow L) (k : KeepD H H' j) (h1 : i ≠ j) (h2 : w ≠ j)   : Dc H' i w ow L :=
  D.mono (k.2 i D.lt.1 h1) (k.2 w D.lt.2 h2)

theorem awake_spec : Spec cx.P 6 [] [] fun s _ => s.plain = true ∧ s = .c (bC true) := by
  refine spec_of_X cx_ok Try.func6 rfl (by kernel_rfl) (by kernel_rfl) (Nat.le_of_ble_eq_true rfl) 400 12 ?_
  simp (maxSteps := 4000000) only [Try.results6, XX, Nat.reduceBEq, Nat.reduceLT, Nat.reduceAdd, Nat.reduceMul, Nat.reduceSub, Nat.reduceLeDiff, Nat.reduceEqDiff, Int.reduceToNat, Int.reduceLT, Int.reduceLE, Int.reduceAdd, Int.reduceSub, Int.reduceEq, reduceIte, Nat.reduceBNe, Int.reducePow, Nat.reducePow, Int.reduceMul, Int.reduceNeg, isB_i, isB_b, isB_y, isBv_i, isBv_b, eqCells_t, TT]
  refine call_fz [.c (roU [] [] 0)] (new_spec [] [] 0 (by simp) (by simp)) (fun t h' h => new_noRo h) ⟨.inr (.inl ⟨_, _, rfl, rfl, .inr ⟨rfl, .inl ⟨_, _, _, rfl, .inr (.inl ⟨rfl, rfl, rfl⟩)⟩⟩⟩), trivial⟩ ?_
  rintro _ _ ⟨rfl, z, o, rfl, ho⟩
  simp (maxSteps := 4000000) only [Try.results6, ids_usC, ren_usC, lt_usC, noRo_usC, XX, Nat.reduceBEq, Nat.reduceLT, Nat.reduceAdd, Nat.reduceMul, Nat.reduceSub, Nat.reduceLeDiff, Nat.reduceEqDiff, Int.reduceToNat, Int.reduceLT, Int.reduceLE, Int.reduceAdd, Int.reduceSub, Int.reduceEq, reduceIte, Nat.reduceBNe, Int.reducePow, Nat.reducePow, Int.reduceMul, Int.reduceNeg, isB_i, isB_b, isB_y, isBv_i, isBv_b, eqCells_t, TT]
  simp only [List.replicate_succ, List.replicate_zero, List.flatten_cons, List.flatten_nil, List.cons_append, List.nil_append, List.drop_succ_cons, List.drop_zero, List.length_cons, List.length_nil, Nat.reduceAdd, Nat.reduceLeDiff, reduceIte]
  simp (maxSteps := 4000000) only [Try.results6, XX, Nat.reduceBEq, Nat.reduceLT, Nat.reduceAdd, Nat.reduceMul, Nat.reduceSub, Nat.reduceLeDiff, Nat.reduceEqDiff, Int.reduceToNat, Int.reduceLT, Int.reduceLE, Int.reduceAdd, Int.reduceSub, Int.reduceEq, reduceIte, Nat.reduceBNe, Int.reducePow, Nat.reducePow, Int.reduceMul, Int.reduceNeg, isB_i, isB_b, isB_y, isBv_i, isBv_b, eqCells_t, TT]
  refine call_fz [.c (roU [5, 6, 7] [] 3)] (new_spec [5, 6, 7] [] 3 (by simp) (by simp)) (fun t h' h => new_noRo h) ⟨fz_c (fz_us (l := [5, 6, 7]) (sp := []) rfl rfl rfl), trivial⟩ ?_
  rintro _ _ ⟨rfl, z1, o1, rfl, ho1⟩
  simp (maxSteps := 4000000) only [Try.results6, ids_usC, ren_usC, lt_usC, noRo_usC, XX, Nat.reduceBEq, Nat.reduceLT, Nat.reduceAdd, Nat.reduceMul, Nat.reduceSub, Nat.reduceLeDiff, Nat.reduceEqDiff, Int.reduceToNat, Int.reduceLT, Int.reduceLE, Int.reduceAdd, Int.reduceSub, Int.reduceEq, reduceIte, Nat.reduceBNe, Int.reducePow, Nat.reducePow, Int.reduceMul, Int.reduceNeg, isB_i, isB_b, isB_y, isBv_i, isBv_b, eqCells_t, TT]
  simp only [List.replicate_succ, List.replicate_zero, List.flatten_cons, List.flatten_nil, List.cons_append, List.nil_append, List.drop_succ_cons, List.drop_zero, List.length_cons, List.length_nil, Nat.reduceAdd, Nat.reduceLeDiff, reduceIte]
  simp (maxSteps := 4000000) only [Try.results6, XX, Nat.reduceBEq, Nat.reduceLT, Nat.reduceAdd, Nat.reduceMul, Nat.reduceSub, Nat.reduceLeDiff, Nat.reduceEqDiff, Int.reduceToNat, Int.reduceLT, Int.reduceLE, Int.reduceAdd, Int.reduceSub, Int.reduceEq, reduceIte, Nat.reduceBNe, Int.reducePow, Nat.reducePow, Int.reduceMul, Int.reduceNeg, isB_i, isB_b, isB_y, isBv_i, isBv_b, eqCells_t, TT]
  generalize hhp : ([_, _, _, _, _, _] : List SB) = hp
  have D0 : Dc hp 1 0 o [] := by rw [← hhp]; exact ⟨0, [], z, by simp, rfl, rfl, by decide, by simpa using ho⟩
  have D1 : Dc hp 4 3 o1 [5, 6, 7] := by rw [← hhp]; exact ⟨0, [], z1, rfl, rfl, rfl, by decide, ho1⟩
  have hm : hp[5]? = some (wU true ([16383, 20] ++ [])) := by rw [← hhp]; rfl
  clear hhp
  refine call_is (addW_spec hp 4 3 o1 [5, 6, 7] D1 [16383, 20] [] 5 true hm (by simp)) ?_
  rintro _ H1 ⟨rfl, w1, ow1, D2, hw1, hl1, hk1⟩
  have E0 := D0.mono (hk1 1 D0.lt.1 (by decide) (by decide)) (hk1 0 D0.lt.2 (by decide) (by decide))
  have n1 : w1 ≠ 4 := by have := D1.lt; omega
  clear D0 D1 hm hk1
  simp (maxSteps := 4000000) only [Try.results6, XX, Nat.reduceBEq, Nat.reduceLT, Nat.reduceAdd, Nat.reduceMul, Nat.reduceSub, Nat.reduceLeDiff, Nat.reduceEqDiff, Int.reduceToNat, Int.reduceLT, Int.reduceLE, Int.reduceAdd, Int.reduceSub, Int.reduceEq, reduceIte, Nat.reduceBNe, Int.reducePow, Nat.reducePow, Int.reduceMul, Int.reduceNeg, isB_i, isB_b, isB_y, isBv_i, isBv_b, eqCells_t, TT]
  refine call_is (left_spec H1 4 w1 ow1 _ D2) ?_
  rintro _ _ ⟨rfl, rfl⟩
  simp (maxSteps := 4000000) only [Try.results6, XX, Nat.reduceBEq, Nat.reduceLT, Nat.reduceAdd, Nat.reduceMul, Nat.reduceSub, Nat.reduceLeDiff, Nat.reduceEqDiff, Int.reduceToNat, Int.reduceLT, Int.reduceLE, Int.reduceAdd, Int.reduceSub, Int.reduceEq, reduceIte, Nat.reduceBNe, Int.reducePow, Nat.reducePow, Int.reduceMul, Int.reduceNeg, isB_i, isB_b, isB_y, isBv_i, isBv_b, eqCells_t, TT]
  refine call_is (span_spec _ 4 w1 ow1 _ D2 (by simp) 10 12 (by decide)) ?_
  rintro _ H2 ⟨rfl, D3, K2⟩
  have E1 := E0.keep K2 (by decide) (by decide)
  clear E0 D2 K2
  simp (maxSteps := 4000000) only [Try.results6, XX, Nat.reduceBEq, Nat.reduceLT, Nat.reduceAdd, Nat.reduceMul, Nat.reduceSub, Nat.reduceLeDiff, Nat.reduceEqDiff, Int.reduceToNat, Int.reduceLT, Int.reduceLE, Int.reduceAdd, Int.reduceSub, Int.reduceEq, reduceIte, Nat.reduceBNe, Int.reducePow, Nat.reducePow, Int.reduceMul, Int.reduceNeg, isB_i, isB_b, isB_y, isBv_i, isBv_b, eqCells_t, TT]
  refine call_is (span0_spec H2 4 3 1 (by decide)) ?_
  rintro _ _ ⟨rfl, t1, rfl⟩
  have D4 := D3.app t1
  have E2 := E1.app t1
  clear D3 E1
  generalize H2 ++ t1 = H3 at D4 E2 ⊢
  simp (maxSteps := 4000000) only [Try.results6, XX, Nat.reduceBEq, Nat.reduceLT, Nat.reduceAdd, Nat.reduceMul, Nat.reduceSub, Nat.reduceLeDiff, Nat.reduceEqDiff, Int.reduceToNat, Int.reduceLT, Int.reduceLE, Int.reduceAdd, Int.reduceSub, Int.reduceEq, reduceIte, Nat.reduceBNe, Int.reducePow, Nat.reducePow, Int.reduceMul, Int.reduceNeg, isB_i, isB_b, isB_y, isBv_i, isBv_b, eqCells_t, TT]
  refine call_is (span_spec _ 4 w1 ow1 _ D4 (by simp) (-1) 0 (by decide)) ?_
  rintro _ H4 ⟨rfl, D5, K4⟩
  have E3 := E2.keep K4 (by decide) (by decide)
  clear E2 D4 K4
  simp (maxSteps := 4000000) only [Try.results6, XX, Nat.reduceBEq, Nat.reduceLT, Nat.reduceAdd, Nat.reduceMul, Nat.reduceSub, Nat.reduceLeDiff, Nat.reduceEqDiff, Int.reduceToNat, Int.reduceLT, Int.reduceLE, Int.reduceAdd, Int.reduceSub, Int.reduceEq, reduceIte, Nat.reduceBNe, Int.reducePow, Nat.reducePow, Int.reduceMul, Int.reduceNeg, isB_i, isB_b, isB_y, isBv_i, isBv_b, eqCells_t, TT]
  refine call_is (next_spec _ 4 w1 ow1 _ D5) ?_
  rintro _ H5 ⟨rfl, D6, l5, k5⟩
  have E4 := E3.mono (k5 1 (by decide)) (k5 0 (by decide))
  clear E3 D5 k5
  simp (maxSteps := 4000000) only [Try.results6, XX, Nat.reduceBEq, Nat.reduceLT, Nat.reduceAdd, Nat.reduceMul, Nat.reduceSub, Nat.reduceLeDiff, Nat.reduceEqDiff, Int.reduceToNat, Int.reduceLT, Int.reduceLE, Int.reduceAdd, Int.reduceSub, Int.reduceEq, reduceIte, Nat.reduceBNe, Int.reducePow, Nat.reducePow, Int.reduceMul, Int.reduceNeg, isB_i, isB_b, isB_y, isBv_i, isBv_b, eqCells_t, TT]
  refine call_is (port_spec _ 4 w1 ow1 _ D6 (by simp)) ?_
  rintro _ H6 ⟨rfl, D7, k6⟩
  have E5 := E4.mono (k6.2 1 (by decide)) (k6.2 0 (by decide))
  clear E4 D6 k6
  simp (maxSteps := 4000000) only [Try.results6, XX, Nat.reduceBEq, Nat.reduceLT, Nat.reduceAdd, Nat.reduceMul, Nat.reduceSub, Nat.reduceLeDiff, Nat.reduceEqDiff, Int.reduceToNat, Int.reduceLT, Int.reduceLE, Int.reduceAdd, Int.reduceSub, Int.reduceEq, reduceIte, Nat.reduceBNe, Int.reducePow, Nat.reducePow, Int.reduceMul, Int.reduceNeg, isB_i, isB_b, isB_y, isBv_i, isBv_b, eqCells_t, TT]
  refine call_is (backoff_spec _ 4 w1 ow1 _ D7 (by simp) 40 640 1 (by decide)) ?_
  rintro _ H7 ⟨rfl, D8, K7⟩
  have E6 := E5.keep K7 (by decide) (by decide)
  clear E5 D7 K7
  simp (maxSteps := 4000000) only [Try.results6, XX, Nat.reduceBEq, Nat.reduceLT, Nat.reduceAdd, Nat.reduceMul, Nat.reduceSub, Nat.reduceLeDiff, Nat.reduceEqDiff, Int.reduceToNat, Int.reduceLT, Int.reduceLE, Int.reduceAdd, Int.reduceSub, Int.reduceEq, reduceIte, Nat.reduceBNe, Int.reducePow, Nat.reducePow, Int.reduceMul, Int.reduceNeg, isB_i, isB_b, isB_y, isBv_i, isBv_b, eqCells_t, TT]
  refine call_is (backoff_spec _ 4 w1 ow1 _ D8 (by simp) 40 640 5 (by decide)) ?_
  rintro _ H8 ⟨rfl, D9, K8⟩
  have E7 := E6.keep K8 (by decide) (by decide)
  clear E6 D8 K8
  simp (maxSteps := 4000000) only [Try.results6, XX, Nat.reduceBEq, Nat.reduceLT, Nat.reduceAdd, Nat.reduceMul, Nat.reduceSub, Nat.reduceLeDiff, Nat.reduceEqDiff, Int.reduceToNat, Int.reduceLT, Int.reduceLE, Int.reduceAdd, Int.reduceSub, Int.reduceEq, reduceIte, Nat.reduceBNe, Int.reducePow, Nat.reducePow, Int.reduceMul, Int.reduceNeg, isB_i, isB_b, isB_y, isBv_i, isBv_b, eqCells_t, TT]
  refine call_is (next_spec _ 1 0 o _ E7) ?_
  rintro _ H9 ⟨rfl, E8, l9, k9⟩
  have s1 : spanV 10 12 (([5, 6, 7, 16383, 20] : List Nat).headD 0) = 12 := rfl
  have s2 : spanV (-1) 0 (([5, 6, 7, 16383, 20] : List Nat).tail.headD 0) = -1 := rfl
  have s3 : ([5, 6, 7, 16383, 20] : List Nat).tail.tail.headD 0 = 7 := rfl
  have s4 : 49152 + ([5, 6, 7, 16383, 20] : List Nat).tail.tail.tail.headD 0 % 16384 = 65535 := rfl
  have s5 : waitV 40 640 1 - waitV 40 640 1 / 4 + ([5, 6, 7, 16383, 20] : List Nat).tail.tail.tail.tail.headD 0 % (waitV 40 640 1 / 2 + 1) = 50 := rfl
  have s6 : waitV 40 640 5 - waitV 40 640 5 / 4 + ([5, 6, 7, 16383, 20] : List Nat).tail.tail.tail.tail.tail.headD 0 % (waitV 40 640 5 / 2 + 1) = 480 := rfl
  have s7 : ([] : List Nat).headD 0 = 0 := rfl
  simp only [s1, s2, s3, s4, s5, s6, s7]
  simp (maxSteps := 4000000) only [Try.results6, XX, Nat.reduceBEq, Nat.reduceLT, Nat.reduceAdd, Nat.reduceMul, Nat.reduceSub, Nat.reduceLeDiff, Nat.reduceEqDiff, Int.reduceToNat, Int.reduceLT, Int.reduceLE, Int.reduceAdd, Int.reduceSub, Int.reduceEq, reduceIte, Nat.reduceBNe, Int.reducePow, Nat.reducePow, Int.reduceMul, Int.reduceNeg, isB_i, isB_b, isB_y, isBv_i, isBv_b, eqCells_t, TT]
  refine call_is (left_spec H9 1 0 o _ E8) ?_
  rintro _ _ ⟨rfl, rfl⟩
  simp (maxSteps := 4000000) only [Try.results6, List.tail_nil, List.length_nil, XX, Nat.reduceBEq, Nat.reduceLT, Nat.reduceAdd, Nat.reduceMul, Nat.reduceSub, Nat.reduceLeDiff, Nat.reduceEqDiff, Int.reduceToNat, Int.reduceLT, Int.reduceLE, Int.reduceAdd, Int.reduceSub, Int.reduceEq, reduceIte, Nat.reduceBNe, Int.reducePow, Nat.reducePow, Int.reduceMul, Int.reduceNeg, isB_i, isB_b, isB_y, isBv_i, isBv_b, eqCells_t, TT]

end Go.Proofs.Ytniednekfnfhmaa.Sx
