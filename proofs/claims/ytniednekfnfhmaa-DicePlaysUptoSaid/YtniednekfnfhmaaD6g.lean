/- The symbolic executor, at work: the document's dice; what is lent. No condition. -/
import Derived.Test.YtniednekfnfhmaaD6f
namespace Go.Proofs.Ytniednekfnfhmaa.Sx
open Go
set_option linter.unusedSimpArgs false
set_option linter.unusedVariables false
set_option maxRecDepth 10000
set_option maxHeartbeats 2000000

abbrev rB (w o n c : Nat) : SB := ⟨true, 48, [.sl w o n c]⟩
/-- The document's dice stands in window 'i'. -/
structure Rc (H : List SB) (i w : Nat) (ow : Bool) (L : List Nat) : Prop where
  ex : ∃ (o : Nat) (pre sp : List Nat), H[i]? = some (rB w o L.length (L.length + sp.length)) ∧ H[w]? = some (wU ow (pre ++ (L ++ sp))) ∧ pre.length = o ∧ w ≠ i ∧ (0 < L.length + sp.length → ow = true)
theorem Rc.mono {H H' : List SB} {i w : Nat} {ow : Bool} {L : List Nat} (D : Rc H i w ow L) (h1 : H'[i]? = H[i]?) (h2 : H'[w]? = H[w]?) : Rc H' i w ow L := by
  obtain ⟨o, pre, sp, g1, g2, g3, g4, g5⟩ := D.ex
  exact ⟨o, pre, sp, h1.trans g1, h2.trans g2, g3, g4, g5⟩
theorem Rc.lt {H : List SB} {i w : Nat} {ow : Bool} {L : List Nat} (D : Rc H i w ow L) : i < H.length ∧ w < H.length := by
  obtain ⟨o, pre, sp, g1, g2, g3, g4, g5⟩ := D.ex
  exact ⟨lt_of g1, lt_of g2⟩

theorem rnext_spec (H : List SB) (i w : Nat) (ow : Bool) (L : List Nat) (D : Rc H i w ow L) : Spec cx.P 15 [.c (.ptr i 0)] H fun t h' => t = .c (c32 (L.headD 0)) ∧ Rc h' i w ow L.tail ∧ h'.length = H.length ∧ ∀ k, k ≠ i → h'[k]? = H[k]? := by
  obtain ⟨o, pre, sp, h1, h2, h3, h4, h5⟩ := D.ex
  have lt1 := lt_of h1
  have lt2 := lt_of h2
  match L, D, h1, h2, h5 with
  | [], D, h1, h2, h5 =>
    refine spec_of_X cx_ok Try.func15 rfl (by kernel_rfl) (by kernel_rfl) (Nat.le_of_ble_eq_true rfl) 400 4 ?_
    simp (maxSteps := 4000000) only [Try.results15, XX, Nat.reduceBEq, Nat.reduceLT, Nat.reduceAdd, Nat.reduceMul, Nat.reduceSub, Nat.reduceLeDiff, Nat.reduceEqDiff, Int.reduceToNat, Int.reduceLT, Int.reduceLE, Int.reduceAdd, Int.reduceSub, Int.reduceEq, reduceIte, Nat.reduceBNe, Int.reducePow, Nat.reducePow, Int.reduceMul, Int.reduceNeg, isB_i, isB_b, isB_y, isBv_i, isBv_b, eqCells_t, TT]
    simp (maxSteps := 4000000) only [Try.results15, h1, lt1, h2, lt2, List.length_nil, XX, Nat.reduceBEq, Nat.reduceLT, Nat.reduceAdd, Nat.reduceMul, Nat.reduceSub, Nat.reduceLeDiff, Nat.reduceEqDiff, Int.reduceToNat, Int.reduceLT, Int.reduceLE, Int.reduceAdd, Int.reduceSub, Int.reduceEq, reduceIte, Nat.reduceBNe, Int.reducePow, Nat.reducePow, Int.reduceMul, Int.reduceNeg, isB_i, isB_b, isB_y, isBv_i, isBv_b, eqCells_t, TT]
    exact ⟨rfl, D⟩
  | x :: L, D, h1, h2, h5 =>
    refine spec_of_X cx_ok Try.func15 rfl (by kernel_rfl) (by kernel_rfl) (Nat.le_of_ble_eq_true rfl) 400 4 ?_
    simp (maxSteps := 4000000) only [Try.results15, XX, Nat.reduceBEq, Nat.reduceLT, Nat.reduceAdd, Nat.reduceMul, Nat.reduceSub, Nat.reduceLeDiff, Nat.reduceEqDiff, Int.reduceToNat, Int.reduceLT, Int.reduceLE, Int.reduceAdd, Int.reduceSub, Int.reduceEq, reduceIte, Nat.reduceBNe, Int.reducePow, Nat.reducePow, Int.reduceMul, Int.reduceNeg, isB_i, isB_b, isB_y, isBv_i, isBv_b, eqCells_t, TT]
    have d0 : decide (((L.length + 1 : Nat) : Int) = 0) = false := by simp only [decide_eq_false_iff_not]; omega
    have hx : (usC (pre ++ (x :: L ++ sp))).getD o .any = c32 x := by
      rw [List.getD_eq_getElem?_getD, List.getElem?_map, List.getElem?_append_right (by omega), h3, Nat.sub_self]; rfl
    have e1 : L.length + 1 - 1 = L.length := by omega
    have e2 : L.length + 1 + sp.length - 1 = L.length + sp.length := by omega
    have hx' : (usC (pre ++ x :: (L ++ sp))).getD o .any = c32 x := hx
    simp (maxSteps := 4000000) only [Try.results15, h1, lt1, h2, lt2, List.length_cons, d0, e1, e2, List.append_assoc, List.getElem?_append_left, List.getElem?_append_right, List.length_append, List.length_set, List.set_append_left, gset, List.getElem?_set_ne, Nat.add_sub_cancel_left, Nat.sub_self, Nat.le_refl, Nat.le_add_right, List.replicate_one, List.flatten_cons, List.flatten_nil, rep_flat, XX, Nat.reduceBEq, Nat.reduceLT, Nat.reduceAdd, Nat.reduceMul, Nat.reduceSub, Nat.reduceLeDiff, Nat.reduceEqDiff, Int.reduceToNat, Int.reduceLT, Int.reduceLE, Int.reduceAdd, Int.reduceSub, Int.reduceEq, reduceIte, Nat.reduceBNe, Int.reducePow, Nat.reducePow, Int.reduceMul, Int.reduceNeg, isB_i, isB_b, isB_y, isBv_i, isBv_b, eqCells_t, TT]
    refine ⟨by omega, by simp; omega, ⟨by omega, by omega, by omega⟩, by rw [hx']; rfl, ⟨o + 1, pre ++ [x], sp, ?_, ?_, by simp; omega, h4, fun _ => h5 (by simp; omega)⟩, fun k hk => List.getElem?_set_ne (Ne.symm hk)⟩
    · rw [List.getElem?_set_self lt1]; rfl
    · rw [List.getElem?_set_ne (Ne.symm h4), h2]; simp

theorem rleft_spec (H : List SB) (i w : Nat) (ow : Bool) (L : List Nat) (D : Rc H i w ow L) : Spec cx.P 13 [.c (.ptr i 0)] H fun t h' => t = .c (i64 (L.length : Int)) ∧ h' = H := by
  obtain ⟨o, pre, sp, h1, h2, h3, h4, h5⟩ := D.ex
  have lt1 := lt_of h1
  refine spec_of_X cx_ok Try.func13 rfl (by kernel_rfl) (by kernel_rfl) (Nat.le_of_ble_eq_true rfl) 400 3 ?_
  simp (maxSteps := 4000000) only [Try.results13, XX, Nat.reduceBEq, Nat.reduceLT, Nat.reduceAdd, Nat.reduceMul, Nat.reduceSub, Nat.reduceLeDiff, Nat.reduceEqDiff, Int.reduceToNat, Int.reduceLT, Int.reduceLE, Int.reduceAdd, Int.reduceSub, Int.reduceEq, reduceIte, Nat.reduceBNe, Int.reducePow, Nat.reducePow, Int.reduceMul, Int.reduceNeg, isB_i, isB_b, isB_y, isBv_i, isBv_b, eqCells_t, TT]
  simp (maxSteps := 4000000) only [Try.results13, h1, lt1, XX, Nat.reduceBEq, Nat.reduceLT, Nat.reduceAdd, Nat.reduceMul, Nat.reduceSub, Nat.reduceLeDiff, Nat.reduceEqDiff, Int.reduceToNat, Int.reduceLT, Int.reduceLE, Int.reduceAdd, Int.reduceSub, Int.reduceEq, reduceIte, Nat.reduceBNe, Int.reducePow, Nat.reducePow, Int.reduceMul, Int.reduceNeg, isB_i, isB_b, isB_y, isBv_i, isBv_b, eqCells_t, TT]


theorem zerosU' (n : Nat) : List.replicate n (SC.v (.int .u32 0)) = usC (List.replicate n 0) := by rw [← rep_flat, zerosU]
theorem radd_spec (H : List SB) (i w : Nat) (ow : Bool) (L : List Nat) (D : Rc H i w ow L) (M sp : List Nat) (c : Nat) (hl : 4 * (L.length + M.length) ≤ 140737488355328) : Spec cx.P 22 [.c (.ptr i 0), .c (roU M sp c)] H fun t h' => t = .tup [] ∧ ∃ w' ow', Rc h' i w' ow' (L ++ M) ∧ H.length ≤ w' ∧ H.length ≤ h'.length ∧ ∀ k, k < H.length → k ≠ i → h'[k]? = H[k]? := by
  obtain ⟨o, pre, sq, h1, h2, h3, h4, h5⟩ := D.ex
  have lt1 := lt_of h1
  have lt2 := lt_of h2
  have e0 : (usR (M ++ sp)).take M.length = usR M := by rw [urs_take, List.take_left' rfl]
  have e1 : ((usC (pre ++ (L ++ sq))).drop o).take L.length = usC L := by rw [us_drop, List.drop_left' h3, us_take, List.take_left' rfl]
  refine spec_of_X cx_ok Try.func22 rfl (by kernel_rfl) (by kernel_rfl) (Nat.le_of_ble_eq_true rfl) 400 5 ?_
  simp (maxSteps := 4000000) only [Try.results22, XX, Nat.reduceBEq, Nat.reduceLT, Nat.reduceAdd, Nat.reduceMul, Nat.reduceSub, Nat.reduceLeDiff, Nat.reduceEqDiff, Int.reduceToNat, Int.reduceLT, Int.reduceLE, Int.reduceAdd, Int.reduceSub, Int.reduceEq, reduceIte, Nat.reduceBNe, Int.reducePow, Nat.reducePow, Int.reduceMul, Int.reduceNeg, isB_i, isB_b, isB_y, isBv_i, isBv_b, eqCells_t, TT]
  simp (maxSteps := 4000000) only [Try.results22, h1, lt1, h2, lt2, e0, e1, usR_toSC, XX, Nat.reduceBEq, Nat.reduceLT, Nat.reduceAdd, Nat.reduceMul, Nat.reduceSub, Nat.reduceLeDiff, Nat.reduceEqDiff, Int.reduceToNat, Int.reduceLT, Int.reduceLE, Int.reduceAdd, Int.reduceSub, Int.reduceEq, reduceIte, Nat.reduceBNe, Int.reducePow, Nat.reducePow, Int.reduceMul, Int.reduceNeg, isB_i, isB_b, isB_y, isBv_i, isBv_b, eqCells_t, TT]
  refine ⟨⟨⟨by omega, by unfold maxLen; omega⟩, by simp; omega⟩, xapp_nil (ty := 37) (news := usC L) (z := [.v (.int .u32 0)]) (fun h => by rw [List.eq_nil_of_length_eq_zero h]; rfl) rfl (fun y3 o1 ho1 => ?_) (fun _ => rfl)⟩
  simp (maxSteps := 4000000) only [Try.results22, h1, lt1, h2, lt2, zerosU, zerosU', us_app, e0, usR_toSC, List.append_assoc, List.getElem?_append_left, List.getElem?_append_right, List.length_append, List.length_set, List.set_append_left, gset, List.getElem?_set_ne, Nat.add_sub_cancel_left, Nat.sub_self, Nat.le_refl, Nat.le_add_right, List.replicate_one, List.flatten_cons, List.flatten_nil, rep_flat, XX, Nat.reduceBEq, Nat.reduceLT, Nat.reduceAdd, Nat.reduceMul, Nat.reduceSub, Nat.reduceLeDiff, Nat.reduceEqDiff, Int.reduceToNat, Int.reduceLT, Int.reduceLE, Int.reduceAdd, Int.reduceSub, Int.reduceEq, reduceIte, Nat.reduceBNe, Int.reducePow, Nat.reducePow, Int.reduceMul, Int.reduceNeg, isB_i, isB_b, isB_y, isBv_i, isBv_b, eqCells_t, TT]
  refine ⟨⟨⟨by omega, by unfold maxLen; omega, by simp, fun _ => ⟨?_, by simp; omega⟩⟩, by simp⟩, ?_⟩
  · by_cases hm0 : M.length = 0
    · exact .inl hm0
    · exact .inr (ho1 (by omega))
  refine xapp_P (fun s h' => ∃ (w' : Nat) (ov : Bool) (sq' : List Nat), s = .c (.sl w' 0 (L.length + M.length) (L.length + M.length + sq'.length)) ∧ h'[w']? = some (wU ov ((L ++ M) ++ sq')) ∧ (0 < L.length + M.length + sq'.length → ov = true) ∧ H.length ≤ w' ∧ H.length ≤ h'.length ∧ ∀ k, k < H.length → h'[k]? = H[k]?) (fun h => ?_) (fun h c4 g1 g2 => ?_) ?_
  · refine ⟨H.length, o1, (List.replicate y3 0).drop M.length, ?_, ?_, fun hh => ho1 (by rw [List.length_drop, List.length_replicate] at hh; omega), Nat.le_refl _, by simp, fun k hk => ?_⟩
    · have : L.length + M.length + ((List.replicate y3 0).drop M.length).length = L.length + y3 := by simp; omega
      rw [this]
    · have t1 : (usC (L ++ List.replicate y3 0)).take L.length = usC L := by rw [us_take, List.take_left' rfl]
      have t2 : (usC (L ++ List.replicate y3 0)).drop (L.length + (usC M).length) = usC ((List.replicate y3 0).drop M.length) := by
        rw [us_drop, usC_len, List.drop_append, List.drop_of_length_le (by omega), List.nil_append, Nat.add_sub_cancel_left]
      simp only [t1, t2, us_app, List.append_assoc]
      first
        | rw [List.set_append_right _ _ (Nat.le_refl _), List.getElem?_append_right (Nat.le_refl _), Nat.sub_self]; rfl
        | rw [List.getElem?_append_right (Nat.le_refl _), Nat.sub_self]; rfl
    · first
        | rw [List.getElem?_set_ne (by omega), List.getElem?_append_left hk]
        | rw [List.getElem?_append_left hk]
  · obtain ⟨r, rfl⟩ := Nat.exists_eq_add_of_le g1
    refine ⟨H.length + 1, true, List.replicate r 0, by simp, ?_, fun _ => rfl, by omega, by simp, fun k hk => List.getElem?_append_left hk⟩
    have t1 : (usC (L ++ List.replicate y3 0)).take L.length = usC L := by rw [us_take, List.take_left' rfl]
    simp only [t1, Nat.add_sub_cancel_left, us_app, zerosU, List.append_assoc]
    rw [List.getElem?_append_right (by omega), Nat.add_sub_cancel_left]
    rfl
  rintro s H' ⟨w', ov, sq', rfl, k1, k2, k3, k4, k5⟩
  have q1 := (k5 i lt1).trans h1
  have lt3 := lt_of q1
  simp (maxSteps := 4000000) only [Try.results22, q1, lt3, XX, Nat.reduceBEq, Nat.reduceLT, Nat.reduceAdd, Nat.reduceMul, Nat.reduceSub, Nat.reduceLeDiff, Nat.reduceEqDiff, Int.reduceToNat, Int.reduceLT, Int.reduceLE, Int.reduceAdd, Int.reduceSub, Int.reduceEq, reduceIte, Nat.reduceBNe, Int.reducePow, Nat.reducePow, Int.reduceMul, Int.reduceNeg, isB_i, isB_b, isB_y, isBv_i, isBv_b, eqCells_t, TT]
  refine ⟨w', ov, ⟨0, [], sq', ?_, ?_, rfl, by omega, by simpa using k2⟩, k3, by simpa using k4, fun k hk hne => (List.getElem?_set_ne (Ne.symm hne)).trans (k5 k hk)⟩
  · rw [List.getElem?_set_self lt3, List.length_append]
  · rw [List.getElem?_set_ne (by omega), k1]; rfl

theorem radd0_spec (H : List SB) (i : Nat) (h1 : H[i]? = some ⟨true, 48, [.v (.slice none 0 0)]⟩) (M sp : List Nat) (c : Nat) (hl : 4 * M.length ≤ 140737488355328) : Spec cx.P 22 [.c (.ptr i 0), .c (roU M sp c)] H fun t h' => t = .tup [] ∧ ∃ ow' sq', (0 < M.length + sq'.length → ow' = true) ∧ h' = H.set i (rB H.length 0 M.length (M.length + sq'.length)) ++ [wU ow' (M ++ sq')] := by
  have lt1 := lt_of h1
  have e0 : (usR (M ++ sp)).take M.length = usR M := by rw [urs_take, List.take_left' rfl]
  refine spec_of_X cx_ok Try.func22 rfl (by kernel_rfl) (by kernel_rfl) (Nat.le_of_ble_eq_true rfl) 400 5 ?_
  simp (maxSteps := 4000000) only [Try.results22, XX, Nat.reduceBEq, Nat.reduceLT, Nat.reduceAdd, Nat.reduceMul, Nat.reduceSub, Nat.reduceLeDiff, Nat.reduceEqDiff, Int.reduceToNat, Int.reduceLT, Int.reduceLE, Int.reduceAdd, Int.reduceSub, Int.reduceEq, reduceIte, Nat.reduceBNe, Int.reducePow, Nat.reducePow, Int.reduceMul, Int.reduceNeg, isB_i, isB_b, isB_y, isBv_i, isBv_b, eqCells_t, TT]
  simp (maxSteps := 4000000) only [Try.results22, h1, lt1, e0, usR_toSC, XX, Nat.reduceBEq, Nat.reduceLT, Nat.reduceAdd, Nat.reduceMul, Nat.reduceSub, Nat.reduceLeDiff, Nat.reduceEqDiff, Int.reduceToNat, Int.reduceLT, Int.reduceLE, Int.reduceAdd, Int.reduceSub, Int.reduceEq, reduceIte, Nat.reduceBNe, Int.reducePow, Nat.reducePow, Int.reduceMul, Int.reduceNeg, isB_i, isB_b, isB_y, isBv_i, isBv_b, eqCells_t, TT]
  refine ⟨by unfold maxLen; omega, xapp_room (Nat.le_refl _) ?_⟩
  simp (maxSteps := 4000000) only [Try.results22, h1, lt1, e0, usR_toSC, XX, Nat.reduceBEq, Nat.reduceLT, Nat.reduceAdd, Nat.reduceMul, Nat.reduceSub, Nat.reduceLeDiff, Nat.reduceEqDiff, Int.reduceToNat, Int.reduceLT, Int.reduceLE, Int.reduceAdd, Int.reduceSub, Int.reduceEq, reduceIte, Nat.reduceBNe, Int.reducePow, Nat.reducePow, Int.reduceMul, Int.reduceNeg, isB_i, isB_b, isB_y, isBv_i, isBv_b, eqCells_t, TT]
  refine ⟨⟨⟨by omega, by unfold maxLen; omega⟩, by simp⟩, xapp_nil (ty := 37) (news := usC M) (z := [.v (.int .u32 0)]) (fun h => by rw [List.eq_nil_of_length_eq_zero h]; rfl) rfl (fun y3 o1 ho1 => ?_) (fun _ => rfl)⟩
  simp (maxSteps := 4000000) only [Try.results22, h1, lt1, zerosU, zerosU', us_app, List.append_assoc, List.getElem?_append_left, List.getElem?_append_right, List.length_append, List.length_set, List.set_append_left, gset, List.getElem?_set_ne, Nat.add_sub_cancel_left, Nat.sub_self, Nat.le_refl, Nat.le_add_right, List.replicate_one, List.flatten_cons, List.flatten_nil, rep_flat, XX, Nat.reduceBEq, Nat.reduceLT, Nat.reduceAdd, Nat.reduceMul, Nat.reduceSub, Nat.reduceLeDiff, Nat.reduceEqDiff, Int.reduceToNat, Int.reduceLT, Int.reduceLE, Int.reduceAdd, Int.reduceSub, Int.reduceEq, reduceIte, Nat.reduceBNe, Int.reducePow, Nat.reducePow, Int.reduceMul, Int.reduceNeg, isB_i, isB_b, isB_y, isBv_i, isBv_b, eqCells_t, TT]
  exact ⟨o1, List.replicate y3 0, by simpa using ho1, by simp⟩

theorem rnew_spec (l sp : List Nat) (c : Nat) (hl : 4 * l.length ≤ 140737488355328) : Spec cx.P 9 [.c (roU l sp c)] [] fun t h' => t = .c (.ptr 0 0) ∧ ∃ z o, h' = [rB 1 0 l.length (l.length + z.length), wU o (l ++ z)] ∧ (0 < l.length + z.length → o = true) := by
  refine spec_of_X cx_ok Try.func9 rfl (by kernel_rfl) (by kernel_rfl) (Nat.le_of_ble_eq_true rfl) 400 4 ?_
  simp (maxSteps := 4000000) only [Try.results9, XX, Nat.reduceBEq, Nat.reduceLT, Nat.reduceAdd, Nat.reduceMul, Nat.reduceSub, Nat.reduceLeDiff, Nat.reduceEqDiff, Int.reduceToNat, Int.reduceLT, Int.reduceLE, Int.reduceAdd, Int.reduceSub, Int.reduceEq, reduceIte, Nat.reduceBNe, Int.reducePow, Nat.reducePow, Int.reduceMul, Int.reduceNeg, isB_i, isB_b, isB_y, isBv_i, isBv_b, eqCells_t, TT]
  refine call_is (radd0_spec _ 0 rfl l sp c hl) ?_
  rintro _ _ ⟨rfl, o, z, ho, rfl⟩
  simp (maxSteps := 4000000) only [Try.results9, XX, Nat.reduceBEq, Nat.reduceLT, Nat.reduceAdd, Nat.reduceMul, Nat.reduceSub, Nat.reduceLeDiff, Nat.reduceEqDiff, Int.reduceToNat, Int.reduceLT, Int.reduceLE, Int.reduceAdd, Int.reduceSub, Int.reduceEq, reduceIte, Nat.reduceBNe, Int.reducePow, Nat.reducePow, Int.reduceMul, Int.reduceNeg, isB_i, isB_b, isB_y, isBv_i, isBv_b, eqCells_t, TT]
  exact ⟨z, o, rfl, ho⟩

theorem lentU_spec (l sp : List Nat) (c : Nat) (hl : 4 * l.length ≤ 140737488355328) : Spec cx.P 7 [.c (roU l sp c)] [] fun s h' => s = .c (.sl 0 0 l.length (l.length + 2)) ∧ h' = [wU true (l ++ [71, 72])] := by
  refine spec_of_X cx_ok Try.func7 rfl (by kernel_rfl) (by kernel_rfl) (Nat.le_of_ble_eq_true rfl) 400 4 ?_
  simp (maxSteps := 4000000) only [Try.results7, XX, Nat.reduceBEq, Nat.reduceLT, Nat.reduceAdd, Nat.reduceMul, Nat.reduceSub, Nat.reduceLeDiff, Nat.reduceEqDiff, Int.reduceToNat, Int.reduceLT, Int.reduceLE, Int.reduceAdd, Int.reduceSub, Int.reduceEq, reduceIte, Nat.reduceBNe, Int.reducePow, Nat.reducePow, Int.reduceMul, Int.reduceNeg, isB_i, isB_b, isB_y, isBv_i, isBv_b, eqCells_t, TT]
  simp (disch := omega) only [w64]
  have e1 : ((l.length : Int) + 2).toNat = l.length + 2 := by omega
  have e2 : ((l.length : Int) + 1).toNat = l.length + 1 := by omega
  have b1 : SC.v (.int .u32 71) = c32 71 := rfl
  have b2 : SC.v (.int .u32 72) = c32 72 := rfl
  have u1 : ∀ x : Nat, [c32 x] = usC [x] := fun _ => rfl
  simp only [e1, e2, b1, b2, zerosU, u1, urs_take, usR_len, usR_toSC, us_take, us_drop, us_app, usC_len]
  refine ⟨by omega, ⟨by simp, by simp⟩, by omega, by simp, by omega, by simp, by omega, ?_, ?_⟩
  · trivial
  · congr 2
    congr 1
    simp (disch := omega) [List.take_append, List.drop_append, List.take_of_length_le, List.drop_of_length_le, Nat.add_assoc, Nat.add_sub_cancel_left]

end Go.Proofs.Ytniednekfnfhmaa.Sx
