/- The symbolic executor, at work: a call on both dices, whatever it is. No condition. -/
import Derived.Test.YtniednekfnfhmaaD6h
namespace Go.Proofs.Ytniednekfnfhmaa.Sx
open Go
set_option linter.unusedSimpArgs false
set_option linter.unusedVariables false
set_option maxRecDepth 10000
set_option maxHeartbeats 2000000

/-- What is left behind a call. -/
def stepL (kind a b : Int) (L l : List Nat) : List Nat :=
  if kind = 1 then L ++ l else if kind = 2 then L.tail else if kind = 3 then (if a < b then L.tail else L) else if kind = 4 then L.tail else if kind = 5 then L.tail else L
theorem stepL_lt {kind a b : Int} {L l : List Nat} (h1 : ∀ y ∈ L, y < 4294967296) (h2 : ∀ y ∈ l, y < 4294967296) : ∀ y ∈ stepL kind a b L l, y < 4294967296 := by
  unfold stepL
  intro y hy
  have ht : ∀ y ∈ L.tail, y < 4294967296 := tail_lt h1
  split at hy
  · rcases List.mem_append.1 hy with h | h
    · exact h1 y h
    · exact h2 y h
  all_goals (repeat' split at hy) <;> first | exact ht y hy | exact h1 y hy
theorem stepL_len {kind a b : Int} {L l : List Nat} : (stepL kind a b L l).length ≤ L.length + l.length := by
  unfold stepL
  repeat' split
  all_goals simp <;> omega

/-- Both dices behind a call: their windows are as they were, or new. -/
def StepP (H : List SB) (i w j v : Nat) (L' : List Nat) (h' : List SB) : Prop :=
  ∃ w' ow' v' ov', Dc h' i w' ow' L' ∧ Rc h' j v' ov' L' ∧ i ≠ v' ∧ w' ≠ j ∧ w' ≠ v' ∧ (w' = w ∨ H.length ≤ w') ∧ (v' = v ∨ H.length ≤ v') ∧ H.length ≤ h'.length ∧ ∀ k, k < H.length → k ≠ i → k ≠ w → k ≠ j → k ≠ v → h'[k]? = H[k]?

theorem StepP.two {H G H1 H2 : List SB} {i w j v : Nat} {ow ov : Bool} {L' : List Nat} (hG : H.length ≤ G.length) (fr : ∀ k, k < H.length → G[k]? = H[k]?) (K1 : KeepD G H1 i) (K2 : H2.length = H1.length ∧ ∀ k, k ≠ j → H2[k]? = H1[k]?)
    (D : Dc H1 i w ow L') (R : Rc H2 j v ov L') (n1 : i ≠ j) (n2 : i ≠ v) (n3 : w ≠ j) (n4 : w ≠ v) : StepP H i w j v L' H2 :=
  ⟨w, ow, v, ov, D.mono (K2.2 i n1) (K2.2 w n3), R, n2, n3, n4, .inl rfl, .inl rfl, by have := K1.1; have := K2.1; omega, fun k hk h1 h2 h3 h4 => ((K2.2 k h3).trans (K1.2 k (by omega) h1)).trans (fr k hk)⟩
theorem KeepD.off {H H' : List SB} {i : Nat} (h : Off H H' i) : KeepD H H' i := ⟨by rw [h.1]; exact Nat.le_refl _, fun k _ hk => h.2 k hk⟩
theorem KeepD.app {H t : List SB} {i : Nat} : KeepD H (H ++ t) i := ⟨by simp, fun k hk _ => List.getElem?_append_left hk⟩
theorem Rc.app {H : List SB} {i w : Nat} {ow : Bool} {L : List Nat} (D : Rc H i w ow L) (t : List SB) : Rc (H ++ t) i w ow L :=
  D.mono (List.getElem?_append_left D.lt.1) (List.getElem?_append_left D.lt.2)

abbrev opC (kind on a b tr : Int) (x : SC) : List SC := [i64 kind, i64 on, i64 a, i64 b, i64 tr, x]

theorem step_spec (H : List SB) (i w j v : Nat) (ow ov : Bool) (L : List Nat) (D : Dc H i w ow L) (R : Rc H j v ov L) (n1 : i ≠ j) (n2 : i ≠ v) (n3 : w ≠ j) (n4 : w ≠ v) (hL : ∀ y ∈ L, y < 4294967296)
    (kind on a b tr : Int) (ht : tr < 9223372036854775808) (l sp : List Nat) (c : Nat) (hl : 4 * (L.length + l.length) ≤ 140737488355328) :
    Spec cx.P 11 [.c (.ptr i 0), .c (.ptr j 0), .agg (opC kind on a b tr (roU l sp c))] H fun t h' => t = .c (bC true) ∧ StepP H i w j v (stepL kind a b L l) h' := by
  have hh := headD_lt hL
  refine spec_of_X cx_ok Try.func11 rfl (by kernel_rfl) (by kernel_rfl) (Nat.le_of_ble_eq_true rfl) 400 15 ?_
  simp (maxSteps := 4000000) only [Try.results11, XX, Nat.reduceBEq, Nat.reduceLT, Nat.reduceAdd, Nat.reduceMul, Nat.reduceSub, Nat.reduceLeDiff, Nat.reduceEqDiff, Int.reduceToNat, Int.reduceLT, Int.reduceLE, Int.reduceAdd, Int.reduceSub, Int.reduceEq, reduceIte, Nat.reduceBNe, Int.reducePow, Nat.reducePow, Int.reduceMul, Int.reduceNeg, isB_i, isB_b, isB_y, isBv_i, isBv_b, eqCells_t, TT]
  generalize hG : H ++ [_] = G
  have lG : G.length = H.length + 1 := by rw [← hG]; simp
  have fr : ∀ k, k < H.length → G[k]? = H[k]? := fun k hk => by rw [← hG]; exact List.getElem?_append_left hk
  have gb : G[H.length]? = some ⟨true, 34, opC kind on a b tr (roU l sp c)⟩ := by rw [← hG, List.getElem?_append_right (Nat.le_refl _), Nat.sub_self]; rfl
  have DG : Dc G i w ow L := by rw [← hG]; exact D.app _
  have RG : Rc G j v ov L := by rw [← hG]; exact R.app _
  clear hG
  have ltb := lt_of gb
  have lD := D.lt
  have lR := R.lt
  simp (maxSteps := 4000000) only [Try.results11, gb, ltb, XX, Nat.reduceBEq, Nat.reduceLT, Nat.reduceAdd, Nat.reduceMul, Nat.reduceSub, Nat.reduceLeDiff, Nat.reduceEqDiff, Int.reduceToNat, Int.reduceLT, Int.reduceLE, Int.reduceAdd, Int.reduceSub, Int.reduceEq, reduceIte, Nat.reduceBNe, Int.reducePow, Nat.reducePow, Int.reduceMul, Int.reduceNeg, isB_i, isB_b, isB_y, isBv_i, isBv_b, eqCells_t, TT]
  by_cases k1 : kind = 1
  · subst k1
    have eL : stepL 1 a b L l = L ++ l := rfl
    rw [eL]
    simp (maxSteps := 4000000) only [Try.results11, gb, ltb, XX, Nat.reduceBEq, Nat.reduceLT, Nat.reduceAdd, Nat.reduceMul, Nat.reduceSub, Nat.reduceLeDiff, Nat.reduceEqDiff, Int.reduceToNat, Int.reduceLT, Int.reduceLE, Int.reduceAdd, Int.reduceSub, Int.reduceEq, reduceIte, Nat.reduceBNe, Int.reducePow, Nat.reducePow, Int.reduceMul, Int.reduceNeg, isB_i, isB_b, isB_y, isBv_i, isBv_b, eqCells_t, TT]
    refine call_fz [.c (roU l sp c)] (lentU_spec l sp c (by omega)) (fun t h' h => by obtain ⟨rfl, rfl⟩ := h; exact ⟨rfl, by simp only [XX, Nat.reduceBEq, Nat.reduceLT, Nat.reduceAdd, Nat.reduceMul, Nat.reduceSub, Nat.reduceLeDiff, Nat.reduceEqDiff, Int.reduceToNat, Int.reduceLT, Int.reduceLE, Int.reduceAdd, Int.reduceSub, Int.reduceEq, reduceIte, Nat.reduceBNe, Int.reducePow, Nat.reducePow, Int.reduceMul, Int.reduceNeg, isB_i, isB_b, isB_y, isBv_i, isBv_b, eqCells_t, TT, noRo_usC]⟩) ⟨.inl ⟨rfl, rfl⟩, trivial⟩ ?_
    rintro _ _ ⟨rfl, rfl⟩
    simp (maxSteps := 4000000) only [Try.results11, ids_usC, ren_usC, lt_usC, noRo_usC, XX, Nat.reduceBEq, Nat.reduceLT, Nat.reduceAdd, Nat.reduceMul, Nat.reduceSub, Nat.reduceLeDiff, Nat.reduceEqDiff, Int.reduceToNat, Int.reduceLT, Int.reduceLE, Int.reduceAdd, Int.reduceSub, Int.reduceEq, reduceIte, Nat.reduceBNe, Int.reducePow, Nat.reducePow, Int.reduceMul, Int.reduceNeg, isB_i, isB_b, isB_y, isBv_i, isBv_b, eqCells_t, TT]
    generalize hG2 : G ++ [_] = G2
    have lG2 : G2.length = G.length + 1 := by rw [← hG2]; simp
    have fr2 : ∀ k, k < G.length → G2[k]? = G[k]? := fun k hk => by rw [← hG2]; exact List.getElem?_append_left hk
    have gm : G2[G.length]? = some (wU true (l ++ [71, 72])) := by rw [← hG2, List.getElem?_append_right (Nat.le_refl _), Nat.sub_self]; rfl
    have D2 : Dc G2 i w ow L := by rw [← hG2]; exact DG.app _
    have R2 : Rc G2 j v ov L := by rw [← hG2]; exact RG.app _
    clear hG2 DG RG
    have gb2 := (fr2 _ ltb).trans gb
    refine call_is (addW_spec G2 i w ow L D2 l [71, 72] G.length true gm (by omega)) ?_
    rintro _ H3 ⟨rfl, w', ow', D3, hw', hl3, fr3⟩
    have R3 := R2.mono (fr3 j (by omega) (Ne.symm n1) (Ne.symm n3)) (fr3 v (by omega) (Ne.symm n2) (Ne.symm n4))
    have gm3 := (fr3 G.length (by omega) (by omega) (by omega)).trans gm
    have gb3 := (fr3 H.length (by omega) (by omega) (by omega)).trans gb2
    have ltb3 := lt_of gb3
    simp (maxSteps := 4000000) only [Try.results11, gb3, ltb3, XX, Nat.reduceBEq, Nat.reduceLT, Nat.reduceAdd, Nat.reduceMul, Nat.reduceSub, Nat.reduceLeDiff, Nat.reduceEqDiff, Int.reduceToNat, Int.reduceLT, Int.reduceLE, Int.reduceAdd, Int.reduceSub, Int.reduceEq, reduceIte, Nat.reduceBNe, Int.reducePow, Nat.reducePow, Int.reduceMul, Int.reduceNeg, isB_i, isB_b, isB_y, isBv_i, isBv_b, eqCells_t, TT]
    refine call_is (radd_spec H3 j v ov L R3 l sp c (by omega)) ?_
    rintro _ H4 ⟨rfl, v', ov', R4, hv', hl4, fr4⟩
    have lD3 := D3.lt
    have D4 := D3.mono (fr4 i (by omega) n1) (fr4 w' lD3.2 (by omega))
    have gm4 := (fr4 G.length (by omega) (by omega)).trans gm3
    have gb4 := (fr4 H.length (by omega) (by omega)).trans gb3
    have ltb4 := lt_of gb4
    simp (maxSteps := 4000000) only [Try.results11, gb4, ltb4, XX, Nat.reduceBEq, Nat.reduceLT, Nat.reduceAdd, Nat.reduceMul, Nat.reduceSub, Nat.reduceLeDiff, Nat.reduceEqDiff, Int.reduceToNat, Int.reduceLT, Int.reduceLE, Int.reduceAdd, Int.reduceSub, Int.reduceEq, reduceIte, Nat.reduceBNe, Int.reducePow, Nat.reducePow, Int.reduceMul, Int.reduceNeg, isB_i, isB_b, isB_y, isBv_i, isBv_b, eqCells_t, TT]
    refine call_is (asLentU_spec H4 G.length l sp c gm4 (by omega)) ?_
    rintro _ _ ⟨rfl, rfl⟩
    have key : ∀ k, k ≠ G.length → (H4.set G.length (wU true (List.replicate (l.length + 2) 83)))[k]? = H4[k]? := fun k hk => List.getElem?_set_ne (Ne.symm hk)
    simp (maxSteps := 4000000) only [Try.results11, XX, Nat.reduceBEq, Nat.reduceLT, Nat.reduceAdd, Nat.reduceMul, Nat.reduceSub, Nat.reduceLeDiff, Nat.reduceEqDiff, Int.reduceToNat, Int.reduceLT, Int.reduceLE, Int.reduceAdd, Int.reduceSub, Int.reduceEq, reduceIte, Nat.reduceBNe, Int.reducePow, Nat.reducePow, Int.reduceMul, Int.reduceNeg, isB_i, isB_b, isB_y, isBv_i, isBv_b, eqCells_t, TT]
    refine ⟨w', ow', v', ov', D4.mono (key _ (by omega)) (key _ (by omega)), R4.mono (key _ (by omega)) (key _ (by omega)), by omega, by omega, by omega, by omega, by omega, by simp; omega, fun k hk h1 h2 h3 h4 => ?_⟩
    rw [key k (by omega), fr4 k (by omega) h3, fr3 k (by omega) h1 h2, fr2 k (by omega), fr k hk]
  have d1 : decide (kind = 1) = false := by simpa using k1
  by_cases k2 : kind = 2
  · subst k2
    have eL : stepL 2 a b L l = L.tail := rfl
    rw [eL]
    simp (maxSteps := 4000000) only [Try.results11, gb, ltb, XX, Nat.reduceBEq, Nat.reduceLT, Nat.reduceAdd, Nat.reduceMul, Nat.reduceSub, Nat.reduceLeDiff, Nat.reduceEqDiff, Int.reduceToNat, Int.reduceLT, Int.reduceLE, Int.reduceAdd, Int.reduceSub, Int.reduceEq, reduceIte, Nat.reduceBNe, Int.reducePow, Nat.reducePow, Int.reduceMul, Int.reduceNeg, isB_i, isB_b, isB_y, isBv_i, isBv_b, eqCells_t, TT]
    refine call_is (next_spec G i w ow L DG) ?_
    rintro _ H1 ⟨rfl, D1, q1, q2⟩
    have R1 := RG.mono (q2 j (Ne.symm n1)) (q2 v (Ne.symm n2))
    simp (maxSteps := 4000000) only [Try.results11, XX, Nat.reduceBEq, Nat.reduceLT, Nat.reduceAdd, Nat.reduceMul, Nat.reduceSub, Nat.reduceLeDiff, Nat.reduceEqDiff, Int.reduceToNat, Int.reduceLT, Int.reduceLE, Int.reduceAdd, Int.reduceSub, Int.reduceEq, reduceIte, Nat.reduceBNe, Int.reducePow, Nat.reducePow, Int.reduceMul, Int.reduceNeg, isB_i, isB_b, isB_y, isBv_i, isBv_b, eqCells_t, TT]
    refine call_is (rnext_spec H1 j v ov L R1) ?_
    rintro _ H2 ⟨rfl, R2, K2⟩
    simp (maxSteps := 4000000) only [Try.results11, XX, Nat.reduceBEq, Nat.reduceLT, Nat.reduceAdd, Nat.reduceMul, Nat.reduceSub, Nat.reduceLeDiff, Nat.reduceEqDiff, Int.reduceToNat, Int.reduceLT, Int.reduceLE, Int.reduceAdd, Int.reduceSub, Int.reduceEq, reduceIte, Nat.reduceBNe, Int.reducePow, Nat.reducePow, Int.reduceMul, Int.reduceNeg, isB_i, isB_b, isB_y, isBv_i, isBv_b, eqCells_t, TT]
    exact StepP.two (by omega) fr (KeepD.off ⟨q1, q2⟩) K2 D1 R2 n1 n2 n3 n4
  have d2 : decide (kind = 2) = false := by simpa using k2
  by_cases k3 : kind = 3
  · subst k3
    by_cases hab : a < b
    · have eL : stepL 3 a b L l = L.tail := if_pos hab
      rw [eL]
      simp (maxSteps := 4000000) only [Try.results11, gb, ltb, XX, Nat.reduceBEq, Nat.reduceLT, Nat.reduceAdd, Nat.reduceMul, Nat.reduceSub, Nat.reduceLeDiff, Nat.reduceEqDiff, Int.reduceToNat, Int.reduceLT, Int.reduceLE, Int.reduceAdd, Int.reduceSub, Int.reduceEq, reduceIte, Nat.reduceBNe, Int.reducePow, Nat.reducePow, Int.reduceMul, Int.reduceNeg, isB_i, isB_b, isB_y, isBv_i, isBv_b, eqCells_t, TT]
      refine call_is (span_spec G i w ow L DG hh a b hab) ?_
      rintro _ H1 ⟨rfl, D1, K1⟩
      have R1 := RG.mono (K1.2 j (by omega) (Ne.symm n1)) (K1.2 v (by omega) (Ne.symm n2))
      have gb1 := (K1.2 H.length (by omega) (by omega)).trans gb
      have ltb1 := lt_of gb1
      simp (maxSteps := 4000000) only [Try.results11, gb1, ltb1, XX, Nat.reduceBEq, Nat.reduceLT, Nat.reduceAdd, Nat.reduceMul, Nat.reduceSub, Nat.reduceLeDiff, Nat.reduceEqDiff, Int.reduceToNat, Int.reduceLT, Int.reduceLE, Int.reduceAdd, Int.reduceSub, Int.reduceEq, reduceIte, Nat.reduceBNe, Int.reducePow, Nat.reducePow, Int.reduceMul, Int.reduceNeg, isB_i, isB_b, isB_y, isBv_i, isBv_b, eqCells_t, TT]
      refine call_is (rspan_spec H1 j v ov L R1 hh a b hab) ?_
      rintro _ H2 ⟨rfl, R2, K2⟩
      simp (maxSteps := 4000000) only [Try.results11, XX, Nat.reduceBEq, Nat.reduceLT, Nat.reduceAdd, Nat.reduceMul, Nat.reduceSub, Nat.reduceLeDiff, Nat.reduceEqDiff, Int.reduceToNat, Int.reduceLT, Int.reduceLE, Int.reduceAdd, Int.reduceSub, Int.reduceEq, reduceIte, Nat.reduceBNe, Int.reducePow, Nat.reducePow, Int.reduceMul, Int.reduceNeg, isB_i, isB_b, isB_y, isBv_i, isBv_b, eqCells_t, TT]
      exact StepP.two (by omega) fr K1 K2 D1 R2 n1 n2 n3 n4
    · have eL : stepL 3 a b L l = L := if_neg hab
      rw [eL]
      simp (maxSteps := 4000000) only [Try.results11, gb, ltb, XX, Nat.reduceBEq, Nat.reduceLT, Nat.reduceAdd, Nat.reduceMul, Nat.reduceSub, Nat.reduceLeDiff, Nat.reduceEqDiff, Int.reduceToNat, Int.reduceLT, Int.reduceLE, Int.reduceAdd, Int.reduceSub, Int.reduceEq, reduceIte, Nat.reduceBNe, Int.reducePow, Nat.reducePow, Int.reduceMul, Int.reduceNeg, isB_i, isB_b, isB_y, isBv_i, isBv_b, eqCells_t, TT]
      refine call_is (span0_spec G i a b (by omega)) ?_
      rintro _ _ ⟨rfl, t, rfl⟩
      have gb1 : (G ++ t)[H.length]? = _ := (List.getElem?_append_left ltb).trans gb
      have ltb1 := lt_of gb1
      simp (maxSteps := 4000000) only [Try.results11, gb1, ltb1, XX, Nat.reduceBEq, Nat.reduceLT, Nat.reduceAdd, Nat.reduceMul, Nat.reduceSub, Nat.reduceLeDiff, Nat.reduceEqDiff, Int.reduceToNat, Int.reduceLT, Int.reduceLE, Int.reduceAdd, Int.reduceSub, Int.reduceEq, reduceIte, Nat.reduceBNe, Int.reducePow, Nat.reducePow, Int.reduceMul, Int.reduceNeg, isB_i, isB_b, isB_y, isBv_i, isBv_b, eqCells_t, TT]
      refine call_is (rspan0_spec _ j a b (by omega)) ?_
      rintro _ _ ⟨rfl, rfl⟩
      simp (maxSteps := 4000000) only [Try.results11, XX, Nat.reduceBEq, Nat.reduceLT, Nat.reduceAdd, Nat.reduceMul, Nat.reduceSub, Nat.reduceLeDiff, Nat.reduceEqDiff, Int.reduceToNat, Int.reduceLT, Int.reduceLE, Int.reduceAdd, Int.reduceSub, Int.reduceEq, reduceIte, Nat.reduceBNe, Int.reducePow, Nat.reducePow, Int.reduceMul, Int.reduceNeg, isB_i, isB_b, isB_y, isBv_i, isBv_b, eqCells_t, TT]
      exact StepP.two (by omega) fr KeepD.app ⟨rfl, fun _ _ => rfl⟩ (DG.app t) (RG.app t) n1 n2 n3 n4
  have d3 : decide (kind = 3) = false := by simpa using k3
  by_cases k4 : kind = 4
  · subst k4
    have eL : stepL 4 a b L l = L.tail := rfl
    rw [eL]
    simp (maxSteps := 4000000) only [Try.results11, gb, ltb, XX, Nat.reduceBEq, Nat.reduceLT, Nat.reduceAdd, Nat.reduceMul, Nat.reduceSub, Nat.reduceLeDiff, Nat.reduceEqDiff, Int.reduceToNat, Int.reduceLT, Int.reduceLE, Int.reduceAdd, Int.reduceSub, Int.reduceEq, reduceIte, Nat.reduceBNe, Int.reducePow, Nat.reducePow, Int.reduceMul, Int.reduceNeg, isB_i, isB_b, isB_y, isBv_i, isBv_b, eqCells_t, TT]
    refine call_is (port_spec G i w ow L DG hh) ?_
    rintro _ H1 ⟨rfl, D1, off⟩
    have R1 := RG.mono (off.2 j (Ne.symm n1)) (off.2 v (Ne.symm n2))
    simp (maxSteps := 4000000) only [Try.results11, XX, Nat.reduceBEq, Nat.reduceLT, Nat.reduceAdd, Nat.reduceMul, Nat.reduceSub, Nat.reduceLeDiff, Nat.reduceEqDiff, Int.reduceToNat, Int.reduceLT, Int.reduceLE, Int.reduceAdd, Int.reduceSub, Int.reduceEq, reduceIte, Nat.reduceBNe, Int.reducePow, Nat.reducePow, Int.reduceMul, Int.reduceNeg, isB_i, isB_b, isB_y, isBv_i, isBv_b, eqCells_t, TT]
    refine call_is (rport_spec H1 j v ov L R1 hh) ?_
    rintro _ H2 ⟨rfl, R2, K2⟩
    simp (maxSteps := 4000000) only [Try.results11, XX, Nat.reduceBEq, Nat.reduceLT, Nat.reduceAdd, Nat.reduceMul, Nat.reduceSub, Nat.reduceLeDiff, Nat.reduceEqDiff, Int.reduceToNat, Int.reduceLT, Int.reduceLE, Int.reduceAdd, Int.reduceSub, Int.reduceEq, reduceIte, Nat.reduceBNe, Int.reducePow, Nat.reducePow, Int.reduceMul, Int.reduceNeg, isB_i, isB_b, isB_y, isBv_i, isBv_b, eqCells_t, TT]
    exact StepP.two (by omega) fr (KeepD.off off) K2 D1 R2 n1 n2 n3 n4
  have d4 : decide (kind = 4) = false := by simpa using k4
  by_cases k5 : kind = 5
  · subst k5
    have eL : stepL 5 a b L l = L.tail := rfl
    rw [eL]
    simp (maxSteps := 4000000) only [Try.results11, gb, ltb, XX, Nat.reduceBEq, Nat.reduceLT, Nat.reduceAdd, Nat.reduceMul, Nat.reduceSub, Nat.reduceLeDiff, Nat.reduceEqDiff, Int.reduceToNat, Int.reduceLT, Int.reduceLE, Int.reduceAdd, Int.reduceSub, Int.reduceEq, reduceIte, Nat.reduceBNe, Int.reducePow, Nat.reducePow, Int.reduceMul, Int.reduceNeg, isB_i, isB_b, isB_y, isBv_i, isBv_b, eqCells_t, TT]
    refine call_is (backoff_spec G i w ow L DG hh a b tr ht) ?_
    rintro _ H1 ⟨rfl, D1, K1⟩
    have R1 := RG.mono (K1.2 j (by omega) (Ne.symm n1)) (K1.2 v (by omega) (Ne.symm n2))
    have gb1 := (K1.2 H.length (by omega) (by omega)).trans gb
    have ltb1 := lt_of gb1
    simp (maxSteps := 4000000) only [Try.results11, gb1, ltb1, XX, Nat.reduceBEq, Nat.reduceLT, Nat.reduceAdd, Nat.reduceMul, Nat.reduceSub, Nat.reduceLeDiff, Nat.reduceEqDiff, Int.reduceToNat, Int.reduceLT, Int.reduceLE, Int.reduceAdd, Int.reduceSub, Int.reduceEq, reduceIte, Nat.reduceBNe, Int.reducePow, Nat.reducePow, Int.reduceMul, Int.reduceNeg, isB_i, isB_b, isB_y, isBv_i, isBv_b, eqCells_t, TT]
    refine call_is (rbackoff_spec H1 j v ov L R1 hh a b tr ht) ?_
    rintro _ H2 ⟨rfl, R2, K2⟩
    simp (maxSteps := 4000000) only [Try.results11, XX, Nat.reduceBEq, Nat.reduceLT, Nat.reduceAdd, Nat.reduceMul, Nat.reduceSub, Nat.reduceLeDiff, Nat.reduceEqDiff, Int.reduceToNat, Int.reduceLT, Int.reduceLE, Int.reduceAdd, Int.reduceSub, Int.reduceEq, reduceIte, Nat.reduceBNe, Int.reducePow, Nat.reducePow, Int.reduceMul, Int.reduceNeg, isB_i, isB_b, isB_y, isBv_i, isBv_b, eqCells_t, TT]
    exact StepP.two (by omega) fr K1 K2 D1 R2 n1 n2 n3 n4
  have d5 : decide (kind = 5) = false := by simpa using k5
  have eL : stepL kind a b L l = L := by unfold stepL; simp only [if_neg k1, if_neg k2, if_neg k3, if_neg k4, if_neg k5]
  rw [eL]
  simp (maxSteps := 4000000) only [Try.results11, gb, ltb, d1, d2, d3, d4, d5, XX, Nat.reduceBEq, Nat.reduceLT, Nat.reduceAdd, Nat.reduceMul, Nat.reduceSub, Nat.reduceLeDiff, Nat.reduceEqDiff, Int.reduceToNat, Int.reduceLT, Int.reduceLE, Int.reduceAdd, Int.reduceSub, Int.reduceEq, reduceIte, Nat.reduceBNe, Int.reducePow, Nat.reducePow, Int.reduceMul, Int.reduceNeg, isB_i, isB_b, isB_y, isBv_i, isBv_b, eqCells_t, TT]
  refine call_is (left_spec G i w ow L DG) ?_
  rintro _ _ ⟨rfl, rfl⟩
  simp (maxSteps := 4000000) only [Try.results11, XX, Nat.reduceBEq, Nat.reduceLT, Nat.reduceAdd, Nat.reduceMul, Nat.reduceSub, Nat.reduceLeDiff, Nat.reduceEqDiff, Int.reduceToNat, Int.reduceLT, Int.reduceLE, Int.reduceAdd, Int.reduceSub, Int.reduceEq, reduceIte, Nat.reduceBNe, Int.reducePow, Nat.reducePow, Int.reduceMul, Int.reduceNeg, isB_i, isB_b, isB_y, isBv_i, isBv_b, eqCells_t, TT]
  refine call_is (rleft_spec _ j v ov L RG) ?_
  rintro _ _ ⟨rfl, rfl⟩
  simp (maxSteps := 4000000) only [Try.results11, XX, Nat.reduceBEq, Nat.reduceLT, Nat.reduceAdd, Nat.reduceMul, Nat.reduceSub, Nat.reduceLeDiff, Nat.reduceEqDiff, Int.reduceToNat, Int.reduceLT, Int.reduceLE, Int.reduceAdd, Int.reduceSub, Int.reduceEq, reduceIte, Nat.reduceBNe, Int.reducePow, Nat.reducePow, Int.reduceMul, Int.reduceNeg, isB_i, isB_b, isB_y, isBv_i, isBv_b, eqCells_t, TT]
  exact StepP.two (by omega) fr ⟨Nat.le_refl _, fun _ _ _ => rfl⟩ ⟨rfl, fun _ _ => rfl⟩ DG RG n1 n2 n3 n4

end Go.Proofs.Ytniednekfnfhmaa.Sx
