/- The symbolic executor, at work: what the laws lean on, part 2. No condition. -/
import Derived.Test.YthbojoiogjdbeaaZ1
namespace Go.Proofs.Ythbojoiogjdbeaa.Sx
open Go
set_option linter.unusedSimpArgs false
set_option linter.unusedVariables false
set_option maxRecDepth 10000
set_option maxHeartbeats 2000000
/-- What a card's slot is, to see. -/
theorem show2_spec (k : CK) (ok : k.ok) (i : Nat) (s : Sl) (hi : k.tx[i]? = some s) : Spec cx.P 51 [.c (.ptr 0 2), .c (i64 i)] k.h fun t h' => t = .tup [(true, [bC s.own, .sl 3 0 s.d.length s.d.length]), (false, [i64 0])] ∧ h' = k.h ++ [wB true s.d] := by
  have hlt := (List.getElem?_eq_some_iff.1 hi).1
  obtain ⟨g1, g2⟩ := slC_own hi ok.ts
  have r1 := ok.tx1
  have hD := dataS_spec false k.tx i s hi ok.ts
  have hc : (slC k.tx).all (SC.lt 1) = true := slC_lt 1 _
  refine Spec.wk (K := fun t h' => t = .tup [(true, [bC s.own, .sl 4 0 s.d.length s.d.length]), (false, [i64 0])] ∧ ∃ x, h' = k.h ++ [x, wB true s.d]) ?_ fun t h' ⟨h1, x, h2⟩ => ⟨.tup [(true, [bC s.own, .sl 3 0 s.d.length s.d.length]), (false, [i64 0])], k.h ++ [wB true s.d], [some 0, some 1, some 2, some 4], rfl, by subst h2; simp only [XX, Nat.reduceBEq, Nat.reduceLT, Nat.reduceAdd, Nat.reduceMul, Nat.reduceSub, Nat.reduceLeDiff, Nat.reduceEqDiff, Int.reduceToNat, Int.reduceLT, Int.reduceLE, Int.reduceAdd, Int.reduceSub, Int.reduceEq, reduceIte, Nat.reduceBNe, Int.reducePow, Nat.reducePow, Int.reduceMul, Int.reduceNeg, isB_i, isB_b, isB_y, isBv_i, isBv_b, eqCells_t, TT, ids_bsC, ren_bsC, noRo_bsC, plain_bsC, lt_bsC, ids_byte, ren_byte, noRo_byte, plain_byte, lt_byte, slC_ren]; exact ⟨.inl (slC_ids _ _), .inl (slC_ids _ _)⟩, by subst h1; simp only [XX, Nat.reduceBEq, Nat.reduceLT, Nat.reduceAdd, Nat.reduceMul, Nat.reduceSub, Nat.reduceLeDiff, Nat.reduceEqDiff, Int.reduceToNat, Int.reduceLT, Int.reduceLE, Int.reduceAdd, Int.reduceSub, Int.reduceEq, reduceIte, Nat.reduceBNe, Int.reducePow, Nat.reducePow, Int.reduceMul, Int.reduceNeg, isB_i, isB_b, isB_y, isBv_i, isBv_b, eqCells_t, TT, ids_bsC, ren_bsC, noRo_bsC, plain_bsC, lt_bsC, ids_byte, ren_byte, noRo_byte, plain_byte, lt_byte], rfl, rfl⟩
  refine spec_of_X cx_ok Try.func51 rfl (by kernel_rfl) (by kernel_rfl) (Nat.le_of_ble_eq_true rfl) 400 7 ?_
  simp (maxSteps := 4000000) only [Try.results51, XX, Nat.reduceBEq, Nat.reduceLT, Nat.reduceAdd, Nat.reduceMul, Nat.reduceSub, Nat.reduceLeDiff, Nat.reduceEqDiff, Int.reduceToNat, Int.reduceLT, Int.reduceLE, Int.reduceAdd, Int.reduceSub, Int.reduceEq, reduceIte, Nat.reduceBNe, Int.reducePow, Nat.reducePow, Int.reduceMul, Int.reduceNeg, isB_i, isB_b, isB_y, isBv_i, isBv_b, eqCells_t, TT]
  refine call_is (at2_spec true _ 0 1 2 _ _ _ _ _ _ _ rfl i hlt r1) ?_
  rintro _ _ ⟨rfl, rfl⟩
  simp (maxSteps := 4000000) only [Try.results51, XX, Nat.reduceBEq, Nat.reduceLT, Nat.reduceAdd, Nat.reduceMul, Nat.reduceSub, Nat.reduceLeDiff, Nat.reduceEqDiff, Int.reduceToNat, Int.reduceLT, Int.reduceLE, Int.reduceAdd, Int.reduceSub, Int.reduceEq, reduceIte, Nat.reduceBNe, Int.reducePow, Nat.reducePow, Int.reduceMul, Int.reduceNeg, isB_i, isB_b, isB_y, isBv_i, isBv_b, eqCells_t, TT]
  refine draw_of cx_ok (by kernel_rfl) 400 [2] [(0, true), (1, true), (2, true), (3, true), (4, true), (5, false), (6, true), (7, false), (8, true)] (by kernel_rfl) rfl ?_
  simp (maxSteps := 4000000) only [Try.results51, g1, g2, XX, Nat.reduceBEq, Nat.reduceLT, Nat.reduceAdd, Nat.reduceMul, Nat.reduceSub, Nat.reduceLeDiff, Nat.reduceEqDiff, Int.reduceToNat, Int.reduceLT, Int.reduceLE, Int.reduceAdd, Int.reduceSub, Int.reduceEq, reduceIte, Nat.reduceBNe, Int.reducePow, Nat.reducePow, Int.reduceMul, Int.reduceNeg, isB_i, isB_b, isB_y, isBv_i, isBv_b, eqCells_t, TT]
  refine call_frame hD [2] rfl rfl ?_ rfl ?_ ?_
  · simp only [XX, Nat.reduceBEq, Nat.reduceLT, Nat.reduceAdd, Nat.reduceMul, Nat.reduceSub, Nat.reduceLeDiff, Nat.reduceEqDiff, Int.reduceToNat, Int.reduceLT, Int.reduceLE, Int.reduceAdd, Int.reduceSub, Int.reduceEq, reduceIte, Nat.reduceBNe, Int.reducePow, Nat.reducePow, Int.reduceMul, Int.reduceNeg, isB_i, isB_b, isB_y, isBv_i, isBv_b, eqCells_t, TT, preOk, ids_bsC, ren_bsC, noRo_bsC, plain_bsC, lt_bsC, ids_byte, ren_byte, noRo_byte, plain_byte, lt_byte, slC_ren]
  · simp only [XX, Nat.reduceBEq, Nat.reduceLT, Nat.reduceAdd, Nat.reduceMul, Nat.reduceSub, Nat.reduceLeDiff, Nat.reduceEqDiff, Int.reduceToNat, Int.reduceLT, Int.reduceLE, Int.reduceAdd, Int.reduceSub, Int.reduceEq, reduceIte, Nat.reduceBNe, Int.reducePow, Nat.reducePow, Int.reduceMul, Int.reduceNeg, isB_i, isB_b, isB_y, isBv_i, isBv_b, eqCells_t, TT, ids_bsC, ren_bsC, noRo_bsC, plain_bsC, lt_bsC, ids_byte, ren_byte, noRo_byte, plain_byte, lt_byte, hc]
  rintro _ _ ⟨rfl, rfl⟩
  simp (maxSteps := 4000000) only [Try.results51, ids_bsC, ren_bsC, noRo_bsC, plain_bsC, lt_bsC, ids_byte, ren_byte, noRo_byte, plain_byte, lt_byte, XX, Nat.reduceBEq, Nat.reduceLT, Nat.reduceAdd, Nat.reduceMul, Nat.reduceSub, Nat.reduceLeDiff, Nat.reduceEqDiff, Int.reduceToNat, Int.reduceLT, Int.reduceLE, Int.reduceAdd, Int.reduceSub, Int.reduceEq, reduceIte, Nat.reduceBNe, Int.reducePow, Nat.reducePow, Int.reduceMul, Int.reduceNeg, isB_i, isB_b, isB_y, isBv_i, isBv_b, eqCells_t, TT]
  exact ⟨_, rfl⟩
theorem show1N_spec (k : CK) (i : Int) (hi : i < 0 ∨ (k.rx.length : Int) ≤ i) : Spec cx.P 51 [.c (.ptr 0 0), .c (i64 i)] k.h fun t h' => t = .tup [(true, [bC false, .v (.slice none 0 0)]), (false, [i64 40])] ∧ h' = k.h := by
  refine Spec.wk (K := fun t h' => t = .tup [(true, [bC false, .v (.slice none 0 0)]), (false, [i64 40])] ∧ ∃ x, h' = k.h ++ [x]) ?_ fun t h' ⟨h1, x, h2⟩ => ⟨.tup [(true, [bC false, .v (.slice none 0 0)]), (false, [i64 40])], k.h, [some 0, some 1, some 2], rfl, by subst h2; simp only [XX, Nat.reduceBEq, Nat.reduceLT, Nat.reduceAdd, Nat.reduceMul, Nat.reduceSub, Nat.reduceLeDiff, Nat.reduceEqDiff, Int.reduceToNat, Int.reduceLT, Int.reduceLE, Int.reduceAdd, Int.reduceSub, Int.reduceEq, reduceIte, Nat.reduceBNe, Int.reducePow, Nat.reducePow, Int.reduceMul, Int.reduceNeg, isB_i, isB_b, isB_y, isBv_i, isBv_b, eqCells_t, TT, ids_bsC, ren_bsC, noRo_bsC, plain_bsC, lt_bsC, ids_byte, ren_byte, noRo_byte, plain_byte, lt_byte, slC_ren]; exact ⟨.inl (slC_ids _ _), .inl (slC_ids _ _)⟩, by subst h1; simp only [XX, Nat.reduceBEq, Nat.reduceLT, Nat.reduceAdd, Nat.reduceMul, Nat.reduceSub, Nat.reduceLeDiff, Nat.reduceEqDiff, Int.reduceToNat, Int.reduceLT, Int.reduceLE, Int.reduceAdd, Int.reduceSub, Int.reduceEq, reduceIte, Nat.reduceBNe, Int.reducePow, Nat.reducePow, Int.reduceMul, Int.reduceNeg, isB_i, isB_b, isB_y, isBv_i, isBv_b, eqCells_t, TT, ids_bsC, ren_bsC, noRo_bsC, plain_bsC, lt_bsC, ids_byte, ren_byte, noRo_byte, plain_byte, lt_byte], rfl, rfl⟩
  refine spec_of_X cx_ok Try.func51 rfl (by kernel_rfl) (by kernel_rfl) (Nat.le_of_ble_eq_true rfl) 400 7 ?_
  simp (maxSteps := 4000000) only [Try.results51, XX, Nat.reduceBEq, Nat.reduceLT, Nat.reduceAdd, Nat.reduceMul, Nat.reduceSub, Nat.reduceLeDiff, Nat.reduceEqDiff, Int.reduceToNat, Int.reduceLT, Int.reduceLE, Int.reduceAdd, Int.reduceSub, Int.reduceEq, reduceIte, Nat.reduceBNe, Int.reducePow, Nat.reducePow, Int.reduceMul, Int.reduceNeg, isB_i, isB_b, isB_y, isBv_i, isBv_b, eqCells_t, TT]
  refine call_is (at1N_spec true _ 0 1 2 _ _ _ _ _ _ _ rfl i hi) ?_
  rintro _ _ ⟨rfl, rfl⟩
  simp (maxSteps := 4000000) only [Try.results51, XX, Nat.reduceBEq, Nat.reduceLT, Nat.reduceAdd, Nat.reduceMul, Nat.reduceSub, Nat.reduceLeDiff, Nat.reduceEqDiff, Int.reduceToNat, Int.reduceLT, Int.reduceLE, Int.reduceAdd, Int.reduceSub, Int.reduceEq, reduceIte, Nat.reduceBNe, Int.reducePow, Nat.reducePow, Int.reduceMul, Int.reduceNeg, isB_i, isB_b, isB_y, isBv_i, isBv_b, eqCells_t, TT]
  exact ⟨_, rfl⟩
theorem show2N_spec (k : CK) (i : Int) (hi : i < 0 ∨ (k.tx.length : Int) ≤ i) : Spec cx.P 51 [.c (.ptr 0 2), .c (i64 i)] k.h fun t h' => t = .tup [(true, [bC false, .v (.slice none 0 0)]), (false, [i64 40])] ∧ h' = k.h := by
  refine Spec.wk (K := fun t h' => t = .tup [(true, [bC false, .v (.slice none 0 0)]), (false, [i64 40])] ∧ ∃ x, h' = k.h ++ [x]) ?_ fun t h' ⟨h1, x, h2⟩ => ⟨.tup [(true, [bC false, .v (.slice none 0 0)]), (false, [i64 40])], k.h, [some 0, some 1, some 2], rfl, by subst h2; simp only [XX, Nat.reduceBEq, Nat.reduceLT, Nat.reduceAdd, Nat.reduceMul, Nat.reduceSub, Nat.reduceLeDiff, Nat.reduceEqDiff, Int.reduceToNat, Int.reduceLT, Int.reduceLE, Int.reduceAdd, Int.reduceSub, Int.reduceEq, reduceIte, Nat.reduceBNe, Int.reducePow, Nat.reducePow, Int.reduceMul, Int.reduceNeg, isB_i, isB_b, isB_y, isBv_i, isBv_b, eqCells_t, TT, ids_bsC, ren_bsC, noRo_bsC, plain_bsC, lt_bsC, ids_byte, ren_byte, noRo_byte, plain_byte, lt_byte, slC_ren]; exact ⟨.inl (slC_ids _ _), .inl (slC_ids _ _)⟩, by subst h1; simp only [XX, Nat.reduceBEq, Nat.reduceLT, Nat.reduceAdd, Nat.reduceMul, Nat.reduceSub, Nat.reduceLeDiff, Nat.reduceEqDiff, Int.reduceToNat, Int.reduceLT, Int.reduceLE, Int.reduceAdd, Int.reduceSub, Int.reduceEq, reduceIte, Nat.reduceBNe, Int.reducePow, Nat.reducePow, Int.reduceMul, Int.reduceNeg, isB_i, isB_b, isB_y, isBv_i, isBv_b, eqCells_t, TT, ids_bsC, ren_bsC, noRo_bsC, plain_bsC, lt_bsC, ids_byte, ren_byte, noRo_byte, plain_byte, lt_byte], rfl, rfl⟩
  refine spec_of_X cx_ok Try.func51 rfl (by kernel_rfl) (by kernel_rfl) (Nat.le_of_ble_eq_true rfl) 400 7 ?_
  simp (maxSteps := 4000000) only [Try.results51, XX, Nat.reduceBEq, Nat.reduceLT, Nat.reduceAdd, Nat.reduceMul, Nat.reduceSub, Nat.reduceLeDiff, Nat.reduceEqDiff, Int.reduceToNat, Int.reduceLT, Int.reduceLE, Int.reduceAdd, Int.reduceSub, Int.reduceEq, reduceIte, Nat.reduceBNe, Int.reducePow, Nat.reducePow, Int.reduceMul, Int.reduceNeg, isB_i, isB_b, isB_y, isBv_i, isBv_b, eqCells_t, TT]
  refine call_is (at2N_spec true _ 0 1 2 _ _ _ _ _ _ _ rfl i hi) ?_
  rintro _ _ ⟨rfl, rfl⟩
  simp (maxSteps := 4000000) only [Try.results51, XX, Nat.reduceBEq, Nat.reduceLT, Nat.reduceAdd, Nat.reduceMul, Nat.reduceSub, Nat.reduceLeDiff, Nat.reduceEqDiff, Int.reduceToNat, Int.reduceLT, Int.reduceLE, Int.reduceAdd, Int.reduceSub, Int.reduceEq, reduceIte, Nat.reduceBNe, Int.reducePow, Nat.reducePow, Int.reduceMul, Int.reduceNeg, isB_i, isB_b, isB_y, isBv_i, isBv_b, eqCells_t, TT]
  exact ⟨_, rfl⟩
theorem rx_spec (k : CK) (ok : k.ok) (i : Nat) (s : Sl) (hi : k.rx[i]? = some s) : Spec cx.P 30 [.c (.ptr 0 0), .c (i64 i)] k.h fun t h' => t = .tup [(true, [bC s.own, .sl 3 0 s.d.length s.d.length]), (false, [i64 0])] ∧ h' = k.h ++ [wB true s.d] := by
  refine Spec.wk (K := fun t h' => t = .tup [(true, [bC s.own, .sl 4 0 s.d.length s.d.length]), (false, [i64 0])] ∧ ∃ x, h' = k.h ++ [x, wB true s.d]) ?_ fun t h' ⟨h1, x, h2⟩ => ⟨.tup [(true, [bC s.own, .sl 3 0 s.d.length s.d.length]), (false, [i64 0])], k.h ++ [wB true s.d], [some 0, some 1, some 2, some 4], rfl, by subst h2; simp only [XX, Nat.reduceBEq, Nat.reduceLT, Nat.reduceAdd, Nat.reduceMul, Nat.reduceSub, Nat.reduceLeDiff, Nat.reduceEqDiff, Int.reduceToNat, Int.reduceLT, Int.reduceLE, Int.reduceAdd, Int.reduceSub, Int.reduceEq, reduceIte, Nat.reduceBNe, Int.reducePow, Nat.reducePow, Int.reduceMul, Int.reduceNeg, isB_i, isB_b, isB_y, isBv_i, isBv_b, eqCells_t, TT, ids_bsC, ren_bsC, noRo_bsC, plain_bsC, lt_bsC, ids_byte, ren_byte, noRo_byte, plain_byte, lt_byte, slC_ren]; exact ⟨.inl (slC_ids _ _), .inl (slC_ids _ _)⟩, by subst h1; simp only [XX, Nat.reduceBEq, Nat.reduceLT, Nat.reduceAdd, Nat.reduceMul, Nat.reduceSub, Nat.reduceLeDiff, Nat.reduceEqDiff, Int.reduceToNat, Int.reduceLT, Int.reduceLE, Int.reduceAdd, Int.reduceSub, Int.reduceEq, reduceIte, Nat.reduceBNe, Int.reducePow, Nat.reducePow, Int.reduceMul, Int.reduceNeg, isB_i, isB_b, isB_y, isBv_i, isBv_b, eqCells_t, TT, ids_bsC, ren_bsC, noRo_bsC, plain_bsC, lt_bsC, ids_byte, ren_byte, noRo_byte, plain_byte, lt_byte], rfl, rfl⟩
  refine spec_of_X cx_ok Try.func30 rfl (by kernel_rfl) (by kernel_rfl) (Nat.le_of_ble_eq_true rfl) 400 6 ?_
  simp (maxSteps := 4000000) only [Try.results30, XX, Nat.reduceBEq, Nat.reduceLT, Nat.reduceAdd, Nat.reduceMul, Nat.reduceSub, Nat.reduceLeDiff, Nat.reduceEqDiff, Int.reduceToNat, Int.reduceLT, Int.reduceLE, Int.reduceAdd, Int.reduceSub, Int.reduceEq, reduceIte, Nat.reduceBNe, Int.reducePow, Nat.reducePow, Int.reduceMul, Int.reduceNeg, isB_i, isB_b, isB_y, isBv_i, isBv_b, eqCells_t, TT]
  refine call_frame (show1_spec k ok i s hi) [0, 1, 2] rfl rfl ?_ rfl ?_ ?_
  · simp only [XX, Nat.reduceBEq, Nat.reduceLT, Nat.reduceAdd, Nat.reduceMul, Nat.reduceSub, Nat.reduceLeDiff, Nat.reduceEqDiff, Int.reduceToNat, Int.reduceLT, Int.reduceLE, Int.reduceAdd, Int.reduceSub, Int.reduceEq, reduceIte, Nat.reduceBNe, Int.reducePow, Nat.reducePow, Int.reduceMul, Int.reduceNeg, isB_i, isB_b, isB_y, isBv_i, isBv_b, eqCells_t, TT, preOk, ids_bsC, ren_bsC, noRo_bsC, plain_bsC, lt_bsC, ids_byte, ren_byte, noRo_byte, plain_byte, lt_byte, slC_ren]
  · simp only [XX, Nat.reduceBEq, Nat.reduceLT, Nat.reduceAdd, Nat.reduceMul, Nat.reduceSub, Nat.reduceLeDiff, Nat.reduceEqDiff, Int.reduceToNat, Int.reduceLT, Int.reduceLE, Int.reduceAdd, Int.reduceSub, Int.reduceEq, reduceIte, Nat.reduceBNe, Int.reducePow, Nat.reducePow, Int.reduceMul, Int.reduceNeg, isB_i, isB_b, isB_y, isBv_i, isBv_b, eqCells_t, TT, ids_bsC, ren_bsC, noRo_bsC, plain_bsC, lt_bsC, ids_byte, ren_byte, noRo_byte, plain_byte, lt_byte, slC_lt]; rfl
  rintro _ _ ⟨rfl, rfl⟩
  simp (maxSteps := 4000000) only [Try.results30, ids_bsC, ren_bsC, noRo_bsC, plain_bsC, lt_bsC, ids_byte, ren_byte, noRo_byte, plain_byte, lt_byte, slC_ren, XX, Nat.reduceBEq, Nat.reduceLT, Nat.reduceAdd, Nat.reduceMul, Nat.reduceSub, Nat.reduceLeDiff, Nat.reduceEqDiff, Int.reduceToNat, Int.reduceLT, Int.reduceLE, Int.reduceAdd, Int.reduceSub, Int.reduceEq, reduceIte, Nat.reduceBNe, Int.reducePow, Nat.reducePow, Int.reduceMul, Int.reduceNeg, isB_i, isB_b, isB_y, isBv_i, isBv_b, eqCells_t, TT]
  exact ⟨_, rfl⟩
theorem rxN_spec (k : CK) (i : Int) (hi : i < 0 ∨ (k.rx.length : Int) ≤ i) : Spec cx.P 30 [.c (.ptr 0 0), .c (i64 i)] k.h fun t h' => t = .tup [(true, [bC false, .v (.slice none 0 0)]), (false, [i64 40])] ∧ h' = k.h := by
  refine Spec.wk (K := fun t h' => t = .tup [(true, [bC false, .v (.slice none 0 0)]), (false, [i64 40])] ∧ ∃ x, h' = k.h ++ [x]) ?_ fun t h' ⟨h1, x, h2⟩ => ⟨.tup [(true, [bC false, .v (.slice none 0 0)]), (false, [i64 40])], k.h, [some 0, some 1, some 2], rfl, by subst h2; simp only [XX, Nat.reduceBEq, Nat.reduceLT, Nat.reduceAdd, Nat.reduceMul, Nat.reduceSub, Nat.reduceLeDiff, Nat.reduceEqDiff, Int.reduceToNat, Int.reduceLT, Int.reduceLE, Int.reduceAdd, Int.reduceSub, Int.reduceEq, reduceIte, Nat.reduceBNe, Int.reducePow, Nat.reducePow, Int.reduceMul, Int.reduceNeg, isB_i, isB_b, isB_y, isBv_i, isBv_b, eqCells_t, TT, ids_bsC, ren_bsC, noRo_bsC, plain_bsC, lt_bsC, ids_byte, ren_byte, noRo_byte, plain_byte, lt_byte, slC_ren]; exact ⟨.inl (slC_ids _ _), .inl (slC_ids _ _)⟩, by subst h1; simp only [XX, Nat.reduceBEq, Nat.reduceLT, Nat.reduceAdd, Nat.reduceMul, Nat.reduceSub, Nat.reduceLeDiff, Nat.reduceEqDiff, Int.reduceToNat, Int.reduceLT, Int.reduceLE, Int.reduceAdd, Int.reduceSub, Int.reduceEq, reduceIte, Nat.reduceBNe, Int.reducePow, Nat.reducePow, Int.reduceMul, Int.reduceNeg, isB_i, isB_b, isB_y, isBv_i, isBv_b, eqCells_t, TT, ids_bsC, ren_bsC, noRo_bsC, plain_bsC, lt_bsC, ids_byte, ren_byte, noRo_byte, plain_byte, lt_byte], rfl, rfl⟩
  refine spec_of_X cx_ok Try.func30 rfl (by kernel_rfl) (by kernel_rfl) (Nat.le_of_ble_eq_true rfl) 400 6 ?_
  simp (maxSteps := 4000000) only [Try.results30, XX, Nat.reduceBEq, Nat.reduceLT, Nat.reduceAdd, Nat.reduceMul, Nat.reduceSub, Nat.reduceLeDiff, Nat.reduceEqDiff, Int.reduceToNat, Int.reduceLT, Int.reduceLE, Int.reduceAdd, Int.reduceSub, Int.reduceEq, reduceIte, Nat.reduceBNe, Int.reducePow, Nat.reducePow, Int.reduceMul, Int.reduceNeg, isB_i, isB_b, isB_y, isBv_i, isBv_b, eqCells_t, TT]
  refine call_frame (show1N_spec k i hi) [0, 1, 2] rfl rfl ?_ rfl ?_ ?_
  · simp only [XX, Nat.reduceBEq, Nat.reduceLT, Nat.reduceAdd, Nat.reduceMul, Nat.reduceSub, Nat.reduceLeDiff, Nat.reduceEqDiff, Int.reduceToNat, Int.reduceLT, Int.reduceLE, Int.reduceAdd, Int.reduceSub, Int.reduceEq, reduceIte, Nat.reduceBNe, Int.reducePow, Nat.reducePow, Int.reduceMul, Int.reduceNeg, isB_i, isB_b, isB_y, isBv_i, isBv_b, eqCells_t, TT, preOk, ids_bsC, ren_bsC, noRo_bsC, plain_bsC, lt_bsC, ids_byte, ren_byte, noRo_byte, plain_byte, lt_byte, slC_ren]
  · simp only [XX, Nat.reduceBEq, Nat.reduceLT, Nat.reduceAdd, Nat.reduceMul, Nat.reduceSub, Nat.reduceLeDiff, Nat.reduceEqDiff, Int.reduceToNat, Int.reduceLT, Int.reduceLE, Int.reduceAdd, Int.reduceSub, Int.reduceEq, reduceIte, Nat.reduceBNe, Int.reducePow, Nat.reducePow, Int.reduceMul, Int.reduceNeg, isB_i, isB_b, isB_y, isBv_i, isBv_b, eqCells_t, TT, ids_bsC, ren_bsC, noRo_bsC, plain_bsC, lt_bsC, ids_byte, ren_byte, noRo_byte, plain_byte, lt_byte, slC_lt]; rfl
  rintro _ _ ⟨rfl, rfl⟩
  simp (maxSteps := 4000000) only [Try.results30, ids_bsC, ren_bsC, noRo_bsC, plain_bsC, lt_bsC, ids_byte, ren_byte, noRo_byte, plain_byte, lt_byte, slC_ren, XX, Nat.reduceBEq, Nat.reduceLT, Nat.reduceAdd, Nat.reduceMul, Nat.reduceSub, Nat.reduceLeDiff, Nat.reduceEqDiff, Int.reduceToNat, Int.reduceLT, Int.reduceLE, Int.reduceAdd, Int.reduceSub, Int.reduceEq, reduceIte, Nat.reduceBNe, Int.reducePow, Nat.reducePow, Int.reduceMul, Int.reduceNeg, isB_i, isB_b, isB_y, isBv_i, isBv_b, eqCells_t, TT]
  exact ⟨_, rfl⟩
theorem tx_spec (k : CK) (ok : k.ok) (i : Nat) (s : Sl) (hi : k.tx[i]? = some s) : Spec cx.P 45 [.c (.ptr 0 0), .c (i64 i)] k.h fun t h' => t = .tup [(true, [bC s.own, .sl 3 0 s.d.length s.d.length]), (false, [i64 0])] ∧ h' = k.h ++ [wB true s.d] := by
  refine Spec.wk (K := fun t h' => t = .tup [(true, [bC s.own, .sl 4 0 s.d.length s.d.length]), (false, [i64 0])] ∧ ∃ x, h' = k.h ++ [x, wB true s.d]) ?_ fun t h' ⟨h1, x, h2⟩ => ⟨.tup [(true, [bC s.own, .sl 3 0 s.d.length s.d.length]), (false, [i64 0])], k.h ++ [wB true s.d], [some 0, some 1, some 2, some 4], rfl, by subst h2; simp only [XX, Nat.reduceBEq, Nat.reduceLT, Nat.reduceAdd, Nat.reduceMul, Nat.reduceSub, Nat.reduceLeDiff, Nat.reduceEqDiff, Int.reduceToNat, Int.reduceLT, Int.reduceLE, Int.reduceAdd, Int.reduceSub, Int.reduceEq, reduceIte, Nat.reduceBNe, Int.reducePow, Nat.reducePow, Int.reduceMul, Int.reduceNeg, isB_i, isB_b, isB_y, isBv_i, isBv_b, eqCells_t, TT, ids_bsC, ren_bsC, noRo_bsC, plain_bsC, lt_bsC, ids_byte, ren_byte, noRo_byte, plain_byte, lt_byte, slC_ren]; exact ⟨.inl (slC_ids _ _), .inl (slC_ids _ _)⟩, by subst h1; simp only [XX, Nat.reduceBEq, Nat.reduceLT, Nat.reduceAdd, Nat.reduceMul, Nat.reduceSub, Nat.reduceLeDiff, Nat.reduceEqDiff, Int.reduceToNat, Int.reduceLT, Int.reduceLE, Int.reduceAdd, Int.reduceSub, Int.reduceEq, reduceIte, Nat.reduceBNe, Int.reducePow, Nat.reducePow, Int.reduceMul, Int.reduceNeg, isB_i, isB_b, isB_y, isBv_i, isBv_b, eqCells_t, TT, ids_bsC, ren_bsC, noRo_bsC, plain_bsC, lt_bsC, ids_byte, ren_byte, noRo_byte, plain_byte, lt_byte], rfl, rfl⟩
  refine spec_of_X cx_ok Try.func45 rfl (by kernel_rfl) (by kernel_rfl) (Nat.le_of_ble_eq_true rfl) 400 6 ?_
  simp (maxSteps := 4000000) only [Try.results45, XX, Nat.reduceBEq, Nat.reduceLT, Nat.reduceAdd, Nat.reduceMul, Nat.reduceSub, Nat.reduceLeDiff, Nat.reduceEqDiff, Int.reduceToNat, Int.reduceLT, Int.reduceLE, Int.reduceAdd, Int.reduceSub, Int.reduceEq, reduceIte, Nat.reduceBNe, Int.reducePow, Nat.reducePow, Int.reduceMul, Int.reduceNeg, isB_i, isB_b, isB_y, isBv_i, isBv_b, eqCells_t, TT]
  refine call_frame (show2_spec k ok i s hi) [0, 1, 2] rfl rfl ?_ rfl ?_ ?_
  · simp only [XX, Nat.reduceBEq, Nat.reduceLT, Nat.reduceAdd, Nat.reduceMul, Nat.reduceSub, Nat.reduceLeDiff, Nat.reduceEqDiff, Int.reduceToNat, Int.reduceLT, Int.reduceLE, Int.reduceAdd, Int.reduceSub, Int.reduceEq, reduceIte, Nat.reduceBNe, Int.reducePow, Nat.reducePow, Int.reduceMul, Int.reduceNeg, isB_i, isB_b, isB_y, isBv_i, isBv_b, eqCells_t, TT, preOk, ids_bsC, ren_bsC, noRo_bsC, plain_bsC, lt_bsC, ids_byte, ren_byte, noRo_byte, plain_byte, lt_byte, slC_ren]
  · simp only [XX, Nat.reduceBEq, Nat.reduceLT, Nat.reduceAdd, Nat.reduceMul, Nat.reduceSub, Nat.reduceLeDiff, Nat.reduceEqDiff, Int.reduceToNat, Int.reduceLT, Int.reduceLE, Int.reduceAdd, Int.reduceSub, Int.reduceEq, reduceIte, Nat.reduceBNe, Int.reducePow, Nat.reducePow, Int.reduceMul, Int.reduceNeg, isB_i, isB_b, isB_y, isBv_i, isBv_b, eqCells_t, TT, ids_bsC, ren_bsC, noRo_bsC, plain_bsC, lt_bsC, ids_byte, ren_byte, noRo_byte, plain_byte, lt_byte, slC_lt]; rfl
  rintro _ _ ⟨rfl, rfl⟩
  simp (maxSteps := 4000000) only [Try.results45, ids_bsC, ren_bsC, noRo_bsC, plain_bsC, lt_bsC, ids_byte, ren_byte, noRo_byte, plain_byte, lt_byte, slC_ren, XX, Nat.reduceBEq, Nat.reduceLT, Nat.reduceAdd, Nat.reduceMul, Nat.reduceSub, Nat.reduceLeDiff, Nat.reduceEqDiff, Int.reduceToNat, Int.reduceLT, Int.reduceLE, Int.reduceAdd, Int.reduceSub, Int.reduceEq, reduceIte, Nat.reduceBNe, Int.reducePow, Nat.reducePow, Int.reduceMul, Int.reduceNeg, isB_i, isB_b, isB_y, isBv_i, isBv_b, eqCells_t, TT]
  exact ⟨_, rfl⟩
theorem txN_spec (k : CK) (i : Int) (hi : i < 0 ∨ (k.tx.length : Int) ≤ i) : Spec cx.P 45 [.c (.ptr 0 0), .c (i64 i)] k.h fun t h' => t = .tup [(true, [bC false, .v (.slice none 0 0)]), (false, [i64 40])] ∧ h' = k.h := by
  refine Spec.wk (K := fun t h' => t = .tup [(true, [bC false, .v (.slice none 0 0)]), (false, [i64 40])] ∧ ∃ x, h' = k.h ++ [x]) ?_ fun t h' ⟨h1, x, h2⟩ => ⟨.tup [(true, [bC false, .v (.slice none 0 0)]), (false, [i64 40])], k.h, [some 0, some 1, some 2], rfl, by subst h2; simp only [XX, Nat.reduceBEq, Nat.reduceLT, Nat.reduceAdd, Nat.reduceMul, Nat.reduceSub, Nat.reduceLeDiff, Nat.reduceEqDiff, Int.reduceToNat, Int.reduceLT, Int.reduceLE, Int.reduceAdd, Int.reduceSub, Int.reduceEq, reduceIte, Nat.reduceBNe, Int.reducePow, Nat.reducePow, Int.reduceMul, Int.reduceNeg, isB_i, isB_b, isB_y, isBv_i, isBv_b, eqCells_t, TT, ids_bsC, ren_bsC, noRo_bsC, plain_bsC, lt_bsC, ids_byte, ren_byte, noRo_byte, plain_byte, lt_byte, slC_ren]; exact ⟨.inl (slC_ids _ _), .inl (slC_ids _ _)⟩, by subst h1; simp only [XX, Nat.reduceBEq, Nat.reduceLT, Nat.reduceAdd, Nat.reduceMul, Nat.reduceSub, Nat.reduceLeDiff, Nat.reduceEqDiff, Int.reduceToNat, Int.reduceLT, Int.reduceLE, Int.reduceAdd, Int.reduceSub, Int.reduceEq, reduceIte, Nat.reduceBNe, Int.reducePow, Nat.reducePow, Int.reduceMul, Int.reduceNeg, isB_i, isB_b, isB_y, isBv_i, isBv_b, eqCells_t, TT, ids_bsC, ren_bsC, noRo_bsC, plain_bsC, lt_bsC, ids_byte, ren_byte, noRo_byte, plain_byte, lt_byte], rfl, rfl⟩
  refine spec_of_X cx_ok Try.func45 rfl (by kernel_rfl) (by kernel_rfl) (Nat.le_of_ble_eq_true rfl) 400 6 ?_
  simp (maxSteps := 4000000) only [Try.results45, XX, Nat.reduceBEq, Nat.reduceLT, Nat.reduceAdd, Nat.reduceMul, Nat.reduceSub, Nat.reduceLeDiff, Nat.reduceEqDiff, Int.reduceToNat, Int.reduceLT, Int.reduceLE, Int.reduceAdd, Int.reduceSub, Int.reduceEq, reduceIte, Nat.reduceBNe, Int.reducePow, Nat.reducePow, Int.reduceMul, Int.reduceNeg, isB_i, isB_b, isB_y, isBv_i, isBv_b, eqCells_t, TT]
  refine call_frame (show2N_spec k i hi) [0, 1, 2] rfl rfl ?_ rfl ?_ ?_
  · simp only [XX, Nat.reduceBEq, Nat.reduceLT, Nat.reduceAdd, Nat.reduceMul, Nat.reduceSub, Nat.reduceLeDiff, Nat.reduceEqDiff, Int.reduceToNat, Int.reduceLT, Int.reduceLE, Int.reduceAdd, Int.reduceSub, Int.reduceEq, reduceIte, Nat.reduceBNe, Int.reducePow, Nat.reducePow, Int.reduceMul, Int.reduceNeg, isB_i, isB_b, isB_y, isBv_i, isBv_b, eqCells_t, TT, preOk, ids_bsC, ren_bsC, noRo_bsC, plain_bsC, lt_bsC, ids_byte, ren_byte, noRo_byte, plain_byte, lt_byte, slC_ren]
  · simp only [XX, Nat.reduceBEq, Nat.reduceLT, Nat.reduceAdd, Nat.reduceMul, Nat.reduceSub, Nat.reduceLeDiff, Nat.reduceEqDiff, Int.reduceToNat, Int.reduceLT, Int.reduceLE, Int.reduceAdd, Int.reduceSub, Int.reduceEq, reduceIte, Nat.reduceBNe, Int.reducePow, Nat.reducePow, Int.reduceMul, Int.reduceNeg, isB_i, isB_b, isB_y, isBv_i, isBv_b, eqCells_t, TT, ids_bsC, ren_bsC, noRo_bsC, plain_bsC, lt_bsC, ids_byte, ren_byte, noRo_byte, plain_byte, lt_byte, slC_lt]; rfl
  rintro _ _ ⟨rfl, rfl⟩
  simp (maxSteps := 4000000) only [Try.results45, ids_bsC, ren_bsC, noRo_bsC, plain_bsC, lt_bsC, ids_byte, ren_byte, noRo_byte, plain_byte, lt_byte, slC_ren, XX, Nat.reduceBEq, Nat.reduceLT, Nat.reduceAdd, Nat.reduceMul, Nat.reduceSub, Nat.reduceLeDiff, Nat.reduceEqDiff, Int.reduceToNat, Int.reduceLT, Int.reduceLE, Int.reduceAdd, Int.reduceSub, Int.reduceEq, reduceIte, Nat.reduceBNe, Int.reducePow, Nat.reducePow, Int.reduceMul, Int.reduceNeg, isB_i, isB_b, isB_y, isBv_i, isBv_b, eqCells_t, TT]
  exact ⟨_, rfl⟩
/-- A call that gives a slot back. -/
theorem giveN_spec (k : CK) (i : Int) (hi : i < 0 ∨ (k.rx.length : Int) ≤ i) : Spec cx.P 33 [.c (.ptr 0 0), .c (i64 i)] k.h fun t h' => t = .c (i64 40) ∧ h' = k.h := by
  refine spec_of_X cx_ok Try.func33 rfl (by kernel_rfl) (by kernel_rfl) (Nat.le_of_ble_eq_true rfl) 400 6 ?_
  simp (maxSteps := 4000000) only [Try.results33, XX, Nat.reduceBEq, Nat.reduceLT, Nat.reduceAdd, Nat.reduceMul, Nat.reduceSub, Nat.reduceLeDiff, Nat.reduceEqDiff, Int.reduceToNat, Int.reduceLT, Int.reduceLE, Int.reduceAdd, Int.reduceSub, Int.reduceEq, reduceIte, Nat.reduceBNe, Int.reducePow, Nat.reducePow, Int.reduceMul, Int.reduceNeg, isB_i, isB_b, isB_y, isBv_i, isBv_b, eqCells_t, TT]
  refine call_is (at1N_spec true _ 0 1 2 _ _ _ _ _ _ _ rfl i hi) ?_
  rintro _ _ ⟨rfl, rfl⟩
  simp (maxSteps := 4000000) only [Try.results33, XX, Nat.reduceBEq, Nat.reduceLT, Nat.reduceAdd, Nat.reduceMul, Nat.reduceSub, Nat.reduceLeDiff, Nat.reduceEqDiff, Int.reduceToNat, Int.reduceLT, Int.reduceLE, Int.reduceAdd, Int.reduceSub, Int.reduceEq, reduceIte, Nat.reduceBNe, Int.reducePow, Nat.reducePow, Int.reduceMul, Int.reduceNeg, isB_i, isB_b, isB_y, isBv_i, isBv_b, eqCells_t, TT]
theorem giveO_spec (k : CK) (ok : k.ok) (i : Nat) (s : Sl) (hi : k.rx[i]? = some s) (hs : s.own = true) : Spec cx.P 33 [.c (.ptr 0 0), .c (i64 i)] k.h fun t h' => t = .c (i64 41) ∧ h' = k.h := by
  have hlt := (List.getElem?_eq_some_iff.1 hi).1
  obtain ⟨g1, g2⟩ := slC_own hi ok.rs
  have r1 := ok.rx1
  rw [hs] at g1
  refine spec_of_X cx_ok Try.func33 rfl (by kernel_rfl) (by kernel_rfl) (Nat.le_of_ble_eq_true rfl) 400 6 ?_
  simp (maxSteps := 4000000) only [Try.results33, XX, Nat.reduceBEq, Nat.reduceLT, Nat.reduceAdd, Nat.reduceMul, Nat.reduceSub, Nat.reduceLeDiff, Nat.reduceEqDiff, Int.reduceToNat, Int.reduceLT, Int.reduceLE, Int.reduceAdd, Int.reduceSub, Int.reduceEq, reduceIte, Nat.reduceBNe, Int.reducePow, Nat.reducePow, Int.reduceMul, Int.reduceNeg, isB_i, isB_b, isB_y, isBv_i, isBv_b, eqCells_t, TT]
  refine call_is (at1_spec true _ 0 1 2 _ _ _ _ _ _ _ rfl i hlt r1) ?_
  rintro _ _ ⟨rfl, rfl⟩
  simp (maxSteps := 4000000) only [Try.results33, g1, g2, XX, Nat.reduceBEq, Nat.reduceLT, Nat.reduceAdd, Nat.reduceMul, Nat.reduceSub, Nat.reduceLeDiff, Nat.reduceEqDiff, Int.reduceToNat, Int.reduceLT, Int.reduceLE, Int.reduceAdd, Int.reduceSub, Int.reduceEq, reduceIte, Nat.reduceBNe, Int.reducePow, Nat.reducePow, Int.reduceMul, Int.reduceNeg, isB_i, isB_b, isB_y, isBv_i, isBv_b, eqCells_t, TT]
theorem give_spec (k : CK) (ok : k.ok) (i : Nat) (s : Sl) (hi : k.rx[i]? = some s) (hs : s.own = false) : Spec cx.P 33 [.c (.ptr 0 0), .c (i64 i)] k.h fun t h' => t = .c (i64 0) ∧ h' = CK.h { k with rx := k.rx.set i ⟨true, [], s.d ++ s.j⟩ } := by
  have hlt := (List.getElem?_eq_some_iff.1 hi).1
  obtain ⟨g1, g2⟩ := slC_own hi ok.rs
  have r1 := ok.rx1
  rw [hs] at g1
  refine spec_of_X cx_ok Try.func33 rfl (by kernel_rfl) (by kernel_rfl) (Nat.le_of_ble_eq_true rfl) 400 6 ?_
  simp (maxSteps := 4000000) only [Try.results33, XX, Nat.reduceBEq, Nat.reduceLT, Nat.reduceAdd, Nat.reduceMul, Nat.reduceSub, Nat.reduceLeDiff, Nat.reduceEqDiff, Int.reduceToNat, Int.reduceLT, Int.reduceLE, Int.reduceAdd, Int.reduceSub, Int.reduceEq, reduceIte, Nat.reduceBNe, Int.reducePow, Nat.reducePow, Int.reduceMul, Int.reduceNeg, isB_i, isB_b, isB_y, isBv_i, isBv_b, eqCells_t, TT]
  refine call_is (at1_spec true _ 0 1 2 _ _ _ _ _ _ _ rfl i hlt r1) ?_
  rintro _ _ ⟨rfl, rfl⟩
  simp (maxSteps := 4000000) only [Try.results33, g1, g2, XX, Nat.reduceBEq, Nat.reduceLT, Nat.reduceAdd, Nat.reduceMul, Nat.reduceSub, Nat.reduceLeDiff, Nat.reduceEqDiff, Int.reduceToNat, Int.reduceLT, Int.reduceLE, Int.reduceAdd, Int.reduceSub, Int.reduceEq, reduceIte, Nat.reduceBNe, Int.reducePow, Nat.reducePow, Int.reduceMul, Int.reduceNeg, isB_i, isB_b, isB_y, isBv_i, isBv_b, eqCells_t, TT]
  refine call_is (put0S_spec _ 1 k.rx i s hi ok.rs true rfl) ?_
  rintro _ _ ⟨rfl, rfl⟩
  simp (maxSteps := 4000000) only [Try.results33, XX, Nat.reduceBEq, Nat.reduceLT, Nat.reduceAdd, Nat.reduceMul, Nat.reduceSub, Nat.reduceLeDiff, Nat.reduceEqDiff, Int.reduceToNat, Int.reduceLT, Int.reduceLE, Int.reduceAdd, Int.reduceSub, Int.reduceEq, reduceIte, Nat.reduceBNe, Int.reducePow, Nat.reducePow, Int.reduceMul, Int.reduceNeg, isB_i, isB_b, isB_y, isBv_i, isBv_b, eqCells_t, TT]
  simp only [CK.h, List.length_set, List.set_cons_succ, List.set_cons_zero]
/-- A frame is laid to be sent. -/
theorem layN_spec (k : CK) (i : Int) (x : SC) (hi : i < 0 ∨ (k.tx.length : Int) ≤ i) : Spec cx.P 57 [.c (.ptr 0 0), .c (i64 i), .c x] k.h fun t h' => t = .c (i64 40) ∧ h' = k.h := by
  refine spec_of_X cx_ok Try.func57 rfl (by kernel_rfl) (by kernel_rfl) (Nat.le_of_ble_eq_true rfl) 400 8 ?_
  simp (maxSteps := 4000000) only [Try.results57, XX, Nat.reduceBEq, Nat.reduceLT, Nat.reduceAdd, Nat.reduceMul, Nat.reduceSub, Nat.reduceLeDiff, Nat.reduceEqDiff, Int.reduceToNat, Int.reduceLT, Int.reduceLE, Int.reduceAdd, Int.reduceSub, Int.reduceEq, reduceIte, Nat.reduceBNe, Int.reducePow, Nat.reducePow, Int.reduceMul, Int.reduceNeg, isB_i, isB_b, isB_y, isBv_i, isBv_b, eqCells_t, TT]
  refine call_is (at2N_spec true _ 0 1 2 _ _ _ _ _ _ _ rfl i hi) ?_
  rintro _ _ ⟨rfl, rfl⟩
  simp (maxSteps := 4000000) only [Try.results57, XX, Nat.reduceBEq, Nat.reduceLT, Nat.reduceAdd, Nat.reduceMul, Nat.reduceSub, Nat.reduceLeDiff, Nat.reduceEqDiff, Int.reduceToNat, Int.reduceLT, Int.reduceLE, Int.reduceAdd, Int.reduceSub, Int.reduceEq, reduceIte, Nat.reduceBNe, Int.reducePow, Nat.reducePow, Int.reduceMul, Int.reduceNeg, isB_i, isB_b, isB_y, isBv_i, isBv_b, eqCells_t, TT]
theorem layE_spec (k : CK) (ok : k.ok) (i : Nat) (s : Sl) (hi : k.tx[i]? = some s) (b sp : List UInt8) (c : Nat) (e : Int) (he : (b.length < 60 ∧ e = 5) ∨ (1514 < b.length ∧ e = 2) ∨ (60 ≤ b.length ∧ b.length ≤ 1514 ∧ s.own = true ∧ e = 41)) : Spec cx.P 57 [.c (.ptr 0 0), .c (i64 i), .c (roB b sp c)] k.h fun t h' => t = .c (i64 e) ∧ h' = k.h := by
  have hlt := (List.getElem?_eq_some_iff.1 hi).1
  obtain ⟨g1, g2⟩ := slC_own hi ok.ts
  have r1 := ok.tx1
  refine spec_of_X cx_ok Try.func57 rfl (by kernel_rfl) (by kernel_rfl) (Nat.le_of_ble_eq_true rfl) 400 8 ?_
  simp (maxSteps := 4000000) only [Try.results57, XX, Nat.reduceBEq, Nat.reduceLT, Nat.reduceAdd, Nat.reduceMul, Nat.reduceSub, Nat.reduceLeDiff, Nat.reduceEqDiff, Int.reduceToNat, Int.reduceLT, Int.reduceLE, Int.reduceAdd, Int.reduceSub, Int.reduceEq, reduceIte, Nat.reduceBNe, Int.reducePow, Nat.reducePow, Int.reduceMul, Int.reduceNeg, isB_i, isB_b, isB_y, isBv_i, isBv_b, eqCells_t, TT]
  refine call_is (at2_spec true _ 0 1 2 _ _ _ _ _ _ _ rfl i hlt r1) ?_
  rintro _ _ ⟨rfl, rfl⟩
  by_cases h1 : b.length < 60
  · obtain rfl : e = 5 := by omega
    have d1 : decide ((b.length : Int) < 60) = true := by simp only [decide_eq_true_eq]; omega
    simp (maxSteps := 4000000) only [Try.results57, d1, XX, Nat.reduceBEq, Nat.reduceLT, Nat.reduceAdd, Nat.reduceMul, Nat.reduceSub, Nat.reduceLeDiff, Nat.reduceEqDiff, Int.reduceToNat, Int.reduceLT, Int.reduceLE, Int.reduceAdd, Int.reduceSub, Int.reduceEq, reduceIte, Nat.reduceBNe, Int.reducePow, Nat.reducePow, Int.reduceMul, Int.reduceNeg, isB_i, isB_b, isB_y, isBv_i, isBv_b, eqCells_t, TT]
  · have d1 : decide ((b.length : Int) < 60) = false := by simp only [decide_eq_false_iff_not]; omega
    by_cases h2 : 1514 < b.length
    · obtain rfl : e = 2 := by omega
      have d2 : decide (1514 < (b.length : Int)) = true := by simp only [decide_eq_true_eq]; omega
      simp (maxSteps := 4000000) only [Try.results57, d1, d2, XX, Nat.reduceBEq, Nat.reduceLT, Nat.reduceAdd, Nat.reduceMul, Nat.reduceSub, Nat.reduceLeDiff, Nat.reduceEqDiff, Int.reduceToNat, Int.reduceLT, Int.reduceLE, Int.reduceAdd, Int.reduceSub, Int.reduceEq, reduceIte, Nat.reduceBNe, Int.reducePow, Nat.reducePow, Int.reduceMul, Int.reduceNeg, isB_i, isB_b, isB_y, isBv_i, isBv_b, eqCells_t, TT]
    · have d2 : decide (1514 < (b.length : Int)) = false := by simp only [decide_eq_false_iff_not]; omega
      have hs : s.own = true := by rcases he with h | h | h <;> first | omega | exact h.2.2.1
      obtain rfl : e = 41 := by omega
      rw [hs] at g1
      simp (maxSteps := 4000000) only [Try.results57, d1, d2, g1, g2, XX, Nat.reduceBEq, Nat.reduceLT, Nat.reduceAdd, Nat.reduceMul, Nat.reduceSub, Nat.reduceLeDiff, Nat.reduceEqDiff, Int.reduceToNat, Int.reduceLT, Int.reduceLE, Int.reduceAdd, Int.reduceSub, Int.reduceEq, reduceIte, Nat.reduceBNe, Int.reducePow, Nat.reducePow, Int.reduceMul, Int.reduceNeg, isB_i, isB_b, isB_y, isBv_i, isBv_b, eqCells_t, TT]
theorem lay_spec (k : CK) (ok : k.ok) (i : Nat) (s : Sl) (hi : k.tx[i]? = some s) (b sp : List UInt8) (c : Nat) (h1 : 60 ≤ b.length) (h2 : b.length ≤ 1514) (hs : s.own = false) : Spec cx.P 57 [.c (.ptr 0 0), .c (i64 i), .c (roB b sp c)] k.h fun t h' => t = .c (i64 0) ∧ h' = CK.h { k with tx := k.tx.set i ⟨true, b, (s.d ++ s.j).drop b.length⟩ } := by
  have hlt := (List.getElem?_eq_some_iff.1 hi).1
  obtain ⟨g1, g2⟩ := slC_own hi ok.ts
  have r1 := ok.tx1
  rw [hs] at g1
  have d1 : decide ((b.length : Int) < 60) = false := by simp only [decide_eq_false_iff_not]; omega
  have d2 : decide (1514 < (b.length : Int)) = false := by simp only [decide_eq_false_iff_not]; omega
  refine spec_of_X cx_ok Try.func57 rfl (by kernel_rfl) (by kernel_rfl) (Nat.le_of_ble_eq_true rfl) 400 8 ?_
  simp (maxSteps := 4000000) only [Try.results57, XX, Nat.reduceBEq, Nat.reduceLT, Nat.reduceAdd, Nat.reduceMul, Nat.reduceSub, Nat.reduceLeDiff, Nat.reduceEqDiff, Int.reduceToNat, Int.reduceLT, Int.reduceLE, Int.reduceAdd, Int.reduceSub, Int.reduceEq, reduceIte, Nat.reduceBNe, Int.reducePow, Nat.reducePow, Int.reduceMul, Int.reduceNeg, isB_i, isB_b, isB_y, isBv_i, isBv_b, eqCells_t, TT]
  refine call_is (at2_spec true _ 0 1 2 _ _ _ _ _ _ _ rfl i hlt r1) ?_
  rintro _ _ ⟨rfl, rfl⟩
  simp (maxSteps := 4000000) only [Try.results57, d1, d2, g1, g2, XX, Nat.reduceBEq, Nat.reduceLT, Nat.reduceAdd, Nat.reduceMul, Nat.reduceSub, Nat.reduceLeDiff, Nat.reduceEqDiff, Int.reduceToNat, Int.reduceLT, Int.reduceLE, Int.reduceAdd, Int.reduceSub, Int.reduceEq, reduceIte, Nat.reduceBNe, Int.reducePow, Nat.reducePow, Int.reduceMul, Int.reduceNeg, isB_i, isB_b, isB_y, isBv_i, isBv_b, eqCells_t, TT]
  refine call_is (putS_spec _ 2 k.tx i s hi ok.ts true b sp c rfl h2) ?_
  rintro _ _ ⟨rfl, rfl⟩
  simp (maxSteps := 4000000) only [Try.results57, XX, Nat.reduceBEq, Nat.reduceLT, Nat.reduceAdd, Nat.reduceMul, Nat.reduceSub, Nat.reduceLeDiff, Nat.reduceEqDiff, Int.reduceToNat, Int.reduceLT, Int.reduceLE, Int.reduceAdd, Int.reduceSub, Int.reduceEq, reduceIte, Nat.reduceBNe, Int.reducePow, Nat.reducePow, Int.reduceMul, Int.reduceNeg, isB_i, isB_b, isB_y, isBv_i, isBv_b, eqCells_t, TT]
  simp only [CK.h, List.length_set, List.set_cons_succ, List.set_cons_zero]
theorem rings_spec (k : CK) : Spec cx.P 29 [.c (.ptr 0 0)] k.h fun t h' => t = .tup [(false, [i64 k.rx.length]), (false, [i64 k.tx.length])] ∧ h' = k.h := by
  refine spec_of_X cx_ok Try.func29 rfl (by kernel_rfl) (by kernel_rfl) (Nat.le_of_ble_eq_true rfl) 400 4 ?_
  simp (maxSteps := 4000000) only [Try.results29, XX, Nat.reduceBEq, Nat.reduceLT, Nat.reduceAdd, Nat.reduceMul, Nat.reduceSub, Nat.reduceLeDiff, Nat.reduceEqDiff, Int.reduceToNat, Int.reduceLT, Int.reduceLE, Int.reduceAdd, Int.reduceSub, Int.reduceEq, reduceIte, Nat.reduceBNe, Int.reducePow, Nat.reducePow, Int.reduceMul, Int.reduceNeg, isB_i, isB_b, isB_y, isBv_i, isBv_b, eqCells_t, TT]
  refine draw_of cx_ok (by kernel_rfl) 400 [0] [(0, true), (1, true), (2, true), (3, true), (4, true), (5, true), (6, true), (7, true), (8, true), (9, true), (10, true), (11, true), (12, true), (13, true)] (by kernel_rfl) rfl ?_
  simp (maxSteps := 4000000) only [Try.results29, XX, Nat.reduceBEq, Nat.reduceLT, Nat.reduceAdd, Nat.reduceMul, Nat.reduceSub, Nat.reduceLeDiff, Nat.reduceEqDiff, Int.reduceToNat, Int.reduceLT, Int.reduceLE, Int.reduceAdd, Int.reduceSub, Int.reduceEq, reduceIte, Nat.reduceBNe, Int.reducePow, Nat.reducePow, Int.reduceMul, Int.reduceNeg, isB_i, isB_b, isB_y, isBv_i, isBv_b, eqCells_t, TT]
theorem counts_spec (k : CK) : Spec cx.P 48 [.c (.ptr 0 0)] k.h fun t h' => t = .agg [i64 k.cin, i64 k.cdr, i64 k.cout] ∧ h' = k.h := by
  refine Spec.wk (K := fun t h' => t = .agg [i64 k.cin, i64 k.cdr, i64 k.cout] ∧ ∃ x, h' = k.h ++ [x]) ?_ fun t h' ⟨h1, x, h2⟩ => ⟨.agg [i64 k.cin, i64 k.cdr, i64 k.cout], k.h, [some 0, some 1, some 2], rfl, by subst h2; simp only [XX, Nat.reduceBEq, Nat.reduceLT, Nat.reduceAdd, Nat.reduceMul, Nat.reduceSub, Nat.reduceLeDiff, Nat.reduceEqDiff, Int.reduceToNat, Int.reduceLT, Int.reduceLE, Int.reduceAdd, Int.reduceSub, Int.reduceEq, reduceIte, Nat.reduceBNe, Int.reducePow, Nat.reducePow, Int.reduceMul, Int.reduceNeg, isB_i, isB_b, isB_y, isBv_i, isBv_b, eqCells_t, TT, ids_bsC, ren_bsC, noRo_bsC, plain_bsC, lt_bsC, ids_byte, ren_byte, noRo_byte, plain_byte, lt_byte, slC_ren]; exact ⟨.inl (slC_ids _ _), .inl (slC_ids _ _)⟩, by subst h1; simp only [XX, Nat.reduceBEq, Nat.reduceLT, Nat.reduceAdd, Nat.reduceMul, Nat.reduceSub, Nat.reduceLeDiff, Nat.reduceEqDiff, Int.reduceToNat, Int.reduceLT, Int.reduceLE, Int.reduceAdd, Int.reduceSub, Int.reduceEq, reduceIte, Nat.reduceBNe, Int.reducePow, Nat.reducePow, Int.reduceMul, Int.reduceNeg, isB_i, isB_b, isB_y, isBv_i, isBv_b, eqCells_t, TT, ids_bsC, ren_bsC, noRo_bsC, plain_bsC, lt_bsC, ids_byte, ren_byte, noRo_byte, plain_byte, lt_byte], rfl, rfl⟩
  refine spec_of_X cx_ok Try.func48 rfl (by kernel_rfl) (by kernel_rfl) (Nat.le_of_ble_eq_true rfl) 400 3 ?_
  simp (maxSteps := 4000000) only [Try.results48, XX, Nat.reduceBEq, Nat.reduceLT, Nat.reduceAdd, Nat.reduceMul, Nat.reduceSub, Nat.reduceLeDiff, Nat.reduceEqDiff, Int.reduceToNat, Int.reduceLT, Int.reduceLE, Int.reduceAdd, Int.reduceSub, Int.reduceEq, reduceIte, Nat.reduceBNe, Int.reducePow, Nat.reducePow, Int.reduceMul, Int.reduceNeg, isB_i, isB_b, isB_y, isBv_i, isBv_b, eqCells_t, TT]
  exact ⟨_, rfl⟩
theorem set_ok {l : List Sl} {i : Nat} {s : Sl} {own : Bool} {b : List UInt8} (h : ∀ s ∈ l, s.ok) (hs : s.ok) (hb : b.length ≤ 1514) : ∀ x ∈ l.set i ⟨own, b, (s.d ++ s.j).drop b.length⟩, x.ok := by
  intro x hx
  rcases List.mem_or_eq_of_mem_set hx with hx | rfl
  · exact h x hx
  · unfold Sl.ok at hs ⊢
    simp only [List.length_drop, List.length_append]
    omega
/-- A frame comes. -/
theorem arriveB_spec (k : CK) (b sp : List UInt8) (c : Nat) (hb : b.length = 0 ∨ 1514 < b.length) : Spec cx.P 10 [.c (.ptr 0 0), .c (roB b sp c)] k.h fun t h' => t = .c (bC false) ∧ h' = k.h := by
  refine spec_of_X cx_ok Try.func10 rfl (by kernel_rfl) (by kernel_rfl) (Nat.le_of_ble_eq_true rfl) 400 6 ?_
  simp (maxSteps := 4000000) only [Try.results10, XX, Nat.reduceBEq, Nat.reduceLT, Nat.reduceAdd, Nat.reduceMul, Nat.reduceSub, Nat.reduceLeDiff, Nat.reduceEqDiff, Int.reduceToNat, Int.reduceLT, Int.reduceLE, Int.reduceAdd, Int.reduceSub, Int.reduceEq, reduceIte, Nat.reduceBNe, Int.reducePow, Nat.reducePow, Int.reduceMul, Int.reduceNeg, isB_i, isB_b, isB_y, isBv_i, isBv_b, eqCells_t, TT]
  by_cases h0 : b.length = 0
  · have d1 : decide ((b.length : Int) = 0) = true := by simp only [decide_eq_true_eq]; omega
    simp (maxSteps := 4000000) only [Try.results10, d1, XX, Nat.reduceBEq, Nat.reduceLT, Nat.reduceAdd, Nat.reduceMul, Nat.reduceSub, Nat.reduceLeDiff, Nat.reduceEqDiff, Int.reduceToNat, Int.reduceLT, Int.reduceLE, Int.reduceAdd, Int.reduceSub, Int.reduceEq, reduceIte, Nat.reduceBNe, Int.reducePow, Nat.reducePow, Int.reduceMul, Int.reduceNeg, isB_i, isB_b, isB_y, isBv_i, isBv_b, eqCells_t, TT]
  · have d1 : decide ((b.length : Int) = 0) = false := by simp only [decide_eq_false_iff_not]; omega
    have d2 : decide (1514 < (b.length : Int)) = true := by simp only [decide_eq_true_eq]; omega
    simp (maxSteps := 4000000) only [Try.results10, d1, d2, XX, Nat.reduceBEq, Nat.reduceLT, Nat.reduceAdd, Nat.reduceMul, Nat.reduceSub, Nat.reduceLeDiff, Nat.reduceEqDiff, Int.reduceToNat, Int.reduceLT, Int.reduceLE, Int.reduceAdd, Int.reduceSub, Int.reduceEq, reduceIte, Nat.reduceBNe, Int.reducePow, Nat.reducePow, Int.reduceMul, Int.reduceNeg, isB_i, isB_b, isB_y, isBv_i, isBv_b, eqCells_t, TT]
theorem arriveF_spec (k : CK) (ok : k.ok) (s : Sl) (hi : k.rx[k.rn]? = some s) (hs : s.own = false) (b sp : List UInt8) (c : Nat) (h1 : 0 < b.length) (h2 : b.length ≤ 1514) : Spec cx.P 10 [.c (.ptr 0 0), .c (roB b sp c)] k.h fun t h' => t = .c (bC false) ∧ h' = CK.h { k with cdr := IntKind.i64.wrap (k.cdr + 1) } := by
  have d1 : decide ((b.length : Int) = 0) = false := by simp only [decide_eq_false_iff_not]; omega
  have d2 : decide (1514 < (b.length : Int)) = false := by simp only [decide_eq_false_iff_not]; omega
  obtain ⟨g1, g2⟩ := slC_own hi ok.rs
  rw [hs] at g1
  refine spec_of_X cx_ok Try.func10 rfl (by kernel_rfl) (by kernel_rfl) (Nat.le_of_ble_eq_true rfl) 400 6 ?_
  simp (maxSteps := 4000000) only [Try.results10, XX, Nat.reduceBEq, Nat.reduceLT, Nat.reduceAdd, Nat.reduceMul, Nat.reduceSub, Nat.reduceLeDiff, Nat.reduceEqDiff, Int.reduceToNat, Int.reduceLT, Int.reduceLE, Int.reduceAdd, Int.reduceSub, Int.reduceEq, reduceIte, Nat.reduceBNe, Int.reducePow, Nat.reducePow, Int.reduceMul, Int.reduceNeg, isB_i, isB_b, isB_y, isBv_i, isBv_b, eqCells_t, TT]
  simp (maxSteps := 4000000) only [Try.results10, d1, d2, XX, Nat.reduceBEq, Nat.reduceLT, Nat.reduceAdd, Nat.reduceMul, Nat.reduceSub, Nat.reduceLeDiff, Nat.reduceEqDiff, Int.reduceToNat, Int.reduceLT, Int.reduceLE, Int.reduceAdd, Int.reduceSub, Int.reduceEq, reduceIte, Nat.reduceBNe, Int.reducePow, Nat.reducePow, Int.reduceMul, Int.reduceNeg, isB_i, isB_b, isB_y, isBv_i, isBv_b, eqCells_t, TT]
  refine draw_of cx_ok (by kernel_rfl) 400 [0] [(0, true), (1, true), (2, true), (3, true), (4, true), (5, true), (6, true), (7, true), (8, false), (9, true)] (by kernel_rfl) rfl ?_
  simp (maxSteps := 4000000) only [Try.results10, XX, Nat.reduceBEq, Nat.reduceLT, Nat.reduceAdd, Nat.reduceMul, Nat.reduceSub, Nat.reduceLeDiff, Nat.reduceEqDiff, Int.reduceToNat, Int.reduceLT, Int.reduceLE, Int.reduceAdd, Int.reduceSub, Int.reduceEq, reduceIte, Nat.reduceBNe, Int.reducePow, Nat.reducePow, Int.reduceMul, Int.reduceNeg, isB_i, isB_b, isB_y, isBv_i, isBv_b, eqCells_t, TT]
  refine call_is (at1_spec false _ 0 1 2 _ _ _ _ _ _ _ rfl k.rn ok.rn ok.rx1) ?_
  rintro _ _ ⟨rfl, rfl⟩
  simp (maxSteps := 4000000) only [Try.results10, g1, g2, XX, Nat.reduceBEq, Nat.reduceLT, Nat.reduceAdd, Nat.reduceMul, Nat.reduceSub, Nat.reduceLeDiff, Nat.reduceEqDiff, Int.reduceToNat, Int.reduceLT, Int.reduceLE, Int.reduceAdd, Int.reduceSub, Int.reduceEq, reduceIte, Nat.reduceBNe, Int.reducePow, Nat.reducePow, Int.reduceMul, Int.reduceNeg, isB_i, isB_b, isB_y, isBv_i, isBv_b, eqCells_t, TT]
theorem arrive_spec (k : CK) (ok : k.ok) (s : Sl) (hi : k.rx[k.rn]? = some s) (hs : s.own = true) (b sp : List UInt8) (c : Nat) (h1 : 0 < b.length) (h2 : b.length ≤ 1514) : Spec cx.P 10 [.c (.ptr 0 0), .c (roB b sp c)] k.h fun t h' => t = .c (bC true) ∧ h' = CK.h { k with rx := k.rx.set k.rn ⟨false, b, (s.d ++ s.j).drop b.length⟩, rn := (k.rn + 1) % k.rx.length, cin := IntKind.i64.wrap (k.cin + 1) } := by
  have d1 : decide ((b.length : Int) = 0) = false := by simp only [decide_eq_false_iff_not]; omega
  have d2 : decide (1514 < (b.length : Int)) = false := by simp only [decide_eq_false_iff_not]; omega
  obtain ⟨g1, g2⟩ := slC_own hi ok.rs
  rw [hs] at g1
  refine spec_of_X cx_ok Try.func10 rfl (by kernel_rfl) (by kernel_rfl) (Nat.le_of_ble_eq_true rfl) 400 6 ?_
  simp (maxSteps := 4000000) only [Try.results10, XX, Nat.reduceBEq, Nat.reduceLT, Nat.reduceAdd, Nat.reduceMul, Nat.reduceSub, Nat.reduceLeDiff, Nat.reduceEqDiff, Int.reduceToNat, Int.reduceLT, Int.reduceLE, Int.reduceAdd, Int.reduceSub, Int.reduceEq, reduceIte, Nat.reduceBNe, Int.reducePow, Nat.reducePow, Int.reduceMul, Int.reduceNeg, isB_i, isB_b, isB_y, isBv_i, isBv_b, eqCells_t, TT]
  simp (maxSteps := 4000000) only [Try.results10, d1, d2, XX, Nat.reduceBEq, Nat.reduceLT, Nat.reduceAdd, Nat.reduceMul, Nat.reduceSub, Nat.reduceLeDiff, Nat.reduceEqDiff, Int.reduceToNat, Int.reduceLT, Int.reduceLE, Int.reduceAdd, Int.reduceSub, Int.reduceEq, reduceIte, Nat.reduceBNe, Int.reducePow, Nat.reducePow, Int.reduceMul, Int.reduceNeg, isB_i, isB_b, isB_y, isBv_i, isBv_b, eqCells_t, TT]
  refine draw_of cx_ok (by kernel_rfl) 400 [0] [(0, true), (1, true), (2, true), (3, true), (4, true), (5, true), (6, true), (7, true), (8, false), (9, true)] (by kernel_rfl) rfl ?_
  simp (maxSteps := 4000000) only [Try.results10, XX, Nat.reduceBEq, Nat.reduceLT, Nat.reduceAdd, Nat.reduceMul, Nat.reduceSub, Nat.reduceLeDiff, Nat.reduceEqDiff, Int.reduceToNat, Int.reduceLT, Int.reduceLE, Int.reduceAdd, Int.reduceSub, Int.reduceEq, reduceIte, Nat.reduceBNe, Int.reducePow, Nat.reducePow, Int.reduceMul, Int.reduceNeg, isB_i, isB_b, isB_y, isBv_i, isBv_b, eqCells_t, TT]
  refine call_is (at1_spec false _ 0 1 2 _ _ _ _ _ _ _ rfl k.rn ok.rn ok.rx1) ?_
  rintro _ _ ⟨rfl, rfl⟩
  simp (maxSteps := 4000000) only [Try.results10, g1, g2, XX, Nat.reduceBEq, Nat.reduceLT, Nat.reduceAdd, Nat.reduceMul, Nat.reduceSub, Nat.reduceLeDiff, Nat.reduceEqDiff, Int.reduceToNat, Int.reduceLT, Int.reduceLE, Int.reduceAdd, Int.reduceSub, Int.reduceEq, reduceIte, Nat.reduceBNe, Int.reducePow, Nat.reducePow, Int.reduceMul, Int.reduceNeg, isB_i, isB_b, isB_y, isBv_i, isBv_b, eqCells_t, TT]
  refine call_is (putS_spec _ 1 k.rx k.rn s hi ok.rs false b sp c rfl h2) ?_
  rintro _ _ ⟨rfl, rfl⟩
  simp (maxSteps := 4000000) only [Try.results10, XX, Nat.reduceBEq, Nat.reduceLT, Nat.reduceAdd, Nat.reduceMul, Nat.reduceSub, Nat.reduceLeDiff, Nat.reduceEqDiff, Int.reduceToNat, Int.reduceLT, Int.reduceLE, Int.reduceAdd, Int.reduceSub, Int.reduceEq, reduceIte, Nat.reduceBNe, Int.reducePow, Nat.reducePow, Int.reduceMul, Int.reduceNeg, isB_i, isB_b, isB_y, isBv_i, isBv_b, eqCells_t, TT]
  have hst := step1_spec { k with rx := k.rx.set k.rn ⟨false, b, (s.d ++ s.j).drop b.length⟩ } ⟨by simpa using ok.rx0, by simpa using ok.rx1, ok.tx0, ok.tx1, by simpa using ok.rn, ok.tn, set_ok ok.rs (ok.rs s (List.mem_of_getElem? hi)) h2, ok.ts⟩
  simp only [CK.h, List.length_set] at hst
  refine call_is hst ?_
  rintro _ _ ⟨rfl, rfl⟩
  simp (maxSteps := 4000000) only [Try.results10, XX, Nat.reduceBEq, Nat.reduceLT, Nat.reduceAdd, Nat.reduceMul, Nat.reduceSub, Nat.reduceLeDiff, Nat.reduceEqDiff, Int.reduceToNat, Int.reduceLT, Int.reduceLE, Int.reduceAdd, Int.reduceSub, Int.reduceEq, reduceIte, Nat.reduceBNe, Int.reducePow, Nat.reducePow, Int.reduceMul, Int.reduceNeg, isB_i, isB_b, isB_y, isBv_i, isBv_b, eqCells_t, TT]
  simp only [CK.h, List.length_set]
theorem departN_spec (k : CK) (ok : k.ok) (s : Sl) (hi : k.tx[k.tn]? = some s) (hs : s.own = false) : Spec cx.P 13 [.c (.ptr 0 0)] k.h fun t h' => t = .tup [(false, [.v (.slice none 0 0)]), (false, [bC false])] ∧ h' = k.h := by
  obtain ⟨g1, g2⟩ := slC_own hi ok.ts
  rw [hs] at g1
  refine spec_of_X cx_ok Try.func13 rfl (by kernel_rfl) (by kernel_rfl) (Nat.le_of_ble_eq_true rfl) 400 6 ?_
  simp (maxSteps := 4000000) only [Try.results13, XX, Nat.reduceBEq, Nat.reduceLT, Nat.reduceAdd, Nat.reduceMul, Nat.reduceSub, Nat.reduceLeDiff, Nat.reduceEqDiff, Int.reduceToNat, Int.reduceLT, Int.reduceLE, Int.reduceAdd, Int.reduceSub, Int.reduceEq, reduceIte, Nat.reduceBNe, Int.reducePow, Nat.reducePow, Int.reduceMul, Int.reduceNeg, isB_i, isB_b, isB_y, isBv_i, isBv_b, eqCells_t, TT]
  refine draw_of cx_ok (by kernel_rfl) 400 [0] [(0, true), (1, true), (2, true), (3, true), (4, true), (5, true), (6, true), (7, true), (8, false), (9, true)] (by kernel_rfl) rfl ?_
  simp (maxSteps := 4000000) only [Try.results13, XX, Nat.reduceBEq, Nat.reduceLT, Nat.reduceAdd, Nat.reduceMul, Nat.reduceSub, Nat.reduceLeDiff, Nat.reduceEqDiff, Int.reduceToNat, Int.reduceLT, Int.reduceLE, Int.reduceAdd, Int.reduceSub, Int.reduceEq, reduceIte, Nat.reduceBNe, Int.reducePow, Nat.reducePow, Int.reduceMul, Int.reduceNeg, isB_i, isB_b, isB_y, isBv_i, isBv_b, eqCells_t, TT]
  refine call_is (at2_spec false _ 0 1 2 _ _ _ _ _ _ _ rfl k.tn ok.tn ok.tx1) ?_
  rintro _ _ ⟨rfl, rfl⟩
  simp (maxSteps := 4000000) only [Try.results13, g1, g2, XX, Nat.reduceBEq, Nat.reduceLT, Nat.reduceAdd, Nat.reduceMul, Nat.reduceSub, Nat.reduceLeDiff, Nat.reduceEqDiff, Int.reduceToNat, Int.reduceLT, Int.reduceLE, Int.reduceAdd, Int.reduceSub, Int.reduceEq, reduceIte, Nat.reduceBNe, Int.reducePow, Nat.reducePow, Int.reduceMul, Int.reduceNeg, isB_i, isB_b, isB_y, isBv_i, isBv_b, eqCells_t, TT]
theorem depart_spec (k : CK) (ok : k.ok) (s : Sl) (hi : k.tx[k.tn]? = some s) (hs : s.own = true) : Spec cx.P 13 [.c (.ptr 0 0)] k.h fun t h' => t = .tup [(false, [.sl 3 0 s.d.length s.d.length]), (false, [bC true])] ∧ h' = CK.h { k with tx := k.tx.set k.tn ⟨false, [], s.d ++ s.j⟩, tn := (k.tn + 1) % k.tx.length, cout := IntKind.i64.wrap (k.cout + 1) } ++ [wB true s.d] := by
  obtain ⟨g1, g2⟩ := slC_own hi ok.ts
  rw [hs] at g1
  have hc : (slC k.tx).all (SC.lt 1) = true := slC_lt 1 _
  refine spec_of_X cx_ok Try.func13 rfl (by kernel_rfl) (by kernel_rfl) (Nat.le_of_ble_eq_true rfl) 400 6 ?_
  simp (maxSteps := 4000000) only [Try.results13, XX, Nat.reduceBEq, Nat.reduceLT, Nat.reduceAdd, Nat.reduceMul, Nat.reduceSub, Nat.reduceLeDiff, Nat.reduceEqDiff, Int.reduceToNat, Int.reduceLT, Int.reduceLE, Int.reduceAdd, Int.reduceSub, Int.reduceEq, reduceIte, Nat.reduceBNe, Int.reducePow, Nat.reducePow, Int.reduceMul, Int.reduceNeg, isB_i, isB_b, isB_y, isBv_i, isBv_b, eqCells_t, TT]
  refine draw_of cx_ok (by kernel_rfl) 400 [0] [(0, true), (1, true), (2, true), (3, true), (4, true), (5, true), (6, true), (7, true), (8, false), (9, true)] (by kernel_rfl) rfl ?_
  simp (maxSteps := 4000000) only [Try.results13, XX, Nat.reduceBEq, Nat.reduceLT, Nat.reduceAdd, Nat.reduceMul, Nat.reduceSub, Nat.reduceLeDiff, Nat.reduceEqDiff, Int.reduceToNat, Int.reduceLT, Int.reduceLE, Int.reduceAdd, Int.reduceSub, Int.reduceEq, reduceIte, Nat.reduceBNe, Int.reducePow, Nat.reducePow, Int.reduceMul, Int.reduceNeg, isB_i, isB_b, isB_y, isBv_i, isBv_b, eqCells_t, TT]
  refine call_is (at2_spec false _ 0 1 2 _ _ _ _ _ _ _ rfl k.tn ok.tn ok.tx1) ?_
  rintro _ _ ⟨rfl, rfl⟩
  simp (maxSteps := 4000000) only [Try.results13, g1, g2, XX, Nat.reduceBEq, Nat.reduceLT, Nat.reduceAdd, Nat.reduceMul, Nat.reduceSub, Nat.reduceLeDiff, Nat.reduceEqDiff, Int.reduceToNat, Int.reduceLT, Int.reduceLE, Int.reduceAdd, Int.reduceSub, Int.reduceEq, reduceIte, Nat.reduceBNe, Int.reducePow, Nat.reducePow, Int.reduceMul, Int.reduceNeg, isB_i, isB_b, isB_y, isBv_i, isBv_b, eqCells_t, TT]
  refine call_frame (dataS_spec true k.tx k.tn s hi ok.ts) [2] rfl rfl ?_ rfl ?_ ?_
  · simp only [XX, Nat.reduceBEq, Nat.reduceLT, Nat.reduceAdd, Nat.reduceMul, Nat.reduceSub, Nat.reduceLeDiff, Nat.reduceEqDiff, Int.reduceToNat, Int.reduceLT, Int.reduceLE, Int.reduceAdd, Int.reduceSub, Int.reduceEq, reduceIte, Nat.reduceBNe, Int.reducePow, Nat.reducePow, Int.reduceMul, Int.reduceNeg, isB_i, isB_b, isB_y, isBv_i, isBv_b, eqCells_t, TT, preOk, ids_bsC, ren_bsC, noRo_bsC, plain_bsC, lt_bsC, ids_byte, ren_byte, noRo_byte, plain_byte, lt_byte, slC_ren]
  · simp only [XX, Nat.reduceBEq, Nat.reduceLT, Nat.reduceAdd, Nat.reduceMul, Nat.reduceSub, Nat.reduceLeDiff, Nat.reduceEqDiff, Int.reduceToNat, Int.reduceLT, Int.reduceLE, Int.reduceAdd, Int.reduceSub, Int.reduceEq, reduceIte, Nat.reduceBNe, Int.reducePow, Nat.reducePow, Int.reduceMul, Int.reduceNeg, isB_i, isB_b, isB_y, isBv_i, isBv_b, eqCells_t, TT, ids_bsC, ren_bsC, noRo_bsC, plain_bsC, lt_bsC, ids_byte, ren_byte, noRo_byte, plain_byte, lt_byte, hc]
  rintro _ _ ⟨rfl, rfl⟩
  simp (maxSteps := 4000000) only [Try.results13, ids_bsC, ren_bsC, noRo_bsC, plain_bsC, lt_bsC, ids_byte, ren_byte, noRo_byte, plain_byte, lt_byte, slC_ren, XX, Nat.reduceBEq, Nat.reduceLT, Nat.reduceAdd, Nat.reduceMul, Nat.reduceSub, Nat.reduceLeDiff, Nat.reduceEqDiff, Int.reduceToNat, Int.reduceLT, Int.reduceLE, Int.reduceAdd, Int.reduceSub, Int.reduceEq, reduceIte, Nat.reduceBNe, Int.reducePow, Nat.reducePow, Int.reduceMul, Int.reduceNeg, isB_i, isB_b, isB_y, isBv_i, isBv_b, eqCells_t, TT]
  refine call_is (put0S_spec _ 2 k.tx k.tn s hi ok.ts false rfl) ?_
  rintro _ _ ⟨rfl, rfl⟩
  simp (maxSteps := 4000000) only [Try.results13, XX, Nat.reduceBEq, Nat.reduceLT, Nat.reduceAdd, Nat.reduceMul, Nat.reduceSub, Nat.reduceLeDiff, Nat.reduceEqDiff, Int.reduceToNat, Int.reduceLT, Int.reduceLE, Int.reduceAdd, Int.reduceSub, Int.reduceEq, reduceIte, Nat.reduceBNe, Int.reducePow, Nat.reducePow, Int.reduceMul, Int.reduceNeg, isB_i, isB_b, isB_y, isBv_i, isBv_b, eqCells_t, TT]
  have hst := step2_spec { k with tx := k.tx.set k.tn ⟨false, [], s.d ++ s.j⟩ } ⟨ok.rx0, ok.rx1, by simpa using ok.tx0, by simpa using ok.tx1, ok.rn, by simpa using ok.tn, ok.rs, set_ok (b := []) ok.ts (ok.ts s (List.mem_of_getElem? hi)) (by simp)⟩
  simp only [CK.h, List.length_set] at hst
  refine call_frame hst [0, 1, 2] rfl rfl ?_ rfl ?_ ?_
  · simp only [XX, Nat.reduceBEq, Nat.reduceLT, Nat.reduceAdd, Nat.reduceMul, Nat.reduceSub, Nat.reduceLeDiff, Nat.reduceEqDiff, Int.reduceToNat, Int.reduceLT, Int.reduceLE, Int.reduceAdd, Int.reduceSub, Int.reduceEq, reduceIte, Nat.reduceBNe, Int.reducePow, Nat.reducePow, Int.reduceMul, Int.reduceNeg, isB_i, isB_b, isB_y, isBv_i, isBv_b, eqCells_t, TT, preOk, ids_bsC, ren_bsC, noRo_bsC, plain_bsC, lt_bsC, ids_byte, ren_byte, noRo_byte, plain_byte, lt_byte, slC_ren]
  · simp only [XX, Nat.reduceBEq, Nat.reduceLT, Nat.reduceAdd, Nat.reduceMul, Nat.reduceSub, Nat.reduceLeDiff, Nat.reduceEqDiff, Int.reduceToNat, Int.reduceLT, Int.reduceLE, Int.reduceAdd, Int.reduceSub, Int.reduceEq, reduceIte, Nat.reduceBNe, Int.reducePow, Nat.reducePow, Int.reduceMul, Int.reduceNeg, isB_i, isB_b, isB_y, isBv_i, isBv_b, eqCells_t, TT, ids_bsC, ren_bsC, noRo_bsC, plain_bsC, lt_bsC, ids_byte, ren_byte, noRo_byte, plain_byte, lt_byte, slC_lt]; rfl
  rintro _ _ ⟨rfl, rfl⟩
  simp (maxSteps := 4000000) only [Try.results13, ids_bsC, ren_bsC, noRo_bsC, plain_bsC, lt_bsC, ids_byte, ren_byte, noRo_byte, plain_byte, lt_byte, slC_ren, XX, Nat.reduceBEq, Nat.reduceLT, Nat.reduceAdd, Nat.reduceMul, Nat.reduceSub, Nat.reduceLeDiff, Nat.reduceEqDiff, Int.reduceToNat, Int.reduceLT, Int.reduceLE, Int.reduceAdd, Int.reduceSub, Int.reduceEq, reduceIte, Nat.reduceBNe, Int.reducePow, Nat.reducePow, Int.reduceMul, Int.reduceNeg, isB_i, isB_b, isB_y, isBv_i, isBv_b, eqCells_t, TT]
  simp only [CK.h, List.length_set, List.cons_append, List.nil_append]
end Go.Proofs.Ythbojoiogjdbeaa.Sx
namespace Go.Proofs.Ythbojoiogjdbeaa.Sx
open Go
set_option linter.unusedSimpArgs false
set_option linter.unusedVariables false
set_option maxRecDepth 10000
set_option maxHeartbeats 2000000
theorem newN_spec (n m : Int) (h : n < 1 ∨ 64 < n ∨ m < 1 ∨ 64 < m) : Spec cx.P 7 [.c (i64 n), .c (i64 m)] [] fun t _ => t.plain = true ∧ t = .c (.v (.pointer none)) := by
  refine spec_of_X cx_ok Try.func7 rfl (by kernel_rfl) (by kernel_rfl) (Nat.le_of_ble_eq_true rfl) 400 36 ?_
  simp (maxSteps := 4000000) only [Try.results7, XX, Nat.reduceBEq, Nat.reduceLT, Nat.reduceAdd, Nat.reduceMul, Nat.reduceSub, Nat.reduceLeDiff, Nat.reduceEqDiff, Int.reduceToNat, Int.reduceLT, Int.reduceLE, Int.reduceAdd, Int.reduceSub, Int.reduceEq, reduceIte, Nat.reduceBNe, Int.reducePow, Nat.reducePow, Int.reduceMul, Int.reduceNeg, isB_i, isB_b, isB_y, isBv_i, isBv_b, eqCells_t, TT]
  cases h1 : decide (n < 1)
  · cases h2 : decide (64 < n)
    · cases h3 : decide (m < 1)
      · have h4 : decide (64 < m) = true := by
          simp only [decide_eq_false_iff_not] at h1 h2 h3
          simp only [decide_eq_true_eq]; omega
        simp (maxSteps := 4000000) only [Try.results7, h1, h2, h3, h4, XX, Nat.reduceBEq, Nat.reduceLT, Nat.reduceAdd, Nat.reduceMul, Nat.reduceSub, Nat.reduceLeDiff, Nat.reduceEqDiff, Int.reduceToNat, Int.reduceLT, Int.reduceLE, Int.reduceAdd, Int.reduceSub, Int.reduceEq, reduceIte, Nat.reduceBNe, Int.reducePow, Nat.reducePow, Int.reduceMul, Int.reduceNeg, isB_i, isB_b, isB_y, isBv_i, isBv_b, eqCells_t, TT]
      · simp (maxSteps := 4000000) only [Try.results7, h1, h2, h3, XX, Nat.reduceBEq, Nat.reduceLT, Nat.reduceAdd, Nat.reduceMul, Nat.reduceSub, Nat.reduceLeDiff, Nat.reduceEqDiff, Int.reduceToNat, Int.reduceLT, Int.reduceLE, Int.reduceAdd, Int.reduceSub, Int.reduceEq, reduceIte, Nat.reduceBNe, Int.reducePow, Nat.reducePow, Int.reduceMul, Int.reduceNeg, isB_i, isB_b, isB_y, isBv_i, isBv_b, eqCells_t, TT]
    · simp (maxSteps := 4000000) only [Try.results7, h1, h2, XX, Nat.reduceBEq, Nat.reduceLT, Nat.reduceAdd, Nat.reduceMul, Nat.reduceSub, Nat.reduceLeDiff, Nat.reduceEqDiff, Int.reduceToNat, Int.reduceLT, Int.reduceLE, Int.reduceAdd, Int.reduceSub, Int.reduceEq, reduceIte, Nat.reduceBNe, Int.reducePow, Nat.reducePow, Int.reduceMul, Int.reduceNeg, isB_i, isB_b, isB_y, isBv_i, isBv_b, eqCells_t, TT]
  · simp (maxSteps := 4000000) only [Try.results7, h1, XX, Nat.reduceBEq, Nat.reduceLT, Nat.reduceAdd, Nat.reduceMul, Nat.reduceSub, Nat.reduceLeDiff, Nat.reduceEqDiff, Int.reduceToNat, Int.reduceLT, Int.reduceLE, Int.reduceAdd, Int.reduceSub, Int.reduceEq, reduceIte, Nat.reduceBNe, Int.reducePow, Nat.reducePow, Int.reduceMul, Int.reduceNeg, isB_i, isB_b, isB_y, isBv_i, isBv_b, eqCells_t, TT]
abbrev slT (b : Bool) : Sl := ⟨b, [], List.replicate 1514 0⟩
abbrev newK (n m : Nat) : CK := ⟨List.replicate n (slT true), List.replicate m (slT false), 0, 0, 0, 0, 0⟩
theorem newK_ok {n m : Nat} (h1 : 1 ≤ n) (h2 : n ≤ 64) (h3 : 1 ≤ m) (h4 : m ≤ 64) : (newK n m).ok :=
  ⟨by simp; omega, by simpa using h2, by simp; omega, by simpa using h4, by simp; omega, by simp; omega, fun s hs => by rw [List.eq_of_mem_replicate hs]; rfl, fun s hs => by rw [List.eq_of_mem_replicate hs]; rfl⟩
theorem fillS_ok (n i : Nat) : ∀ s ∈ List.replicate i (slT true) ++ List.replicate (n - i) (slT false), s.ok := by
  intro s hs
  rcases List.mem_append.1 hs with h | h <;> (rw [List.eq_of_mem_replicate h]; rfl)
theorem fillE {n i : Nat} (h : i < n) : (slC (List.replicate i (slT true) ++ List.replicate (n - i) (slT false))).take (i * 1516) ++ [SC.v (.bool true)] ++ (slC (List.replicate i (slT true) ++ List.replicate (n - i) (slT false))).drop (i * 1516 + 1) = slC (List.replicate (i + 1) (slT true) ++ List.replicate (n - (i + 1)) (slT false)) := by
  have l0 : (slC (List.replicate i (slT true))).length = i * 1516 := by rw [slC_len fun s hs => by rw [List.eq_of_mem_replicate hs]; rfl, List.length_replicate]
  rw [show n - i = (n - (i + 1)) + 1 by omega, List.replicate_succ, slC_app, slC_cons, List.replicate_succ' (n := i), slC_app, slC_app]
  have := seg (A := slC (List.replicate i (slT true))) (x := [SC.v (.bool false)]) (y := [SC.v (.bool true)]) (C := (slT false).cells.tail ++ slC (List.replicate (n - (i + 1)) (slT false))) l0 rfl
  refine this.trans ?_
  rw [List.append_assoc]
  congr 1
  first | done | simp only [slC, List.map_cons, List.map_nil, List.flatten_cons, List.flatten_nil, List.append_nil, Sl.cells, slotC, List.tail_cons, List.cons_append, List.nil_append]
theorem new_spec (n m : Nat) (h1 : 1 ≤ n) (h2 : n ≤ 64) (h3 : 1 ≤ m) (h4 : m ≤ 64) : Spec cx.P 7 [.c (i64 n), .c (i64 m)] [] fun t h' => t = .c (.ptr 0 0) ∧ h' = (newK n m).h := by
  refine Spec.wk (K := fun t h' => t = .c (.ptr 2 0) ∧ h' = [stB (slC (List.replicate n (slT true))), stB (slC (List.replicate m (slT false))), cardB 0 1 n m 0 0 0 0 0]) ?_ fun t h' ⟨h1, h2⟩ => ⟨.c (.ptr 0 0), (newK n m).h, [some 2, some 0, some 1], rfl, by subst h2; simp only [XX, Nat.reduceBEq, Nat.reduceLT, Nat.reduceAdd, Nat.reduceMul, Nat.reduceSub, Nat.reduceLeDiff, Nat.reduceEqDiff, Int.reduceToNat, Int.reduceLT, Int.reduceLE, Int.reduceAdd, Int.reduceSub, Int.reduceEq, reduceIte, Nat.reduceBNe, Int.reducePow, Nat.reducePow, Int.reduceMul, Int.reduceNeg, isB_i, isB_b, isB_y, isBv_i, isBv_b, eqCells_t, TT, ids_bsC, ren_bsC, noRo_bsC, plain_bsC, lt_bsC, ids_byte, ren_byte, noRo_byte, plain_byte, lt_byte, slC_ren, List.length_replicate]; exact ⟨.inl (slC_ids _ _), .inl (slC_ids _ _)⟩, by subst h1; simp only [XX, Nat.reduceBEq, Nat.reduceLT, Nat.reduceAdd, Nat.reduceMul, Nat.reduceSub, Nat.reduceLeDiff, Nat.reduceEqDiff, Int.reduceToNat, Int.reduceLT, Int.reduceLE, Int.reduceAdd, Int.reduceSub, Int.reduceEq, reduceIte, Nat.reduceBNe, Int.reducePow, Nat.reducePow, Int.reduceMul, Int.reduceNeg, isB_i, isB_b, isB_y, isBv_i, isBv_b, eqCells_t, TT, ids_bsC, ren_bsC, noRo_bsC, plain_bsC, lt_bsC, ids_byte, ren_byte, noRo_byte, plain_byte, lt_byte], rfl, rfl⟩
  have d1 : decide ((n : Int) < 1) = false := by simp only [decide_eq_false_iff_not]; omega
  have d2 : decide (64 < (n : Int)) = false := by simp only [decide_eq_false_iff_not]; omega
  have d3 : decide ((m : Int) < 1) = false := by simp only [decide_eq_false_iff_not]; omega
  have d4 : decide (64 < (m : Int)) = false := by simp only [decide_eq_false_iff_not]; omega
  refine spec_of_X cx_ok Try.func7 rfl (by kernel_rfl) (by kernel_rfl) (Nat.le_of_ble_eq_true rfl) 400 36 ?_
  simp (maxSteps := 4000000) only [Try.results7, XX, Nat.reduceBEq, Nat.reduceLT, Nat.reduceAdd, Nat.reduceMul, Nat.reduceSub, Nat.reduceLeDiff, Nat.reduceEqDiff, Int.reduceToNat, Int.reduceLT, Int.reduceLE, Int.reduceAdd, Int.reduceSub, Int.reduceEq, reduceIte, Nat.reduceBNe, Int.reducePow, Nat.reducePow, Int.reduceMul, Int.reduceNeg, isB_i, isB_b, isB_y, isBv_i, isBv_b, eqCells_t, TT]
  simp (maxSteps := 4000000) only [Try.results7, d1, d2, d3, d4, XX, Nat.reduceBEq, Nat.reduceLT, Nat.reduceAdd, Nat.reduceMul, Nat.reduceSub, Nat.reduceLeDiff, Nat.reduceEqDiff, Int.reduceToNat, Int.reduceLT, Int.reduceLE, Int.reduceAdd, Int.reduceSub, Int.reduceEq, reduceIte, Nat.reduceBNe, Int.reducePow, Nat.reducePow, Int.reduceMul, Int.reduceNeg, isB_i, isB_b, isB_y, isBv_i, isBv_b, eqCells_t, TT]
  have bz : ∀ k : Nat, (List.replicate k (SC.v (.bool false) :: List.map SC.v (List.replicate 1514 (Value.int .u8 0) ++ [Value.int .i64 0]))).flatten = slC (List.replicate k (slT false)) := by
    intro k
    unfold slC
    rw [List.map_replicate]
    congr 2
  refine draw2_of cx_ok (by kernel_rfl) 400 [] (.pair [(0, true), (3, true)] 1 4 (.done [(2, true), (4, false), (5, true), (6, true), (7, false), (8, true)]) (.done [(5, true), (1, false), (2, true), (6, true), (7, false), (8, true)])) (by kernel_rfl) rfl ?_
  simp (maxSteps := 4000000) only [Try.results7, PXT_done, PXT_pair, XX, Nat.reduceBEq, Nat.reduceLT, Nat.reduceAdd, Nat.reduceMul, Nat.reduceSub, Nat.reduceLeDiff, Nat.reduceEqDiff, Int.reduceToNat, Int.reduceLT, Int.reduceLE, Int.reduceAdd, Int.reduceSub, Int.reduceEq, reduceIte, Nat.reduceBNe, Int.reducePow, Nat.reducePow, Int.reduceMul, Int.reduceNeg, isB_i, isB_b, isB_y, isBv_i, isBv_b, eqCells_t, TT]
  refine ⟨⟨⟨by omega, by omega, by omega, by omega⟩, ⟨by omega, by omega, by omega, by omega⟩, ?_⟩, ⟨by omega, by omega, by omega, by omega⟩, ⟨by omega, by omega, by omega, by omega⟩, ?_⟩
  · refine loop_of cx_ok 400 (fun μ σ => ∃ i, μ = n - i ∧ i ≤ n ∧
        σ = ⟨⟨36, 0⟩, [(4, .c (.v (.pointer none))), (5, .c (.ptr 2 0)), (34, .c (i64 (n : Nat))), (35, .c (i64 (i : Nat)))], [stB (slC (List.replicate i (slT true) ++ List.replicate (n - i) (slT false))), stB (slC (List.replicate m (slT false))), cardB 0 1 n m 0 0 0 0 0]⟩) n ⟨⟨36, 0⟩, [(4, .c (.v (.pointer none))), (5, .c (.ptr 2 0)), (34, .c (i64 (n : Nat))), (35, .c (i64 (0 : Nat)))], [stB (slC (List.replicate 0 (slT true) ++ List.replicate (n - 0) (slT false))), stB (slC (List.replicate m (slT false))), cardB 0 1 n m 0 0 0 0 0]⟩ ⟨0, by omega, Nat.zero_le _, rfl⟩ [some 0, some 1, some 2]
      ⟨rfl, rfl, by simp only [XX, Nat.reduceBEq, Nat.reduceLT, Nat.reduceAdd, Nat.reduceMul, Nat.reduceSub, Nat.reduceLeDiff, Nat.reduceEqDiff, Int.reduceToNat, Int.reduceLT, Int.reduceLE, Int.reduceAdd, Int.reduceSub, Int.reduceEq, reduceIte, Nat.reduceBNe, Int.reducePow, Nat.reducePow, Int.reduceMul, Int.reduceNeg, isB_i, isB_b, isB_y, isBv_i, isBv_b, eqCells_t, TT, bz, slC_ids, slC_ren, List.replicate_zero, List.nil_append, Nat.sub_zero], by simp only [XX, Nat.reduceBEq, Nat.reduceLT, Nat.reduceAdd, Nat.reduceMul, Nat.reduceSub, Nat.reduceLeDiff, Nat.reduceEqDiff, Int.reduceToNat, Int.reduceLT, Int.reduceLE, Int.reduceAdd, Int.reduceSub, Int.reduceEq, reduceIte, Nat.reduceBNe, Int.reducePow, Nat.reducePow, Int.reduceMul, Int.reduceNeg, isB_i, isB_b, isB_y, isBv_i, isBv_b, eqCells_t, TT]⟩ ?_
    rintro μ σ ⟨i, rfl, hi, rfl⟩
    simp (maxSteps := 4000000) only [Try.results7, XX, Nat.reduceBEq, Nat.reduceLT, Nat.reduceAdd, Nat.reduceMul, Nat.reduceSub, Nat.reduceLeDiff, Nat.reduceEqDiff, Int.reduceToNat, Int.reduceLT, Int.reduceLE, Int.reduceAdd, Int.reduceSub, Int.reduceEq, reduceIte, Nat.reduceBNe, Int.reducePow, Nat.reducePow, Int.reduceMul, Int.reduceNeg, isB_i, isB_b, isB_y, isBv_i, isBv_b, eqCells_t, TT]
    by_cases hlt : i < n
    · have hd : decide ((i : Int) < (n : Int)) = true := by simp only [decide_eq_true_eq]; omega
      have e1 : IntKind.i64.wrap ((i : Int) + 1) = ((i + 1 : Nat) : Int) := by rw [w64] <;> omega
      simp (maxSteps := 4000000) only [Try.results7, hd, e1, XX, Nat.reduceBEq, Nat.reduceLT, Nat.reduceAdd, Nat.reduceMul, Nat.reduceSub, Nat.reduceLeDiff, Nat.reduceEqDiff, Int.reduceToNat, Int.reduceLT, Int.reduceLE, Int.reduceAdd, Int.reduceSub, Int.reduceEq, reduceIte, Nat.reduceBNe, Int.reducePow, Nat.reducePow, Int.reduceMul, Int.reduceNeg, isB_i, isB_b, isB_y, isBv_i, isBv_b, eqCells_t, TT]
      refine ⟨⟨by omega, by omega⟩, by rw [slC_len (fillS_ok n i)]; simp only [List.length_append, List.length_replicate]; omega, n - (i + 1), by omega, _, ⟨i + 1, rfl, by omega, rfl⟩, [some 0, some 1, some 2], ⟨rfl, rfl, ?_, ?_⟩⟩
      · rw [fillE hlt]
        simp only [XX, Nat.reduceBEq, Nat.reduceLT, Nat.reduceAdd, Nat.reduceMul, Nat.reduceSub, Nat.reduceLeDiff, Nat.reduceEqDiff, Int.reduceToNat, Int.reduceLT, Int.reduceLE, Int.reduceAdd, Int.reduceSub, Int.reduceEq, reduceIte, Nat.reduceBNe, Int.reducePow, Nat.reducePow, Int.reduceMul, Int.reduceNeg, isB_i, isB_b, isB_y, isBv_i, isBv_b, eqCells_t, TT, slC_ids, slC_ren]
      · simp only [XX, Nat.reduceBEq, Nat.reduceLT, Nat.reduceAdd, Nat.reduceMul, Nat.reduceSub, Nat.reduceLeDiff, Nat.reduceEqDiff, Int.reduceToNat, Int.reduceLT, Int.reduceLE, Int.reduceAdd, Int.reduceSub, Int.reduceEq, reduceIte, Nat.reduceBNe, Int.reducePow, Nat.reducePow, Int.reduceMul, Int.reduceNeg, isB_i, isB_b, isB_y, isBv_i, isBv_b, eqCells_t, TT]
    · have hd : decide ((i : Int) < (n : Int)) = false := by simp only [decide_eq_false_iff_not]; omega
      obtain rfl : i = n := by omega
      simp (maxSteps := 4000000) only [Try.results7, hd, XX, Nat.reduceBEq, Nat.reduceLT, Nat.reduceAdd, Nat.reduceMul, Nat.reduceSub, Nat.reduceLeDiff, Nat.reduceEqDiff, Int.reduceToNat, Int.reduceLT, Int.reduceLE, Int.reduceAdd, Int.reduceSub, Int.reduceEq, reduceIte, Nat.reduceBNe, Int.reducePow, Nat.reducePow, Int.reduceMul, Int.reduceNeg, isB_i, isB_b, isB_y, isBv_i, isBv_b, eqCells_t, TT]
      simp only [Nat.sub_self, List.replicate_zero, List.append_nil]
  · refine loop_of cx_ok 400 (fun μ σ => ∃ i, μ = n - i ∧ i ≤ n ∧
        σ = ⟨⟨36, 0⟩, [(4, .c (.v (.pointer none))), (5, .c (.ptr 2 0)), (34, .c (i64 (n : Nat))), (35, .c (i64 (i : Nat)))], [stB (slC (List.replicate i (slT true) ++ List.replicate (n - i) (slT false))), stB (slC (List.replicate m (slT false))), cardB 0 1 n m 0 0 0 0 0]⟩) n ⟨⟨36, 0⟩, [(4, .c (.v (.pointer none))), (5, .c (.ptr 2 0)), (34, .c (i64 (n : Nat))), (35, .c (i64 (0 : Nat)))], [stB (slC (List.replicate 0 (slT true) ++ List.replicate (n - 0) (slT false))), stB (slC (List.replicate m (slT false))), cardB 0 1 n m 0 0 0 0 0]⟩ ⟨0, by omega, Nat.zero_le _, rfl⟩ [some 1, some 0, some 2]
      ⟨rfl, rfl, by simp only [XX, Nat.reduceBEq, Nat.reduceLT, Nat.reduceAdd, Nat.reduceMul, Nat.reduceSub, Nat.reduceLeDiff, Nat.reduceEqDiff, Int.reduceToNat, Int.reduceLT, Int.reduceLE, Int.reduceAdd, Int.reduceSub, Int.reduceEq, reduceIte, Nat.reduceBNe, Int.reducePow, Nat.reducePow, Int.reduceMul, Int.reduceNeg, isB_i, isB_b, isB_y, isBv_i, isBv_b, eqCells_t, TT, bz, slC_ids, slC_ren, List.replicate_zero, List.nil_append, Nat.sub_zero], by simp only [XX, Nat.reduceBEq, Nat.reduceLT, Nat.reduceAdd, Nat.reduceMul, Nat.reduceSub, Nat.reduceLeDiff, Nat.reduceEqDiff, Int.reduceToNat, Int.reduceLT, Int.reduceLE, Int.reduceAdd, Int.reduceSub, Int.reduceEq, reduceIte, Nat.reduceBNe, Int.reducePow, Nat.reducePow, Int.reduceMul, Int.reduceNeg, isB_i, isB_b, isB_y, isBv_i, isBv_b, eqCells_t, TT]⟩ ?_
    rintro μ σ ⟨i, rfl, hi, rfl⟩
    simp (maxSteps := 4000000) only [Try.results7, XX, Nat.reduceBEq, Nat.reduceLT, Nat.reduceAdd, Nat.reduceMul, Nat.reduceSub, Nat.reduceLeDiff, Nat.reduceEqDiff, Int.reduceToNat, Int.reduceLT, Int.reduceLE, Int.reduceAdd, Int.reduceSub, Int.reduceEq, reduceIte, Nat.reduceBNe, Int.reducePow, Nat.reducePow, Int.reduceMul, Int.reduceNeg, isB_i, isB_b, isB_y, isBv_i, isBv_b, eqCells_t, TT]
    by_cases hlt : i < n
    · have hd : decide ((i : Int) < (n : Int)) = true := by simp only [decide_eq_true_eq]; omega
      have e1 : IntKind.i64.wrap ((i : Int) + 1) = ((i + 1 : Nat) : Int) := by rw [w64] <;> omega
      simp (maxSteps := 4000000) only [Try.results7, hd, e1, XX, Nat.reduceBEq, Nat.reduceLT, Nat.reduceAdd, Nat.reduceMul, Nat.reduceSub, Nat.reduceLeDiff, Nat.reduceEqDiff, Int.reduceToNat, Int.reduceLT, Int.reduceLE, Int.reduceAdd, Int.reduceSub, Int.reduceEq, reduceIte, Nat.reduceBNe, Int.reducePow, Nat.reducePow, Int.reduceMul, Int.reduceNeg, isB_i, isB_b, isB_y, isBv_i, isBv_b, eqCells_t, TT]
      refine ⟨⟨by omega, by omega⟩, by rw [slC_len (fillS_ok n i)]; simp only [List.length_append, List.length_replicate]; omega, n - (i + 1), by omega, _, ⟨i + 1, rfl, by omega, rfl⟩, [some 0, some 1, some 2], ⟨rfl, rfl, ?_, ?_⟩⟩
      · rw [fillE hlt]
        simp only [XX, Nat.reduceBEq, Nat.reduceLT, Nat.reduceAdd, Nat.reduceMul, Nat.reduceSub, Nat.reduceLeDiff, Nat.reduceEqDiff, Int.reduceToNat, Int.reduceLT, Int.reduceLE, Int.reduceAdd, Int.reduceSub, Int.reduceEq, reduceIte, Nat.reduceBNe, Int.reducePow, Nat.reducePow, Int.reduceMul, Int.reduceNeg, isB_i, isB_b, isB_y, isBv_i, isBv_b, eqCells_t, TT, slC_ids, slC_ren]
      · simp only [XX, Nat.reduceBEq, Nat.reduceLT, Nat.reduceAdd, Nat.reduceMul, Nat.reduceSub, Nat.reduceLeDiff, Nat.reduceEqDiff, Int.reduceToNat, Int.reduceLT, Int.reduceLE, Int.reduceAdd, Int.reduceSub, Int.reduceEq, reduceIte, Nat.reduceBNe, Int.reducePow, Nat.reducePow, Int.reduceMul, Int.reduceNeg, isB_i, isB_b, isB_y, isBv_i, isBv_b, eqCells_t, TT]
    · have hd : decide ((i : Int) < (n : Int)) = false := by simp only [decide_eq_false_iff_not]; omega
      obtain rfl : i = n := by omega
      simp (maxSteps := 4000000) only [Try.results7, hd, XX, Nat.reduceBEq, Nat.reduceLT, Nat.reduceAdd, Nat.reduceMul, Nat.reduceSub, Nat.reduceLeDiff, Nat.reduceEqDiff, Int.reduceToNat, Int.reduceLT, Int.reduceLE, Int.reduceAdd, Int.reduceSub, Int.reduceEq, reduceIte, Nat.reduceBNe, Int.reducePow, Nat.reducePow, Int.reduceMul, Int.reduceNeg, isB_i, isB_b, isB_y, isBv_i, isBv_b, eqCells_t, TT]
      simp only [Nat.sub_self, List.replicate_zero, List.append_nil]
end Go.Proofs.Ythbojoiogjdbeaa.Sx
namespace Go.Proofs.Ythbojoiogjdbeaa.Sx
open Go
set_option linter.unusedSimpArgs false
set_option linter.unusedVariables false
set_option maxRecDepth 10000
set_option maxHeartbeats 2000000
theorem card_noRo (K : CK) : (K.h.all fun b => b.cells.all SC.noRo) = true := by
  simp only [XX, Nat.reduceBEq, Nat.reduceLT, Nat.reduceAdd, Nat.reduceMul, Nat.reduceSub, Nat.reduceLeDiff, Nat.reduceEqDiff, Int.reduceToNat, Int.reduceLT, Int.reduceLE, Int.reduceAdd, Int.reduceSub, Int.reduceEq, reduceIte, Nat.reduceBNe, Int.reducePow, Nat.reducePow, Int.reduceMul, Int.reduceNeg, isB_i, isB_b, isB_y, isBv_i, isBv_b, eqCells_t, TT, ids_bsC, ren_bsC, noRo_bsC, plain_bsC, lt_bsC, ids_byte, ren_byte, noRo_byte, plain_byte, lt_byte, slC_noRo]
theorem card_lt (K : CK) : (K.h.all fun b => b.cells.all (SC.lt K.h.length)) = true := by
  simp only [XX, Nat.reduceBEq, Nat.reduceLT, Nat.reduceAdd, Nat.reduceMul, Nat.reduceSub, Nat.reduceLeDiff, Nat.reduceEqDiff, Int.reduceToNat, Int.reduceLT, Int.reduceLE, Int.reduceAdd, Int.reduceSub, Int.reduceEq, reduceIte, Nat.reduceBNe, Int.reducePow, Nat.reducePow, Int.reduceMul, Int.reduceNeg, isB_i, isB_b, isB_y, isBv_i, isBv_b, eqCells_t, TT, ids_bsC, ren_bsC, noRo_bsC, plain_bsC, lt_bsC, ids_byte, ren_byte, noRo_byte, plain_byte, lt_byte, slC_lt]
  rfl
end Go.Proofs.Ythbojoiogjdbeaa.Sx
namespace Go.Proofs.Ythbojoiogjdbeaa.Sx
open Go
set_option linter.unusedSimpArgs false
set_option linter.unusedVariables false
set_option maxRecDepth 10000
set_option maxHeartbeats 2000000
/-- Descriptors' cells. -/
abbrev dsC (l : List (Bool × SC)) : List SC := (l.map fun q => [bC q.1, q.2]).flatten
abbrev zD : Bool × SC := (false, .v (.slice none 0 0))
theorem dsC_len : ∀ l : List (Bool × SC), (dsC l).length = l.length * 2
  | [] => rfl
  | q :: l => by
    have := dsC_len l
    simp only [dsC, List.map_cons, List.flatten_cons, List.length_append, List.length_cons, List.length_nil] at this ⊢
    omega
theorem dsC_app (a b : List (Bool × SC)) : dsC (a ++ b) = dsC a ++ dsC b := by simp [dsC]
theorem dsC_room {l : List (Bool × SC)} {j n : Nat} (q : Bool × SC) (hn : l.length = n) (hj : 1 ≤ j) : (dsC (l ++ List.replicate j zD)).take (n * 2) ++ [bC q.1, q.2] ++ (dsC (l ++ List.replicate j zD)).drop (n * 2 + 2) = dsC ((l ++ [q]) ++ List.replicate (j - 1) zD) := by
  obtain ⟨j', rfl⟩ := Nat.exists_eq_add_of_le hj
  rw [Nat.add_comm 1 j', List.replicate_succ, dsC_app, show dsC (zD :: List.replicate j' zD) = [bC false, .v (.slice none 0 0)] ++ dsC (List.replicate j' zD) from rfl, seg (A := dsC l) (x := [bC false, .v (.slice none 0 0)]) (j := n * 2 + 2) (by rw [dsC_len, hn]) rfl, Nat.add_sub_cancel, dsC_app, dsC_app, List.append_assoc]
  rfl
theorem dsC_grow (l : List (Bool × SC)) (q : Bool × SC) (j : Nat) : dsC l ++ [bC q.1, q.2] ++ (List.replicate j [SC.v (.bool false), SC.v (.slice none 0 0)]).flatten = dsC ((l ++ [q]) ++ List.replicate j zD) := by
  rw [dsC_app, dsC_app]
  congr 1
  unfold dsC
  rw [List.map_replicate]
abbrev rcB (r t : SC) (a1 a2 c1 c2 c3 : Int) : SB := ⟨true, 83, [r, t, i64 a1, i64 a2, i64 c1, i64 c2, i64 c3]⟩
abbrev dB (o : Bool) (l : List (Bool × SC)) : SB := ⟨o, 85, dsC l⟩
/-- Descriptors without bytes. -/
abbrev rowsN (b : Bool) (i j : Nat) : List (Bool × SC) := List.replicate i (b, .v (.slice none 0 0)) ++ List.replicate j zD
theorem dsN_mem {b : Bool} {i j : Nat} {x : SC} (hx : x ∈ dsC (rowsN b i j)) : ∃ c, x = bC c ∨ x = .v (.slice none 0 0) := by
  simp only [dsC, List.mem_flatten, List.mem_map] at hx
  obtain ⟨_, ⟨q, hq, rfl⟩, hx⟩ := hx
  simp only [List.mem_cons, List.not_mem_nil, or_false] at hx
  rcases List.mem_append.1 hq with h | h <;> rw [List.eq_of_mem_replicate h] at hx <;> exact ⟨_, hx⟩
theorem dsN_ids (p : Nat → Bool) (b : Bool) (i j : Nat) : (dsC (rowsN b i j)).all (SC.ids p) = true := by
  rw [List.all_eq_true]
  intro x hx
  obtain ⟨c, rfl | rfl⟩ := dsN_mem hx <;> rfl
theorem dsN_ren (r : Nat → Nat) (b : Bool) (i j : Nat) : (dsC (rowsN b i j)).map (SC.ren r) = dsC (rowsN b i j) := by
  conv => rhs; rw [← List.map_id (dsC (rowsN b i j))]
  refine List.map_congr_left fun x hx => ?_
  obtain ⟨c, rfl | rfl⟩ := dsN_mem hx <;> rfl
theorem rowsN_room (b : Bool) (i j : Nat) (hj : 1 ≤ j) : (dsC (rowsN b i j)).take (i * 2) ++ [bC b, .v (.slice none 0 0)] ++ (dsC (rowsN b i j)).drop (i * 2 + 2) = dsC (rowsN b (i + 1) (j - 1)) := by
  rw [dsC_room (b, .v (.slice none 0 0)) (by simp) hj, rowsN, List.replicate_succ']
theorem rowsN_grow (b : Bool) (i j j' : Nat) : (dsC (rowsN b i j)).take (i * 2) ++ [bC b, .v (.slice none 0 0)] ++ (List.replicate j' [SC.v (.bool false), SC.v (.slice none 0 0)]).flatten = dsC (rowsN b (i + 1) j') := by
  rw [rowsN, dsC_app, List.take_left' (by rw [dsC_len, List.length_replicate]), dsC_grow _ (b, .v (.slice none 0 0)), rowsN, List.replicate_succ']
theorem rowsN_len (b : Bool) (i j : Nat) : (dsC (rowsN b i j)).length = (i + j) * 2 := by rw [dsC_len]; simp
theorem rnewN_spec (n m : Int) (h : n < 1 ∨ 64 < n ∨ m < 1 ∨ 64 < m) : Spec cx.P 9 [.c (i64 n), .c (i64 m)] [] fun t _ => t.plain = true ∧ t = .c (.v (.pointer none)) := by
  refine spec_of_X cx_ok Try.func9 rfl (by kernel_rfl) (by kernel_rfl) (Nat.le_of_ble_eq_true rfl) 400 8 ?_
  simp (maxSteps := 4000000) only [Try.results9, XX, Nat.reduceBEq, Nat.reduceLT, Nat.reduceAdd, Nat.reduceMul, Nat.reduceSub, Nat.reduceLeDiff, Nat.reduceEqDiff, Int.reduceToNat, Int.reduceLT, Int.reduceLE, Int.reduceAdd, Int.reduceSub, Int.reduceEq, reduceIte, Nat.reduceBNe, Int.reducePow, Nat.reducePow, Int.reduceMul, Int.reduceNeg, isB_i, isB_b, isB_y, isBv_i, isBv_b, eqCells_t, TT]
  cases h1 : decide (n < 1)
  · cases h2 : decide (64 < n)
    · cases h3 : decide (m < 1)
      · have h4 : decide (64 < m) = true := by
          simp only [decide_eq_false_iff_not] at h1 h2 h3
          simp only [decide_eq_true_eq]; omega
        simp (maxSteps := 4000000) only [Try.results9, h1, h2, h3, h4, XX, Nat.reduceBEq, Nat.reduceLT, Nat.reduceAdd, Nat.reduceMul, Nat.reduceSub, Nat.reduceLeDiff, Nat.reduceEqDiff, Int.reduceToNat, Int.reduceLT, Int.reduceLE, Int.reduceAdd, Int.reduceSub, Int.reduceEq, reduceIte, Nat.reduceBNe, Int.reducePow, Nat.reducePow, Int.reduceMul, Int.reduceNeg, isB_i, isB_b, isB_y, isBv_i, isBv_b, eqCells_t, TT]
      · simp (maxSteps := 4000000) only [Try.results9, h1, h2, h3, XX, Nat.reduceBEq, Nat.reduceLT, Nat.reduceAdd, Nat.reduceMul, Nat.reduceSub, Nat.reduceLeDiff, Nat.reduceEqDiff, Int.reduceToNat, Int.reduceLT, Int.reduceLE, Int.reduceAdd, Int.reduceSub, Int.reduceEq, reduceIte, Nat.reduceBNe, Int.reducePow, Nat.reducePow, Int.reduceMul, Int.reduceNeg, isB_i, isB_b, isB_y, isBv_i, isBv_b, eqCells_t, TT]
    · simp (maxSteps := 4000000) only [Try.results9, h1, h2, XX, Nat.reduceBEq, Nat.reduceLT, Nat.reduceAdd, Nat.reduceMul, Nat.reduceSub, Nat.reduceLeDiff, Nat.reduceEqDiff, Int.reduceToNat, Int.reduceLT, Int.reduceLE, Int.reduceAdd, Int.reduceSub, Int.reduceEq, reduceIte, Nat.reduceBNe, Int.reducePow, Nat.reducePow, Int.reduceMul, Int.reduceNeg, isB_i, isB_b, isB_y, isBv_i, isBv_b, eqCells_t, TT]
  · simp (maxSteps := 4000000) only [Try.results9, h1, XX, Nat.reduceBEq, Nat.reduceLT, Nat.reduceAdd, Nat.reduceMul, Nat.reduceSub, Nat.reduceLeDiff, Nat.reduceEqDiff, Int.reduceToNat, Int.reduceLT, Int.reduceLE, Int.reduceAdd, Int.reduceSub, Int.reduceEq, reduceIte, Nat.reduceBNe, Int.reducePow, Nat.reducePow, Int.reduceMul, Int.reduceNeg, isB_i, isB_b, isB_y, isBv_i, isBv_b, eqCells_t, TT]
theorem rnew_spec (n m : Nat) (h1 : 1 ≤ n) (h2 : n ≤ 64) (h3 : 1 ≤ m) (h4 : m ≤ 64) : Spec cx.P 9 [.c (i64 n), .c (i64 m)] [] fun t h' => ∃ j1 j2, t = .c (.ptr 0 0) ∧ h' = [rcB (.sl 1 0 n (n + j1)) (.sl 2 0 m (m + j2)) 0 0 0 0 0, dB true (rowsN true n j1), dB true (rowsN false m j2)] := by
  have d1 : decide ((n : Int) < 1) = false := by simp only [decide_eq_false_iff_not]; omega
  have d2 : decide (64 < (n : Int)) = false := by simp only [decide_eq_false_iff_not]; omega
  have d3 : decide ((m : Int) < 1) = false := by simp only [decide_eq_false_iff_not]; omega
  have d4 : decide (64 < (m : Int)) = false := by simp only [decide_eq_false_iff_not]; omega
  refine spec_of_X cx_ok Try.func9 rfl (by kernel_rfl) (by kernel_rfl) (Nat.le_of_ble_eq_true rfl) 400 8 ?_
  simp (maxSteps := 4000000) only [Try.results9, XX, Nat.reduceBEq, Nat.reduceLT, Nat.reduceAdd, Nat.reduceMul, Nat.reduceSub, Nat.reduceLeDiff, Nat.reduceEqDiff, Int.reduceToNat, Int.reduceLT, Int.reduceLE, Int.reduceAdd, Int.reduceSub, Int.reduceEq, reduceIte, Nat.reduceBNe, Int.reducePow, Nat.reducePow, Int.reduceMul, Int.reduceNeg, isB_i, isB_b, isB_y, isBv_i, isBv_b, eqCells_t, TT]
  simp (maxSteps := 4000000) only [Try.results9, d1, d2, d3, d4, XX, Nat.reduceBEq, Nat.reduceLT, Nat.reduceAdd, Nat.reduceMul, Nat.reduceSub, Nat.reduceLeDiff, Nat.reduceEqDiff, Int.reduceToNat, Int.reduceLT, Int.reduceLE, Int.reduceAdd, Int.reduceSub, Int.reduceEq, reduceIte, Nat.reduceBNe, Int.reducePow, Nat.reducePow, Int.reduceMul, Int.reduceNeg, isB_i, isB_b, isB_y, isBv_i, isBv_b, eqCells_t, TT]
  refine loop_of cx_ok 400 (fun μ σ => ∃ i j o, μ = n - i ∧ i ≤ n ∧ (0 < i + j → o = true) ∧
      σ = ⟨⟨8, 0⟩, [(0, .c (i64 n)), (1, .c (i64 m)), (4, .c (.v (.pointer none))), (5, .c (.ptr 0 0)), (6, .c (i64 (i : Nat)))], [rcB (.sl 1 0 i (i + j)) (.v (.slice none 0 0)) 0 0 0 0 0, dB o (rowsN true i j)]⟩) n ⟨⟨8, 0⟩, [(0, .c (i64 n)), (1, .c (i64 m)), (4, .c (.v (.pointer none))), (5, .c (.ptr 0 0)), (6, .c (i64 (0 : Nat)))], [rcB (.sl 1 0 0 0) (.v (.slice none 0 0)) 0 0 0 0 0, dB false []]⟩ ⟨0, 0, false, by omega, Nat.zero_le _, fun h => by omega, rfl⟩ [some 0, none]
    ⟨rfl, rfl, ?_, by simp only [XX, Nat.reduceBEq, Nat.reduceLT, Nat.reduceAdd, Nat.reduceMul, Nat.reduceSub, Nat.reduceLeDiff, Nat.reduceEqDiff, Int.reduceToNat, Int.reduceLT, Int.reduceLE, Int.reduceAdd, Int.reduceSub, Int.reduceEq, reduceIte, Nat.reduceBNe, Int.reducePow, Nat.reducePow, Int.reduceMul, Int.reduceNeg, isB_i, isB_b, isB_y, isBv_i, isBv_b, eqCells_t, TT]⟩ ?_
  · exact ⟨⟨.inr ⟨.inr (.inr ⟨1, 0, rfl, .inl rfl⟩), .inl ⟨rfl, rfl⟩, .inl ⟨rfl, rfl⟩, .inl ⟨rfl, rfl⟩, .inl ⟨rfl, rfl⟩, .inl ⟨rfl, rfl⟩, .inl ⟨rfl, rfl⟩, trivial⟩, fun _ => ⟨rfl, rfl⟩⟩, ⟨rfl, rfl⟩, trivial⟩
  rintro μ σ ⟨i, j, o, rfl, hi, ho, rfl⟩
  simp (maxSteps := 4000000) only [Try.results9, XX, Nat.reduceBEq, Nat.reduceLT, Nat.reduceAdd, Nat.reduceMul, Nat.reduceSub, Nat.reduceLeDiff, Nat.reduceEqDiff, Int.reduceToNat, Int.reduceLT, Int.reduceLE, Int.reduceAdd, Int.reduceSub, Int.reduceEq, reduceIte, Nat.reduceBNe, Int.reducePow, Nat.reducePow, Int.reduceMul, Int.reduceNeg, isB_i, isB_b, isB_y, isBv_i, isBv_b, eqCells_t, TT]
  by_cases hlt : i < n
  · have hd : decide ((i : Int) < (n : Int)) = true := by simp only [decide_eq_true_eq]; omega
    have e1 : IntKind.i64.wrap ((i : Int) + 1) = ((i + 1 : Nat) : Int) := by rw [w64] <;> omega
    simp (maxSteps := 4000000) only [Try.results9, hd, e1, XX, Nat.reduceBEq, Nat.reduceLT, Nat.reduceAdd, Nat.reduceMul, Nat.reduceSub, Nat.reduceLeDiff, Nat.reduceEqDiff, Int.reduceToNat, Int.reduceLT, Int.reduceLE, Int.reduceAdd, Int.reduceSub, Int.reduceEq, reduceIte, Nat.reduceBNe, Int.reducePow, Nat.reducePow, Int.reduceMul, Int.reduceNeg, isB_i, isB_b, isB_y, isBv_i, isBv_b, eqCells_t, TT]
    simp only [List.replicate_succ, List.replicate_zero, List.flatten_cons, List.flatten_nil, List.cons_append, List.nil_append, List.drop_succ_cons, List.drop_zero, List.length_cons, List.length_nil, Nat.reduceAdd, Nat.reduceLeDiff, reduceIte]
    simp (maxSteps := 4000000) only [Try.results9, XX, Nat.reduceBEq, Nat.reduceLT, Nat.reduceAdd, Nat.reduceMul, Nat.reduceSub, Nat.reduceLeDiff, Nat.reduceEqDiff, Int.reduceToNat, Int.reduceLT, Int.reduceLE, Int.reduceAdd, Int.reduceSub, Int.reduceEq, reduceIte, Nat.reduceBNe, Int.reducePow, Nat.reducePow, Int.reduceMul, Int.reduceNeg, isB_i, isB_b, isB_y, isBv_i, isBv_b, eqCells_t, TT]
    refine ⟨⟨by omega, by unfold maxLen; omega, by rw [rowsN_len]; omega, fun h => ⟨ho (by omega), by rw [rowsN_len]; omega⟩⟩, ?_⟩
    refine xapp_lit (fun j' : Nat => [(0, .c (i64 n)), (1, .c (i64 m)), (4, .c (.v (.pointer none))), (5, .c (.ptr 0 0)), (6, .c (i64 (i : Nat))), (29, .c (.ptr 0 0)), (36, .c (.sl 1 0 (i + 1) (i + 1 + j')))]) (fun j' => [rcB .any (.v (.slice none 0 0)) 0 0 0 0 0, dB true (rowsN true (i + 1) j')]) [some 0, some 1] [some 0, some 3] (fun h => ?_) (fun h c h1 => ?_) (fun j' => ?_)
    · refine ⟨j - 1, ⟨rfl, rfl, ?_, ?_⟩⟩
      · refine ⟨⟨.inr ⟨.inr (.inl rfl), .inl ⟨rfl, rfl⟩, .inl ⟨rfl, rfl⟩, .inl ⟨rfl, rfl⟩, .inl ⟨rfl, rfl⟩, .inl ⟨rfl, rfl⟩, .inl ⟨rfl, rfl⟩, trivial⟩, fun _ => ⟨rfl, rfl⟩⟩, ⟨.inl ⟨dsN_ids _ _ _ _, ?_⟩, fun _ => ⟨ho (by omega), rfl⟩⟩, trivial⟩
        exact (rowsN_room true i j (by omega)).trans (dsN_ren _ _ _ _).symm
      · simp only [XX, Nat.reduceBEq, Nat.reduceLT, Nat.reduceAdd, Nat.reduceMul, Nat.reduceSub, Nat.reduceLeDiff, Nat.reduceEqDiff, Int.reduceToNat, Int.reduceLT, Int.reduceLE, Int.reduceAdd, Int.reduceSub, Int.reduceEq, reduceIte, Nat.reduceBNe, Int.reducePow, Nat.reducePow, Int.reduceMul, Int.reduceNeg, isB_i, isB_b, isB_y, isBv_i, isBv_b, eqCells_t, TT]
        simp
        omega
    · obtain ⟨j', rfl⟩ := Nat.exists_eq_add_of_le h1
      refine ⟨j', ⟨rfl, rfl, ?_, ?_⟩⟩
      · refine ⟨⟨.inr ⟨.inr (.inl rfl), .inl ⟨rfl, rfl⟩, .inl ⟨rfl, rfl⟩, .inl ⟨rfl, rfl⟩, .inl ⟨rfl, rfl⟩, .inl ⟨rfl, rfl⟩, .inl ⟨rfl, rfl⟩, trivial⟩, fun _ => ⟨rfl, rfl⟩⟩, ⟨.inl ⟨dsN_ids _ _ _ _, ?_⟩, fun _ => ⟨rfl, rfl⟩⟩, trivial⟩
        rw [dsN_ren]
        have := rowsN_grow true i j (i + 1 + j' - (i + 1))
        rw [Nat.add_sub_cancel_left] at this ⊢
        exact this
      · simp only [XX, Nat.reduceBEq, Nat.reduceLT, Nat.reduceAdd, Nat.reduceMul, Nat.reduceSub, Nat.reduceLeDiff, Nat.reduceEqDiff, Int.reduceToNat, Int.reduceLT, Int.reduceLE, Int.reduceAdd, Int.reduceSub, Int.reduceEq, reduceIte, Nat.reduceBNe, Int.reducePow, Nat.reducePow, Int.reduceMul, Int.reduceNeg, isB_i, isB_b, isB_y, isBv_i, isBv_b, eqCells_t, TT]
    simp (maxSteps := 4000000) only [Try.results9, e1, XX, Nat.reduceBEq, Nat.reduceLT, Nat.reduceAdd, Nat.reduceMul, Nat.reduceSub, Nat.reduceLeDiff, Nat.reduceEqDiff, Int.reduceToNat, Int.reduceLT, Int.reduceLE, Int.reduceAdd, Int.reduceSub, Int.reduceEq, reduceIte, Nat.reduceBNe, Int.reducePow, Nat.reducePow, Int.reduceMul, Int.reduceNeg, isB_i, isB_b, isB_y, isBv_i, isBv_b, eqCells_t, TT]
    refine ⟨n - (i + 1), by omega, _, ⟨i + 1, j', true, rfl, by omega, fun _ => rfl, rfl⟩, [some 0, some 1], ⟨rfl, rfl, ?_, ?_⟩⟩
    · simp only [XX, Nat.reduceBEq, Nat.reduceLT, Nat.reduceAdd, Nat.reduceMul, Nat.reduceSub, Nat.reduceLeDiff, Nat.reduceEqDiff, Int.reduceToNat, Int.reduceLT, Int.reduceLE, Int.reduceAdd, Int.reduceSub, Int.reduceEq, reduceIte, Nat.reduceBNe, Int.reducePow, Nat.reducePow, Int.reduceMul, Int.reduceNeg, isB_i, isB_b, isB_y, isBv_i, isBv_b, eqCells_t, TT, dsN_ids, dsN_ren]
    · simp only [XX, Nat.reduceBEq, Nat.reduceLT, Nat.reduceAdd, Nat.reduceMul, Nat.reduceSub, Nat.reduceLeDiff, Nat.reduceEqDiff, Int.reduceToNat, Int.reduceLT, Int.reduceLE, Int.reduceAdd, Int.reduceSub, Int.reduceEq, reduceIte, Nat.reduceBNe, Int.reducePow, Nat.reducePow, Int.reduceMul, Int.reduceNeg, isB_i, isB_b, isB_y, isBv_i, isBv_b, eqCells_t, TT]
  · have hd : decide ((i : Int) < (n : Int)) = false := by simp only [decide_eq_false_iff_not]; omega
    obtain rfl : i = n := by omega
    simp (maxSteps := 4000000) only [Try.results9, hd, XX, Nat.reduceBEq, Nat.reduceLT, Nat.reduceAdd, Nat.reduceMul, Nat.reduceSub, Nat.reduceLeDiff, Nat.reduceEqDiff, Int.reduceToNat, Int.reduceLT, Int.reduceLE, Int.reduceAdd, Int.reduceSub, Int.reduceEq, reduceIte, Nat.reduceBNe, Int.reducePow, Nat.reducePow, Int.reduceMul, Int.reduceNeg, isB_i, isB_b, isB_y, isBv_i, isBv_b, eqCells_t, TT]
    obtain rfl := ho (by omega)
    refine loop_of cx_ok 400 (fun μ σ => ∃ p q o, μ = m - p ∧ p ≤ m ∧ (0 < p + q → o = true) ∧
        σ = ⟨⟨8, 0⟩, [(1, .c (i64 m)), (4, .c (.v (.pointer none))), (5, .c (.ptr 0 0)), (7, .c (i64 (p : Nat)))], [rcB (.sl 1 0 i (i + j)) (.sl 2 0 p (p + q)) 0 0 0 0 0, dB true (rowsN true i j), dB o (rowsN false p q)]⟩) m ⟨⟨8, 0⟩, [(1, .c (i64 m)), (4, .c (.v (.pointer none))), (5, .c (.ptr 0 0)), (7, .c (i64 (0 : Nat)))], [rcB (.sl 1 0 i (i + j)) (.sl 2 0 0 0) 0 0 0 0 0, dB true (rowsN true i j), dB false []]⟩ ⟨0, 0, false, by omega, Nat.zero_le _, fun h => by omega, rfl⟩ [some 0, some 1, none]
      ⟨rfl, rfl, ?_, by simp only [XX, Nat.reduceBEq, Nat.reduceLT, Nat.reduceAdd, Nat.reduceMul, Nat.reduceSub, Nat.reduceLeDiff, Nat.reduceEqDiff, Int.reduceToNat, Int.reduceLT, Int.reduceLE, Int.reduceAdd, Int.reduceSub, Int.reduceEq, reduceIte, Nat.reduceBNe, Int.reducePow, Nat.reducePow, Int.reduceMul, Int.reduceNeg, isB_i, isB_b, isB_y, isBv_i, isBv_b, eqCells_t, TT]⟩ ?_
    · exact ⟨⟨.inr ⟨.inl ⟨rfl, rfl⟩, .inr (.inr ⟨2, 0, rfl, .inl rfl⟩), .inl ⟨rfl, rfl⟩, .inl ⟨rfl, rfl⟩, .inl ⟨rfl, rfl⟩, .inl ⟨rfl, rfl⟩, .inl ⟨rfl, rfl⟩, trivial⟩, fun _ => ⟨rfl, rfl⟩⟩, ⟨.inl ⟨dsN_ids _ _ _ _, (dsN_ren _ _ _ _).symm⟩, fun _ => ⟨rfl, rfl⟩⟩, ⟨rfl, rfl⟩, trivial⟩
    rintro μ σ ⟨p, q, o, rfl, hp, ho, rfl⟩
    simp (maxSteps := 4000000) only [Try.results9, XX, Nat.reduceBEq, Nat.reduceLT, Nat.reduceAdd, Nat.reduceMul, Nat.reduceSub, Nat.reduceLeDiff, Nat.reduceEqDiff, Int.reduceToNat, Int.reduceLT, Int.reduceLE, Int.reduceAdd, Int.reduceSub, Int.reduceEq, reduceIte, Nat.reduceBNe, Int.reducePow, Nat.reducePow, Int.reduceMul, Int.reduceNeg, isB_i, isB_b, isB_y, isBv_i, isBv_b, eqCells_t, TT]
    by_cases hlt : p < m
    · have hd : decide ((p : Int) < (m : Int)) = true := by simp only [decide_eq_true_eq]; omega
      have e1 : IntKind.i64.wrap ((p : Int) + 1) = ((p + 1 : Nat) : Int) := by rw [w64] <;> omega
      simp (maxSteps := 4000000) only [Try.results9, hd, e1, XX, Nat.reduceBEq, Nat.reduceLT, Nat.reduceAdd, Nat.reduceMul, Nat.reduceSub, Nat.reduceLeDiff, Nat.reduceEqDiff, Int.reduceToNat, Int.reduceLT, Int.reduceLE, Int.reduceAdd, Int.reduceSub, Int.reduceEq, reduceIte, Nat.reduceBNe, Int.reducePow, Nat.reducePow, Int.reduceMul, Int.reduceNeg, isB_i, isB_b, isB_y, isBv_i, isBv_b, eqCells_t, TT]
      simp only [List.replicate_succ, List.replicate_zero, List.flatten_cons, List.flatten_nil, List.cons_append, List.nil_append, List.drop_succ_cons, List.drop_zero, List.length_cons, List.length_nil, Nat.reduceAdd, Nat.reduceLeDiff, reduceIte]
      simp (maxSteps := 4000000) only [Try.results9, XX, Nat.reduceBEq, Nat.reduceLT, Nat.reduceAdd, Nat.reduceMul, Nat.reduceSub, Nat.reduceLeDiff, Nat.reduceEqDiff, Int.reduceToNat, Int.reduceLT, Int.reduceLE, Int.reduceAdd, Int.reduceSub, Int.reduceEq, reduceIte, Nat.reduceBNe, Int.reducePow, Nat.reducePow, Int.reduceMul, Int.reduceNeg, isB_i, isB_b, isB_y, isBv_i, isBv_b, eqCells_t, TT]
      refine ⟨⟨by omega, by unfold maxLen; omega, by rw [rowsN_len]; omega, fun h => ⟨ho (by omega), by rw [rowsN_len]; omega⟩⟩, ?_⟩
      refine xapp_lit (fun j' : Nat => [(1, .c (i64 m)), (4, .c (.v (.pointer none))), (5, .c (.ptr 0 0)), (7, .c (i64 (p : Nat))), (44, .c (.ptr 0 0)), (51, .c (.sl 2 0 (p + 1) (p + 1 + j')))]) (fun j' => [rcB (.sl 1 0 i (i + j)) .any 0 0 0 0 0, dB true (rowsN true i j), dB true (rowsN false (p + 1) j')]) [some 0, some 1, some 2] [some 0, some 1, some 4] (fun h => ?_) (fun h c h1 => ?_) (fun j' => ?_)
      · refine ⟨q - 1, ⟨rfl, rfl, ?_, ?_⟩⟩
        · refine ⟨⟨.inr ⟨.inl ⟨rfl, rfl⟩, .inr (.inl rfl), .inl ⟨rfl, rfl⟩, .inl ⟨rfl, rfl⟩, .inl ⟨rfl, rfl⟩, .inl ⟨rfl, rfl⟩, .inl ⟨rfl, rfl⟩, trivial⟩, fun _ => ⟨rfl, rfl⟩⟩, ⟨.inl ⟨dsN_ids _ _ _ _, (dsN_ren _ _ _ _).symm⟩, fun _ => ⟨rfl, rfl⟩⟩, ⟨.inl ⟨dsN_ids _ _ _ _, ?_⟩, fun _ => ⟨ho (by omega), rfl⟩⟩, trivial⟩
          exact (rowsN_room false p q (by omega)).trans (dsN_ren _ _ _ _).symm
        · simp only [XX, Nat.reduceBEq, Nat.reduceLT, Nat.reduceAdd, Nat.reduceMul, Nat.reduceSub, Nat.reduceLeDiff, Nat.reduceEqDiff, Int.reduceToNat, Int.reduceLT, Int.reduceLE, Int.reduceAdd, Int.reduceSub, Int.reduceEq, reduceIte, Nat.reduceBNe, Int.reducePow, Nat.reducePow, Int.reduceMul, Int.reduceNeg, isB_i, isB_b, isB_y, isBv_i, isBv_b, eqCells_t, TT]
          simp
          omega
      · obtain ⟨j', rfl⟩ := Nat.exists_eq_add_of_le h1
        refine ⟨j', ⟨rfl, rfl, ?_, ?_⟩⟩
        · refine ⟨⟨.inr ⟨.inl ⟨rfl, rfl⟩, .inr (.inl rfl), .inl ⟨rfl, rfl⟩, .inl ⟨rfl, rfl⟩, .inl ⟨rfl, rfl⟩, .inl ⟨rfl, rfl⟩, .inl ⟨rfl, rfl⟩, trivial⟩, fun _ => ⟨rfl, rfl⟩⟩, ⟨.inl ⟨dsN_ids _ _ _ _, (dsN_ren _ _ _ _).symm⟩, fun _ => ⟨rfl, rfl⟩⟩, ⟨.inl ⟨dsN_ids _ _ _ _, ?_⟩, fun _ => ⟨rfl, rfl⟩⟩, trivial⟩
          rw [dsN_ren]
          have := rowsN_grow false p q (p + 1 + j' - (p + 1))
          rw [Nat.add_sub_cancel_left] at this ⊢
          exact this
        · simp only [XX, Nat.reduceBEq, Nat.reduceLT, Nat.reduceAdd, Nat.reduceMul, Nat.reduceSub, Nat.reduceLeDiff, Nat.reduceEqDiff, Int.reduceToNat, Int.reduceLT, Int.reduceLE, Int.reduceAdd, Int.reduceSub, Int.reduceEq, reduceIte, Nat.reduceBNe, Int.reducePow, Nat.reducePow, Int.reduceMul, Int.reduceNeg, isB_i, isB_b, isB_y, isBv_i, isBv_b, eqCells_t, TT]
      simp (maxSteps := 4000000) only [Try.results9, e1, XX, Nat.reduceBEq, Nat.reduceLT, Nat.reduceAdd, Nat.reduceMul, Nat.reduceSub, Nat.reduceLeDiff, Nat.reduceEqDiff, Int.reduceToNat, Int.reduceLT, Int.reduceLE, Int.reduceAdd, Int.reduceSub, Int.reduceEq, reduceIte, Nat.reduceBNe, Int.reducePow, Nat.reducePow, Int.reduceMul, Int.reduceNeg, isB_i, isB_b, isB_y, isBv_i, isBv_b, eqCells_t, TT]
      refine ⟨m - (p + 1), by omega, _, ⟨p + 1, j', true, rfl, by omega, fun _ => rfl, rfl⟩, [some 0, some 1, some 2], ⟨rfl, rfl, ?_, ?_⟩⟩
      · simp only [XX, Nat.reduceBEq, Nat.reduceLT, Nat.reduceAdd, Nat.reduceMul, Nat.reduceSub, Nat.reduceLeDiff, Nat.reduceEqDiff, Int.reduceToNat, Int.reduceLT, Int.reduceLE, Int.reduceAdd, Int.reduceSub, Int.reduceEq, reduceIte, Nat.reduceBNe, Int.reducePow, Nat.reducePow, Int.reduceMul, Int.reduceNeg, isB_i, isB_b, isB_y, isBv_i, isBv_b, eqCells_t, TT, dsN_ids, dsN_ren]
      · simp only [XX, Nat.reduceBEq, Nat.reduceLT, Nat.reduceAdd, Nat.reduceMul, Nat.reduceSub, Nat.reduceLeDiff, Nat.reduceEqDiff, Int.reduceToNat, Int.reduceLT, Int.reduceLE, Int.reduceAdd, Int.reduceSub, Int.reduceEq, reduceIte, Nat.reduceBNe, Int.reducePow, Nat.reducePow, Int.reduceMul, Int.reduceNeg, isB_i, isB_b, isB_y, isBv_i, isBv_b, eqCells_t, TT]
    · have hd : decide ((p : Int) < (m : Int)) = false := by simp only [decide_eq_false_iff_not]; omega
      obtain rfl : p = m := by omega
      obtain rfl := ho (by omega)
      simp (maxSteps := 4000000) only [Try.results9, hd, XX, Nat.reduceBEq, Nat.reduceLT, Nat.reduceAdd, Nat.reduceMul, Nat.reduceSub, Nat.reduceLeDiff, Nat.reduceEqDiff, Int.reduceToNat, Int.reduceLT, Int.reduceLE, Int.reduceAdd, Int.reduceSub, Int.reduceEq, reduceIte, Nat.reduceBNe, Int.reducePow, Nat.reducePow, Int.reduceMul, Int.reduceNeg, isB_i, isB_b, isB_y, isBv_i, isBv_b, eqCells_t, TT]
      exact ⟨j, q, rfl⟩
end Go.Proofs.Ythbojoiogjdbeaa.Sx
namespace Go.Proofs.Ythbojoiogjdbeaa.Sx
open Go
set_option linter.unusedSimpArgs false
set_option linter.unusedVariables false
set_option maxRecDepth 10000
set_option maxHeartbeats 2000000
/-- A ring of 'n' slots holds what was put, from 'a' on; such slots are 'full', the others not. -/
structure Rg (full : Bool) (n : Nat) (l : List Sl) (a : Nat) (q : List (List UInt8)) : Prop where
  len : l.length = n
  ab : a ≤ q.length
  bn : q.length ≤ a + n
  on : ∀ k, a ≤ k → k < q.length → ∃ s, l[k % n]? = some s ∧ s.own = full ∧ q[k]? = some s.d
  off : ∀ k, q.length ≤ k → k < a + n → ∃ s, l[k % n]? = some s ∧ s.own = !full
theorem mod_ne {a n x y : Nat} (hx : a ≤ x) (hy : a ≤ y) (hx' : x < a + n) (hy' : y < a + n) (h : x ≠ y) : x % n ≠ y % n := by
  intro he
  rcases Nat.lt_or_gt_of_ne h with hlt | hlt
  · have := Nat.sub_mod_eq_zero_of_mod_eq he.symm
    rw [Nat.mod_eq_of_lt (by omega)] at this
    omega
  · have := Nat.sub_mod_eq_zero_of_mod_eq he
    rw [Nat.mod_eq_of_lt (by omega)] at this
    omega
theorem Rg.push {full : Bool} {n : Nat} {l : List Sl} {a : Nat} {q : List (List UInt8)} (h : Rg full n l a q) (hr : q.length < a + n) (x j : List UInt8) : Rg full n (l.set (q.length % n) ⟨full, x, j⟩) a (q ++ [x]) := by
  have hl := h.len
  have hab := h.ab
  have hn : 0 < n := by omega
  have hlt : q.length % n < l.length := by rw [hl]; exact Nat.mod_lt _ hn
  refine ⟨by simpa using hl, by simp; omega, by simp; omega, fun k h1 h2 => ?_, fun k h1 h2 => ?_⟩
  · simp only [List.length_append, List.length_cons, List.length_nil] at h2
    by_cases hk : k = q.length
    · subst hk
      exact ⟨_, List.getElem?_set_self hlt, rfl, by simp⟩
    · obtain ⟨s, g1, g2, g3⟩ := h.on k h1 (by omega)
      refine ⟨s, ?_, g2, ?_⟩
      · rw [List.getElem?_set_ne (mod_ne (a := a) (by omega) (by omega) (by omega) (by omega) (Ne.symm hk))]
        exact g1
      · rw [List.getElem?_append_left (by omega)]
        exact g3
  · simp only [List.length_append, List.length_cons, List.length_nil] at h1
    obtain ⟨s, g1, g2⟩ := h.off k (by omega) h2
    exact ⟨s, by rw [List.getElem?_set_ne (mod_ne (a := a) (by omega) (by omega) (by omega) (by omega) (by omega))]; exact g1, g2⟩
theorem Rg.new (full : Bool) (n : Nat) : Rg full n (List.replicate n (slT !full)) 0 [] := by
  refine ⟨by simp, by simp, by simp, fun k h1 h2 => by simp at h2, fun k h1 h2 => ?_⟩
  rw [List.getElem?_replicate, if_pos (Nat.mod_lt _ (by omega))]
  exact ⟨_, rfl, rfl⟩
structure OpC where
  k : Int
  i : Int
  l : List UInt8
  sp : List UInt8
  c : Nat
abbrev OpC.rc (o : OpC) : List RC := [.v (.int .i64 o.k), .v (.int .i64 o.i), .sl (bsR (o.l ++ o.sp)) o.l.length o.c]
def OpC.ok (o : OpC) : Prop := o.l.length ≤ o.c ∧ o.c = o.l.length + o.sp.length ∧ o.c ≤ maxLen ∧ o.c ≤ 140737488351232
end Go.Proofs.Ythbojoiogjdbeaa.Sx
namespace Go.Proofs.Ythbojoiogjdbeaa.Sx
open Go
set_option linter.unusedSimpArgs false
set_option linter.unusedVariables false
set_option maxRecDepth 10000
set_option maxHeartbeats 2000000
theorem dsC_split {l : List (Bool × SC)} {i : Nat} {q : Bool × SC} (h : l[i]? = some q) : dsC l = dsC (l.take i) ++ ([bC q.1, q.2] ++ dsC (l.drop (i + 1))) := by
  obtain ⟨h1, rfl⟩ := List.getElem?_eq_some_iff.1 h
  conv => lhs; rw [← List.take_append_drop i l, List.drop_eq_getElem_cons h1]
  rw [dsC_app]
  rfl
theorem dsC_tl {l : List (Bool × SC)} {i : Nat} {q : Bool × SC} (h : l[i]? = some q) : (dsC (l.take i)).length = i * 2 := by
  obtain ⟨h1, _⟩ := List.getElem?_eq_some_iff.1 h
  rw [dsC_len, List.length_take, Nat.min_eq_left (by omega)]
theorem dsC_0 {l : List (Bool × SC)} {i : Nat} {q : Bool × SC} (h : l[i]? = some q) : (dsC l).getD (i * 2) .any = bC q.1 := by
  rw [dsC_split h, List.getD_eq_getElem?_getD, List.getElem?_append_right (by rw [dsC_tl h]; omega), dsC_tl h, Nat.sub_self]
  rfl
theorem dsC_1 {l : List (Bool × SC)} {i : Nat} {q : Bool × SC} (h : l[i]? = some q) : (dsC l).getD (i * 2 + 1) .any = q.2 := by
  rw [dsC_split h, List.getD_eq_getElem?_getD, List.getElem?_append_right (by rw [dsC_tl h]; omega), dsC_tl h, show i * 2 + 1 - i * 2 = 1 by omega]
  rfl
theorem dsC_set {l : List (Bool × SC)} {i : Nat} {q : Bool × SC} (q' : Bool × SC) (h : l[i]? = some q) : (dsC l).take (i * 2) ++ [bC q'.1, q'.2] ++ (dsC l).drop (i * 2 + 2) = dsC (l.set i q') := by
  obtain ⟨h1, _⟩ := List.getElem?_eq_some_iff.1 h
  rw [List.set_eq_take_append_cons_drop, if_pos h1, dsC_app, dsC_split h, seg (x := [bC q.1, q.2]) (j := i * 2 + 2) (dsC_tl h) rfl]
  rfl
theorem fz_nil4 {ok : Nat → Bool} {r : Nat → Nat} {n : Nat} {h : List SB} {sp : List UInt8} : frC true ok r n h (.v (.slice none 0 0)) (roB [] sp 0) :=
  .inr ⟨rfl, .inl ⟨_, _, _, rfl, .inr (.inl ⟨rfl, rfl, rfl⟩)⟩⟩
theorem fz_any4 {r : Nat → Nat} {n : Nat} {h : List SB} {i : Nat} {l sp : List UInt8} {o : Bool} (hb : h[i]? = some (wB o (l ++ sp))) (ho : 0 < l.length + sp.length → o = true) : frC true (fun _ => true) r n h (slB i l sp) (roB l sp (l.length + sp.length)) := by
  by_cases h0 : 0 < l.length + sp.length
  · obtain rfl := ho h0
    exact fz_sl hb rfl rfl
  · exact .inr ⟨rfl, .inl ⟨_, _, _, rfl, .inr (.inr ⟨i, 0, rfl, .inl ⟨by omega, by omega⟩⟩)⟩⟩
/-- A slice of bytes in a heap, not in a window of 'S'. -/
def DX (S : Nat → Prop) (H : List SB) (x : SC) (d : List UInt8) : Prop := (x = .v (.slice none 0 0) ∧ d = []) ∨ ∃ w z o, x = slB w d z ∧ H[w]? = some (wB o (d ++ z)) ∧ (0 < d.length + z.length → o = true) ∧ ¬ S w
theorem DX.app {S : Nat → Prop} {H : List SB} {x : SC} {d : List UInt8} (h : DX S H x d) (X : List SB) : DX S (H ++ X) x d := by
  rcases h with h | ⟨w, z, o, h1, h2, h3⟩
  · exact .inl h
  · exact .inr ⟨w, z, o, h1, by rw [List.getElem?_append_left (lt_of h2)]; exact h2, h3⟩
theorem DX.grow {S S' : Nat → Prop} {H : List SB} {x : SC} {d : List UInt8} (h : DX S H x d) (hs : ∀ i, S' i → S i ∨ H.length ≤ i) : DX S' H x d := by
  rcases h with h | ⟨w, z, o, h1, h2, h3, h4⟩
  · exact .inl h
  · exact .inr ⟨w, z, o, h1, h2, h3, fun hw => by have := lt_of h2; rcases hs w hw with h | h; exact h4 h; omega⟩
theorem DX.fz {S : Nat → Prop} {H : List SB} {x : SC} {d : List UInt8} (h : DX S H x d) {r : Nat → Nat} {n : Nat} : ∃ sp c, d.length ≤ c ∧ frC true (fun _ => true) r n H x (roB d sp c) := by
  rcases h with ⟨rfl, rfl⟩ | ⟨w, z, o, rfl, h2, h3, _⟩
  · exact ⟨[], 0, Nat.le_refl _, fz_nil4⟩
  · exact ⟨z, d.length + z.length, by omega, fz_any4 h2 h3⟩
/-- The document's card in a heap. -/
structure RC4 (H : List SB) (c r t : Nat) (lr lt : List (Bool × SC)) (nr nt cr ct : Nat) (ar at' : Nat) (c1 c2 c3 : Int) : Prop where
  hc : H[c]? = some (rcB (.sl r 0 nr cr) (.sl t 0 nt ct) ar at' c1 c2 c3)
  hr : H[r]? = some (dB true lr)
  ht : H[t]? = some (dB true lt)
  ne : c ≠ r ∧ c ≠ t ∧ r ≠ t
  lr : nr ≤ lr.length
  lt : nt ≤ lt.length
  n1 : 0 < nr ∧ nr ≤ 64
  n2 : 0 < nt ∧ nt ≤ 64
  ar : ar < nr
  at' : at' < nt
theorem dropAt4 {l sp : List UInt8} {j : Nat} (h : j < l.length) : ∃ R, (bsR (l ++ sp)).drop j = .v (.int .u8 (l.getD j 0).toNat) :: R := by
  refine ⟨(bsR (l ++ sp)).drop (j + 1), ?_⟩
  rw [List.drop_eq_getElem_cons (by simp; omega)]
  simp only [List.getElem_map, byteR]
  rw [List.getElem_append_left (by omega), List.getD_eq_getElem?_getD, List.getElem?_eq_getElem (by omega)]
  rfl
theorem copied_raw (m sp : List UInt8) (c : Nat) (hl : m.length ≤ 140737488355328) : Spec cx.P 58 [.c (roB m sp c)] [] fun s h' => ∃ w z' o, s = .c (slB w m z') ∧ Buf h' w o m z' := by
  refine spec_of_X cx_ok Try.func58 rfl (by kernel_rfl) (by kernel_rfl) (Nat.le_of_ble_eq_true rfl) 400 5 ?_
  simp (maxSteps := 4000000) only [Try.results58, XX, Nat.reduceBEq, Nat.reduceLT, Nat.reduceAdd, Nat.reduceMul, Nat.reduceSub, Nat.reduceLeDiff, Nat.reduceEqDiff, Int.reduceToNat, Int.reduceLT, Int.reduceLE, Int.reduceAdd, Int.reduceSub, Int.reduceEq, reduceIte, Nat.reduceBNe, Int.reducePow, Nat.reducePow, Int.reduceMul, Int.reduceNeg, isB_i, isB_b, isB_y, isBv_i, isBv_b, eqCells_t, TT]
  refine loop_any cx_ok 400 (fun μ σ => ∃ (i : Nat) (H : List SB) (w : Nat) (o : Bool) (z' : List UInt8), μ = m.length - i ∧ i ≤ m.length ∧ Buf H w o (m.take i) z' ∧
      σ = ⟨⟨5, 0⟩, [(0, .c (roB m sp c)), (3, .c (.sl w 0 i (i + z'.length))), (4, .c (i64 i))], H⟩) m.length
    ⟨⟨5, 0⟩, [(0, .c (roB m sp c)), (3, .c (.sl 0 0 0 0)), (4, .c (i64 (0 : Nat)))], [wB false []]⟩ ⟨0, _, 0, false, [], rfl, Nat.zero_le _, by rw [List.take_zero]; exact ⟨rfl, fun h => absurd h (by simp)⟩, rfl⟩
    (.inr ⟨[none], rfl, rfl, by simp only [XX, Nat.reduceBEq, Nat.reduceLT, Nat.reduceAdd, Nat.reduceMul, Nat.reduceSub, Nat.reduceLeDiff, Nat.reduceEqDiff, Int.reduceToNat, Int.reduceLT, Int.reduceLE, Int.reduceAdd, Int.reduceSub, Int.reduceEq, reduceIte, Nat.reduceBNe, Int.reducePow, Nat.reducePow, Int.reduceMul, Int.reduceNeg, isB_i, isB_b, isB_y, isBv_i, isBv_b, eqCells_t, TT, List.map_nil], ⟨.inl ⟨rfl, rfl⟩, wk_nil, .inl ⟨rfl, rfl⟩, trivial⟩⟩) ?_
  rintro μ σ ⟨i, H, w, o, z', rfl, hi, B, rfl⟩
  by_cases hlt : i < m.length
  · have hd : decide ((i : Int) < (m.length : Int)) = true := by simp only [decide_eq_true_eq]; omega
    have e3 : IntKind.i64.wrap ((i : Int) + 1) = ((i + 1 : Nat) : Int) := by rw [w64] <;> omega
    obtain ⟨R, hR⟩ := dropAt4 (sp := sp) hlt
    have hb : SC.v (.int .u8 (m.getD i 0).toNat) = byteC (m.getD i 0) := rfl
    have hn : (m.take i).length = i := by simp; omega
    obtain ⟨LM, hLM⟩ : ∃ LM, LM = m.take i := ⟨_, rfl⟩
    rw [← hLM] at B hn
    simp (maxSteps := 4000000) only [Try.results58, hd, hR, hb, B.at_, lt_of B.at_, List.append_assoc, List.getElem?_append_left, List.getElem?_append_right, List.length_append, List.length_set, List.set_append_left, gset, List.getElem?_set_ne, Nat.add_sub_cancel_left, Nat.sub_self, Nat.le_refl, Nat.le_add_right, List.replicate_one, List.flatten_cons, List.flatten_nil, rep_flat, XX, Nat.reduceBEq, Nat.reduceLT, Nat.reduceAdd, Nat.reduceMul, Nat.reduceSub, Nat.reduceLeDiff, Nat.reduceEqDiff, Int.reduceToNat, Int.reduceLT, Int.reduceLE, Int.reduceAdd, Int.reduceSub, Int.reduceEq, reduceIte, Nat.reduceBNe, Int.reducePow, Nat.reducePow, Int.reduceMul, Int.reduceNeg, isB_i, isB_b, isB_y, isBv_i, isBv_b, eqCells_t, TT]
    refine ⟨⟨by omega, by omega⟩, by simp, ⟨⟨by omega, by unfold maxLen; omega, by simp; omega, fun h => ⟨B.own (by omega), by simp; omega⟩⟩, ?_⟩⟩
    refine xapp_one B hn rfl rfl fun H' w' z2 B' h1 h2 h3 => ?_
    simp (maxSteps := 4000000) only [Try.results58, e3, XX, Nat.reduceBEq, Nat.reduceLT, Nat.reduceAdd, Nat.reduceMul, Nat.reduceSub, Nat.reduceLeDiff, Nat.reduceEqDiff, Int.reduceToNat, Int.reduceLT, Int.reduceLE, Int.reduceAdd, Int.reduceSub, Int.reduceEq, reduceIte, Nat.reduceBNe, Int.reducePow, Nat.reducePow, Int.reduceMul, Int.reduceNeg, isB_i, isB_b, isB_y, isBv_i, isBv_b, eqCells_t, TT]
    have hL2 : LM ++ [m.getD i 0] = m.take (i + 1) := by rw [hLM, take_next m i hlt]
    have hn' : (m.take (i + 1)).length = i + 1 := by simp; omega
    rw [hL2] at B' ⊢
    refine ⟨m.length - (i + 1), by omega, _, ⟨i + 1, H', w', true, z2, rfl, by omega, B', rfl⟩, .inl ⟨rfl, rfl, rfl, ?_, rfl, trivial⟩⟩
    simp only [XX, Nat.reduceBEq, Nat.reduceLT, Nat.reduceAdd, Nat.reduceMul, Nat.reduceSub, Nat.reduceLeDiff, Nat.reduceEqDiff, Int.reduceToNat, Int.reduceLT, Int.reduceLE, Int.reduceAdd, Int.reduceSub, Int.reduceEq, reduceIte, Nat.reduceBNe, Int.reducePow, Nat.reducePow, Int.reduceMul, Int.reduceNeg, isB_i, isB_b, isB_y, isBv_i, isBv_b, eqCells_t, TT, slB, hn', Nat.add_assoc]
  obtain rfl : i = m.length := by omega
  have hd : decide ((m.length : Int) < (m.length : Int)) = false := by simp
  rw [List.take_length] at B
  simp (maxSteps := 4000000) only [Try.results58, hd, XX, Nat.reduceBEq, Nat.reduceLT, Nat.reduceAdd, Nat.reduceMul, Nat.reduceSub, Nat.reduceLeDiff, Nat.reduceEqDiff, Int.reduceToNat, Int.reduceLT, Int.reduceLE, Int.reduceAdd, Int.reduceSub, Int.reduceEq, reduceIte, Nat.reduceBNe, Int.reducePow, Nat.reducePow, Int.reduceMul, Int.reduceNeg, isB_i, isB_b, isB_y, isBv_i, isBv_b, eqCells_t, TT]
  exact ⟨w, z', o, by simp only [slB, List.length_append], B⟩
theorem copied_spec (l sp : List UInt8) (c : Nat) (hc : l.length ≤ c) (hl : l.length ≤ 140737488355328) : Spec cx.P 58 [.c (roB l sp c)] [] (resS l) := resS_of (copied_raw l sp c hl)
section
variable {H : List SB} {c r t : Nat} {lr lt : List (Bool × SC)} {nr nt cr ct ar at' : Nat} {c1 c2 c3 : Int}
theorem rrings_spec (h : RC4 H c r t lr lt nr nt cr ct ar at' c1 c2 c3) : Spec cx.P 43 [.c (.ptr c 0)] H fun s h' => s = .tup [(false, [i64 nr]), (false, [i64 nt])] ∧ h' = H := by
  have hc := h.hc
  have ltc := lt_of hc
  obtain ⟨ox, mx⟩ : ∃ o, (maskL [c] 0 H)[c]? = some ⟨o, 83, [.sl r 0 nr cr, .sl t 0 nt ct, i64 ar, i64 at', i64 c1, i64 c2, i64 c3]⟩ := maskL_at hc
  have hok := kept_cons hc rfl kept_nil
  have ltx := lt_of mx
  refine spec_of_X cx_ok Try.func43 rfl (by kernel_rfl) (by kernel_rfl) (Nat.le_of_ble_eq_true rfl) 400 4 ?_
  simp (maxSteps := 4000000) only [Try.results43, XX, Nat.reduceBEq, Nat.reduceLT, Nat.reduceAdd, Nat.reduceMul, Nat.reduceSub, Nat.reduceLeDiff, Nat.reduceEqDiff, Int.reduceToNat, Int.reduceLT, Int.reduceLE, Int.reduceAdd, Int.reduceSub, Int.reduceEq, reduceIte, Nat.reduceBNe, Int.reducePow, Nat.reducePow, Int.reduceMul, Int.reduceNeg, isB_i, isB_b, isB_y, isBv_i, isBv_b, eqCells_t, TT]
  refine draw_of cx_ok (by kernel_rfl) 400 [c] [(0, true), (1, true), (2, true), (3, true), (4, true), (5, true), (6, true), (7, true), (8, true), (9, true), (10, true), (11, true)] (by kernel_rfl) (by first | exact hok | simp [*]) ?_
  simp (maxSteps := 4000000) only [Try.results43, hc, ltc, mx, ltx, unL_maskL, XX, Nat.reduceBEq, Nat.reduceLT, Nat.reduceAdd, Nat.reduceMul, Nat.reduceSub, Nat.reduceLeDiff, Nat.reduceEqDiff, Int.reduceToNat, Int.reduceLT, Int.reduceLE, Int.reduceAdd, Int.reduceSub, Int.reduceEq, reduceIte, Nat.reduceBNe, Int.reducePow, Nat.reducePow, Int.reduceMul, Int.reduceNeg, isB_i, isB_b, isB_y, isBv_i, isBv_b, eqCells_t, TT]
theorem rcounts_spec (h : RC4 H c r t lr lt nr nt cr ct ar at' c1 c2 c3) : Spec cx.P 49 [.c (.ptr c 0)] H fun s h' => s = .agg [i64 c1, i64 c2, i64 c3] ∧ ∃ x, h' = H ++ [x] := by
  have hc := h.hc
  have ltc := lt_of hc
  have hcx : ∀ x, (H ++ [x])[c]? = some (rcB (.sl r 0 nr cr) (.sl t 0 nt ct) ar at' c1 c2 c3) := fun x => by rw [List.getElem?_append_left ltc, hc]
  have gn : ∀ x, (H ++ [x])[H.length]? = some x := fun x => by rw [List.getElem?_append_right (Nat.le_refl _), Nat.sub_self]; rfl
  have ln : ∀ x : SB, (H ++ [x]).length = H.length + 1 := fun x => by simp
  have ltd : c < H.length + 1 := by omega
  have lte : H.length < H.length + 1 := by omega
  refine spec_of_X cx_ok Try.func49 rfl (by kernel_rfl) (by kernel_rfl) (Nat.le_of_ble_eq_true rfl) 400 3 ?_
  simp (maxSteps := 4000000) only [Try.results49, XX, Nat.reduceBEq, Nat.reduceLT, Nat.reduceAdd, Nat.reduceMul, Nat.reduceSub, Nat.reduceLeDiff, Nat.reduceEqDiff, Int.reduceToNat, Int.reduceLT, Int.reduceLE, Int.reduceAdd, Int.reduceSub, Int.reduceEq, reduceIte, Nat.reduceBNe, Int.reducePow, Nat.reducePow, Int.reduceMul, Int.reduceNeg, isB_i, isB_b, isB_y, isBv_i, isBv_b, eqCells_t, TT]
  simp (maxSteps := 4000000) only [Try.results49, hcx, gn, ln, ltd, lte, gset, Option.map_some, XX, Nat.reduceBEq, Nat.reduceLT, Nat.reduceAdd, Nat.reduceMul, Nat.reduceSub, Nat.reduceLeDiff, Nat.reduceEqDiff, Int.reduceToNat, Int.reduceLT, Int.reduceLE, Int.reduceAdd, Int.reduceSub, Int.reduceEq, reduceIte, Nat.reduceBNe, Int.reducePow, Nat.reducePow, Int.reduceMul, Int.reduceNeg, isB_i, isB_b, isB_y, isBv_i, isBv_b, eqCells_t, TT]
  exact ⟨_, by rw [List.set_append_right _ _ (Nat.le_refl _), Nat.sub_self]; rfl⟩
theorem rarriveF_spec (h : RC4 H c r t lr lt nr nt cr ct ar at' c1 c2 c3) {q : Bool × SC} (hq : lr[ar]? = some q) (hs : q.1 = false) (b sp : List UInt8) (cp : Nat) (h1 : 0 < b.length) (h2 : b.length ≤ 1514) : Spec cx.P 37 [.c (.ptr c 0), .c (roB b sp cp)] H fun s h' => s = .c (bC false) ∧ h' = H.set c (rcB (.sl r 0 nr cr) (.sl t 0 nt ct) ar at' c1 (IntKind.i64.wrap (c2 + 1)) c3) := by
  have hc := h.hc
  have hr := h.hr
  have ltc := lt_of hc
  have ltr := lt_of hr
  have d1 : decide ((b.length : Int) = 0) = false := by simp only [decide_eq_false_iff_not]; omega
  have d2 : decide (1514 < (b.length : Int)) = false := by simp only [decide_eq_false_iff_not]; omega
  have g0 := dsC_0 hq
  rw [hs] at g0
  have nra := h.ar
  have nrl := h.lr
  obtain ⟨ox, mx⟩ : ∃ o, (maskL [c, r] 0 H)[c]? = some ⟨o, 83, [.sl r 0 nr cr, .sl t 0 nt ct, i64 ar, i64 at', i64 c1, i64 c2, i64 c3]⟩ := maskL_at hc
  obtain ⟨oy, my⟩ : ∃ o, (maskL [c, r] 0 H)[r]? = some ⟨o, 85, dsC lr⟩ := maskL_at hr
  have hok := kept_cons hc rfl (kept_cons hr rfl kept_nil)
  have ltx := lt_of mx
  have lty := lt_of my
  refine spec_of_X cx_ok Try.func37 rfl (by kernel_rfl) (by kernel_rfl) (Nat.le_of_ble_eq_true rfl) 400 6 ?_
  simp (maxSteps := 4000000) only [Try.results37, XX, Nat.reduceBEq, Nat.reduceLT, Nat.reduceAdd, Nat.reduceMul, Nat.reduceSub, Nat.reduceLeDiff, Nat.reduceEqDiff, Int.reduceToNat, Int.reduceLT, Int.reduceLE, Int.reduceAdd, Int.reduceSub, Int.reduceEq, reduceIte, Nat.reduceBNe, Int.reducePow, Nat.reducePow, Int.reduceMul, Int.reduceNeg, isB_i, isB_b, isB_y, isBv_i, isBv_b, eqCells_t, TT]
  simp (maxSteps := 4000000) only [Try.results37, d1, d2, XX, Nat.reduceBEq, Nat.reduceLT, Nat.reduceAdd, Nat.reduceMul, Nat.reduceSub, Nat.reduceLeDiff, Nat.reduceEqDiff, Int.reduceToNat, Int.reduceLT, Int.reduceLE, Int.reduceAdd, Int.reduceSub, Int.reduceEq, reduceIte, Nat.reduceBNe, Int.reducePow, Nat.reducePow, Int.reduceMul, Int.reduceNeg, isB_i, isB_b, isB_y, isBv_i, isBv_b, eqCells_t, TT]
  refine draw_of cx_ok (by kernel_rfl) 400 [c, r] [(0, true), (1, true), (2, true), (3, true), (4, true), (5, true), (6, true), (7, true), (8, true), (9, true), (10, true), (11, true)] (by kernel_rfl) (by first | exact hok | simp [*]) ?_
  simp (maxSteps := 4000000) only [Try.results37, hc, hr, ltc, ltr, g0, mx, my, ltx, lty, unL_maskL, XX, Nat.reduceBEq, Nat.reduceLT, Nat.reduceAdd, Nat.reduceMul, Nat.reduceSub, Nat.reduceLeDiff, Nat.reduceEqDiff, Int.reduceToNat, Int.reduceLT, Int.reduceLE, Int.reduceAdd, Int.reduceSub, Int.reduceEq, reduceIte, Nat.reduceBNe, Int.reducePow, Nat.reducePow, Int.reduceMul, Int.reduceNeg, isB_i, isB_b, isB_y, isBv_i, isBv_b, eqCells_t, TT]
  exact ⟨⟨by omega, by omega⟩, by rw [dsC_len]; omega⟩
theorem rarrive_spec (h : RC4 H c r t lr lt nr nt cr ct ar at' c1 c2 c3) {q : Bool × SC} (hq : lr[ar]? = some q) (hs : q.1 = true) (b sp : List UInt8) (cp : Nat) (hcp : b.length ≤ cp) (h1 : 0 < b.length) (h2 : b.length ≤ 1514) : Spec cx.P 37 [.c (.ptr c 0), .c (roB b sp cp)] H fun s h' => ∃ z, s = .c (bC true) ∧ h' = ((H ++ [wB true (b ++ z)]).set r (dB true (lr.set ar (false, slB H.length b z)))).set c (rcB (.sl r 0 nr cr) (.sl t 0 nt ct) ((ar + 1) % nr : Nat) at' (IntKind.i64.wrap (c1 + 1)) c2 c3) := by
  have hc := h.hc
  have hr := h.hr
  have ltc := lt_of hc
  have ltr := lt_of hr
  have d1 : decide ((b.length : Int) = 0) = false := by simp only [decide_eq_false_iff_not]; omega
  have d2 : decide (1514 < (b.length : Int)) = false := by simp only [decide_eq_false_iff_not]; omega
  have g0 := dsC_0 hq
  rw [hs] at g0
  have nra := h.ar
  have nrl := h.lr
  obtain ⟨ox, mx⟩ : ∃ o, (maskL [c, r] 0 H)[c]? = some ⟨o, 83, [.sl r 0 nr cr, .sl t 0 nt ct, i64 ar, i64 at', i64 c1, i64 c2, i64 c3]⟩ := maskL_at hc
  obtain ⟨oy, my⟩ : ∃ o, (maskL [c, r] 0 H)[r]? = some ⟨o, 85, dsC lr⟩ := maskL_at hr
  have hok := kept_cons hc rfl (kept_cons hr rfl kept_nil)
  have ltx := lt_of mx
  have lty := lt_of my
  refine spec_of_X cx_ok Try.func37 rfl (by kernel_rfl) (by kernel_rfl) (Nat.le_of_ble_eq_true rfl) 400 6 ?_
  simp (maxSteps := 4000000) only [Try.results37, XX, Nat.reduceBEq, Nat.reduceLT, Nat.reduceAdd, Nat.reduceMul, Nat.reduceSub, Nat.reduceLeDiff, Nat.reduceEqDiff, Int.reduceToNat, Int.reduceLT, Int.reduceLE, Int.reduceAdd, Int.reduceSub, Int.reduceEq, reduceIte, Nat.reduceBNe, Int.reducePow, Nat.reducePow, Int.reduceMul, Int.reduceNeg, isB_i, isB_b, isB_y, isBv_i, isBv_b, eqCells_t, TT]
  simp (maxSteps := 4000000) only [Try.results37, d1, d2, XX, Nat.reduceBEq, Nat.reduceLT, Nat.reduceAdd, Nat.reduceMul, Nat.reduceSub, Nat.reduceLeDiff, Nat.reduceEqDiff, Int.reduceToNat, Int.reduceLT, Int.reduceLE, Int.reduceAdd, Int.reduceSub, Int.reduceEq, reduceIte, Nat.reduceBNe, Int.reducePow, Nat.reducePow, Int.reduceMul, Int.reduceNeg, isB_i, isB_b, isB_y, isBv_i, isBv_b, eqCells_t, TT]
  refine draw_of cx_ok (by kernel_rfl) 400 [c, r] [(0, true), (1, true), (2, true), (3, true), (4, true), (5, true), (6, true), (7, true), (8, true), (9, true), (10, true), (11, true)] (by kernel_rfl) (by first | exact hok | simp [*]) ?_
  simp (maxSteps := 4000000) only [Try.results37, hc, hr, ltc, ltr, g0, mx, my, ltx, lty, unL_maskL, XX, Nat.reduceBEq, Nat.reduceLT, Nat.reduceAdd, Nat.reduceMul, Nat.reduceSub, Nat.reduceLeDiff, Nat.reduceEqDiff, Int.reduceToNat, Int.reduceLT, Int.reduceLE, Int.reduceAdd, Int.reduceSub, Int.reduceEq, reduceIte, Nat.reduceBNe, Int.reducePow, Nat.reducePow, Int.reduceMul, Int.reduceNeg, isB_i, isB_b, isB_y, isBv_i, isBv_b, eqCells_t, TT]
  refine ⟨⟨by omega, by omega⟩, by rw [dsC_len]; omega, ?_⟩
  refine call_fz [.c (roB b sp cp)] (copied_spec b sp cp hcp (by omega)) (fun t h' h => resS_noRo h) ⟨.inl ⟨rfl, rfl⟩, trivial⟩ ?_
  rintro _ _ ⟨z, o, rfl, rfl, ho⟩
  obtain rfl := ho (by omega)
  simp (maxSteps := 4000000) only [Try.results37, ids_bsC, ren_bsC, noRo_bsC, plain_bsC, lt_bsC, ids_byte, ren_byte, noRo_byte, plain_byte, lt_byte, XX, Nat.reduceBEq, Nat.reduceLT, Nat.reduceAdd, Nat.reduceMul, Nat.reduceSub, Nat.reduceLeDiff, Nat.reduceEqDiff, Int.reduceToNat, Int.reduceLT, Int.reduceLE, Int.reduceAdd, Int.reduceSub, Int.reduceEq, reduceIte, Nat.reduceBNe, Int.reducePow, Nat.reducePow, Int.reduceMul, Int.reduceNeg, isB_i, isB_b, isB_y, isBv_i, isBv_b, eqCells_t, TT]
  have hc1 : (H ++ [wB true (b ++ z)])[c]? = some (rcB (.sl r 0 nr cr) (.sl t 0 nt ct) ar at' c1 c2 c3) := by rw [List.getElem?_append_left ltc, hc]
  have hr1 : (H ++ [wB true (b ++ z)])[r]? = some (dB true lr) := by rw [List.getElem?_append_left ltr, hr]
  generalize hH1 : H ++ [wB true (b ++ z)] = H1 at hc1 hr1 ⊢
  have lc1 := lt_of hc1
  have lr1 := lt_of hr1
  have hle : H.length < H1.length := by rw [← hH1]; simp
  have ds := dsC_set (false, slB H.length b z) hq
  have nn := h.n1
  have md := next_mod h.ar nn.2
  have zn : ((nr : Int) = 0) = False := by simp only [eq_iff_iff, iff_false]; omega
  refine draw2_of cx_ok (by kernel_rfl) 400 [] (.pair [(0, true), (1, true), (2, true), (4, true), (5, true), (6, true), (8, true), (9, true)] 3 7 (.done [(7, false), (10, true), (11, false)]) (.done [(3, false), (10, true), (11, false)])) (by kernel_rfl) rfl ?_
  simp (maxSteps := 4000000) only [Try.results37, PXT_done, PXT_pair, hc1, hr1, lc1, lr1, maskL_nil, unL_nil, ds, XX, Nat.reduceBEq, Nat.reduceLT, Nat.reduceAdd, Nat.reduceMul, Nat.reduceSub, Nat.reduceLeDiff, Nat.reduceEqDiff, Int.reduceToNat, Int.reduceLT, Int.reduceLE, Int.reduceAdd, Int.reduceSub, Int.reduceEq, reduceIte, Nat.reduceBNe, Int.reducePow, Nat.reducePow, Int.reduceMul, Int.reduceNeg, isB_i, isB_b, isB_y, isBv_i, isBv_b, eqCells_t, TT]
  refine ⟨⟨by omega, by omega⟩, by rw [dsC_len]; omega, ?_⟩
  have hc2 : (H1.set r (dB true (lr.set ar (false, slB H.length b z))))[c]? = some (rcB (.sl r 0 nr cr) (.sl t 0 nt ct) ar at' c1 c2 c3) := by rw [List.getElem?_set_ne (Ne.symm h.ne.1)]; exact hc1
  have lc2 := lt_of hc2
  refine draw2_of cx_ok (by kernel_rfl) 400 [] (.pair [(0, true), (1, true), (2, true), (3, true), (6, true), (7, true), (8, true)] 4 9 (.done [(5, true), (9, false), (10, true), (11, true), (12, true), (13, true), (14, false)]) (.done [(10, true), (4, false), (5, true), (11, true), (12, true), (13, true), (14, false)])) (by kernel_rfl) rfl ?_
  simp (maxSteps := 4000000) only [Try.results37, PXT_done, PXT_pair, hc2, lc2, maskL_nil, unL_nil, md, zn, XX, Nat.reduceBEq, Nat.reduceLT, Nat.reduceAdd, Nat.reduceMul, Nat.reduceSub, Nat.reduceLeDiff, Nat.reduceEqDiff, Int.reduceToNat, Int.reduceLT, Int.reduceLE, Int.reduceAdd, Int.reduceSub, Int.reduceEq, reduceIte, Nat.reduceBNe, Int.reducePow, Nat.reducePow, Int.reduceMul, Int.reduceNeg, isB_i, isB_b, isB_y, isBv_i, isBv_b, eqCells_t, TT]
  simp (maxSteps := 4000000) only [Try.results37, gset, hc2, Option.map_some, XX, Nat.reduceBEq, Nat.reduceLT, Nat.reduceAdd, Nat.reduceMul, Nat.reduceSub, Nat.reduceLeDiff, Nat.reduceEqDiff, Int.reduceToNat, Int.reduceLT, Int.reduceLE, Int.reduceAdd, Int.reduceSub, Int.reduceEq, reduceIte, Nat.reduceBNe, Int.reducePow, Nat.reducePow, Int.reduceMul, Int.reduceNeg, isB_i, isB_b, isB_y, isBv_i, isBv_b, eqCells_t, TT]
  rw [List.set_set]
  exact ⟨z, by rw [← hH1]⟩
theorem rarriveB_spec (b sp : List UInt8) (cp : Nat) (hb : b.length = 0 ∨ 1514 < b.length) : Spec cx.P 37 [.c (.ptr c 0), .c (roB b sp cp)] H fun t h' => t = .c (bC false) ∧ h' = H := by
  refine spec_of_X cx_ok Try.func37 rfl (by kernel_rfl) (by kernel_rfl) (Nat.le_of_ble_eq_true rfl) 400 6 ?_
  simp (maxSteps := 4000000) only [Try.results37, XX, Nat.reduceBEq, Nat.reduceLT, Nat.reduceAdd, Nat.reduceMul, Nat.reduceSub, Nat.reduceLeDiff, Nat.reduceEqDiff, Int.reduceToNat, Int.reduceLT, Int.reduceLE, Int.reduceAdd, Int.reduceSub, Int.reduceEq, reduceIte, Nat.reduceBNe, Int.reducePow, Nat.reducePow, Int.reduceMul, Int.reduceNeg, isB_i, isB_b, isB_y, isBv_i, isBv_b, eqCells_t, TT]
  by_cases h0 : b.length = 0
  · have d1 : decide ((b.length : Int) = 0) = true := by simp only [decide_eq_true_eq]; omega
    simp (maxSteps := 4000000) only [Try.results37, d1, XX, Nat.reduceBEq, Nat.reduceLT, Nat.reduceAdd, Nat.reduceMul, Nat.reduceSub, Nat.reduceLeDiff, Nat.reduceEqDiff, Int.reduceToNat, Int.reduceLT, Int.reduceLE, Int.reduceAdd, Int.reduceSub, Int.reduceEq, reduceIte, Nat.reduceBNe, Int.reducePow, Nat.reducePow, Int.reduceMul, Int.reduceNeg, isB_i, isB_b, isB_y, isBv_i, isBv_b, eqCells_t, TT]
  · have d1 : decide ((b.length : Int) = 0) = false := by simp only [decide_eq_false_iff_not]; omega
    have d2 : decide (1514 < (b.length : Int)) = true := by simp only [decide_eq_true_eq]; omega
    simp (maxSteps := 4000000) only [Try.results37, d1, d2, XX, Nat.reduceBEq, Nat.reduceLT, Nat.reduceAdd, Nat.reduceMul, Nat.reduceSub, Nat.reduceLeDiff, Nat.reduceEqDiff, Int.reduceToNat, Int.reduceLT, Int.reduceLE, Int.reduceAdd, Int.reduceSub, Int.reduceEq, reduceIte, Nat.reduceBNe, Int.reducePow, Nat.reducePow, Int.reduceMul, Int.reduceNeg, isB_i, isB_b, isB_y, isBv_i, isBv_b, eqCells_t, TT]
theorem rdepartN_spec (h : RC4 H c r t lr lt nr nt cr ct ar at' c1 c2 c3) {q : Bool × SC} (hq : lt[at']? = some q) (hs : q.1 = false) : Spec cx.P 38 [.c (.ptr c 0)] H fun s h' => s = .tup [(false, [.v (.slice none 0 0)]), (false, [bC false])] ∧ h' = H := by
  have hc := h.hc
  have hr := h.ht
  have ltc := lt_of hc
  have ltr := lt_of hr
  have g0 := dsC_0 hq
  rw [hs] at g0
  have nra := h.at'
  have nrl := h.lt
  obtain ⟨ox, mx⟩ : ∃ o, (maskL [c, t] 0 H)[c]? = some ⟨o, 83, [.sl r 0 nr cr, .sl t 0 nt ct, i64 ar, i64 at', i64 c1, i64 c2, i64 c3]⟩ := maskL_at hc
  obtain ⟨oy, my⟩ : ∃ o, (maskL [c, t] 0 H)[t]? = some ⟨o, 85, dsC lt⟩ := maskL_at hr
  have hok := kept_cons hc rfl (kept_cons hr rfl kept_nil)
  have ltx := lt_of mx
  have lty := lt_of my
  refine spec_of_X cx_ok Try.func38 rfl (by kernel_rfl) (by kernel_rfl) (Nat.le_of_ble_eq_true rfl) 400 5 ?_
  simp (maxSteps := 4000000) only [Try.results38, XX, Nat.reduceBEq, Nat.reduceLT, Nat.reduceAdd, Nat.reduceMul, Nat.reduceSub, Nat.reduceLeDiff, Nat.reduceEqDiff, Int.reduceToNat, Int.reduceLT, Int.reduceLE, Int.reduceAdd, Int.reduceSub, Int.reduceEq, reduceIte, Nat.reduceBNe, Int.reducePow, Nat.reducePow, Int.reduceMul, Int.reduceNeg, isB_i, isB_b, isB_y, isBv_i, isBv_b, eqCells_t, TT]
  refine draw_of cx_ok (by kernel_rfl) 400 [c, t] [(0, true), (1, true), (2, true), (3, true), (4, true), (5, true), (6, true), (7, true), (8, true), (9, true), (10, true), (11, true)] (by kernel_rfl) (by first | exact hok | simp [*]) ?_
  simp (maxSteps := 4000000) only [Try.results38, hc, hr, ltc, ltr, g0, mx, my, ltx, lty, unL_maskL, XX, Nat.reduceBEq, Nat.reduceLT, Nat.reduceAdd, Nat.reduceMul, Nat.reduceSub, Nat.reduceLeDiff, Nat.reduceEqDiff, Int.reduceToNat, Int.reduceLT, Int.reduceLE, Int.reduceAdd, Int.reduceSub, Int.reduceEq, reduceIte, Nat.reduceBNe, Int.reducePow, Nat.reducePow, Int.reduceMul, Int.reduceNeg, isB_i, isB_b, isB_y, isBv_i, isBv_b, eqCells_t, TT]
  exact ⟨⟨by omega, by omega⟩, by rw [dsC_len]; omega⟩
theorem rdepart_spec (h : RC4 H c r t lr lt nr nt cr ct ar at' c1 c2 c3) {q : Bool × SC} (hq : lt[at']? = some q) (hs : q.1 = true) : Spec cx.P 38 [.c (.ptr c 0)] H fun s h' => s = .tup [(false, [q.2]), (false, [bC true])] ∧ h' = (H.set t (dB true (lt.set at' zD))).set c (rcB (.sl r 0 nr cr) (.sl t 0 nt ct) ar ((at' + 1) % nt : Nat) c1 c2 (IntKind.i64.wrap (c3 + 1))) := by
  have hc := h.hc
  have hr := h.ht
  have ltc := lt_of hc
  have ltr := lt_of hr
  have g0 := dsC_0 hq
  have g1 := dsC_1 hq
  rw [hs] at g0
  have nra := h.at'
  have nrl := h.lt
  have nn := h.n2
  have md := next_mod h.at' nn.2
  have zn : ((nt : Int) = 0) = False := by simp only [eq_iff_iff, iff_false]; omega
  have ds := dsC_set zD hq
  obtain ⟨ox, mx⟩ : ∃ o, (maskL [c, t] 0 H)[c]? = some ⟨o, 83, [.sl r 0 nr cr, .sl t 0 nt ct, i64 ar, i64 at', i64 c1, i64 c2, i64 c3]⟩ := maskL_at hc
  obtain ⟨oy, my⟩ : ∃ o, (maskL [c, t] 0 H)[t]? = some ⟨o, 85, dsC lt⟩ := maskL_at hr
  have hok := kept_cons hc rfl (kept_cons hr rfl kept_nil)
  have ltx := lt_of mx
  have lty := lt_of my
  have hc2 : (H.set t (dB true (lt.set at' zD)))[c]? = some (rcB (.sl r 0 nr cr) (.sl t 0 nt ct) ar at' c1 c2 c3) := by rw [List.getElem?_set_ne (Ne.symm h.ne.2.1)]; exact hc
  have lc2 := lt_of hc2
  refine spec_of_X cx_ok Try.func38 rfl (by kernel_rfl) (by kernel_rfl) (Nat.le_of_ble_eq_true rfl) 400 5 ?_
  simp (maxSteps := 4000000) only [Try.results38, XX, Nat.reduceBEq, Nat.reduceLT, Nat.reduceAdd, Nat.reduceMul, Nat.reduceSub, Nat.reduceLeDiff, Nat.reduceEqDiff, Int.reduceToNat, Int.reduceLT, Int.reduceLE, Int.reduceAdd, Int.reduceSub, Int.reduceEq, reduceIte, Nat.reduceBNe, Int.reducePow, Nat.reducePow, Int.reduceMul, Int.reduceNeg, isB_i, isB_b, isB_y, isBv_i, isBv_b, eqCells_t, TT]
  refine draw_of cx_ok (by kernel_rfl) 400 [c, t] [(0, true), (1, true), (2, true), (3, true), (4, true), (5, true), (6, true), (7, true), (8, true), (9, true), (10, true), (11, true)] (by kernel_rfl) (by first | exact hok | simp [*]) ?_
  simp (maxSteps := 4000000) only [Try.results38, hc, hr, ltc, ltr, g0, mx, my, ltx, lty, unL_maskL, XX, Nat.reduceBEq, Nat.reduceLT, Nat.reduceAdd, Nat.reduceMul, Nat.reduceSub, Nat.reduceLeDiff, Nat.reduceEqDiff, Int.reduceToNat, Int.reduceLT, Int.reduceLE, Int.reduceAdd, Int.reduceSub, Int.reduceEq, reduceIte, Nat.reduceBNe, Int.reducePow, Nat.reducePow, Int.reduceMul, Int.reduceNeg, isB_i, isB_b, isB_y, isBv_i, isBv_b, eqCells_t, TT]
  refine ⟨⟨by omega, by omega⟩, by rw [dsC_len]; omega, ?_⟩
  refine draw_of cx_ok (by kernel_rfl) 400 [c, t] [(0, true), (1, true), (2, true), (3, true), (4, true), (5, true), (6, true), (7, true), (8, true), (9, true), (10, true), (11, true)] (by kernel_rfl) (by first | exact hok | simp [*]) ?_
  simp (maxSteps := 4000000) only [Try.results38, hc, hr, ltc, ltr, g0, g1, mx, my, ltx, lty, unL_maskL, XX, Nat.reduceBEq, Nat.reduceLT, Nat.reduceAdd, Nat.reduceMul, Nat.reduceSub, Nat.reduceLeDiff, Nat.reduceEqDiff, Int.reduceToNat, Int.reduceLT, Int.reduceLE, Int.reduceAdd, Int.reduceSub, Int.reduceEq, reduceIte, Nat.reduceBNe, Int.reducePow, Nat.reducePow, Int.reduceMul, Int.reduceNeg, isB_i, isB_b, isB_y, isBv_i, isBv_b, eqCells_t, TT]
  refine ⟨⟨by omega, by omega⟩, by rw [dsC_len]; omega, ?_⟩
  have ds : (dsC lt).take (at' * 2) ++ [SC.v (.bool false), SC.v (.slice none 0 0)] ++ (dsC lt).drop (at' * 2 + 2) = dsC (lt.set at' zD) := ds
  refine draw2_of cx_ok (by kernel_rfl) 400 [] (.pair [(0, true), (1, true), (2, true), (4, true), (5, true), (6, true), (8, true)] 3 7 (.done [(7, false), (9, true), (10, false)]) (.done [(3, false), (9, true), (10, false)])) (by kernel_rfl) rfl ?_
  simp (maxSteps := 4000000) only [Try.results38, PXT_done, PXT_pair, hc, hr, ltc, ltr, maskL_nil, unL_nil, ds, XX, Nat.reduceBEq, Nat.reduceLT, Nat.reduceAdd, Nat.reduceMul, Nat.reduceSub, Nat.reduceLeDiff, Nat.reduceEqDiff, Int.reduceToNat, Int.reduceLT, Int.reduceLE, Int.reduceAdd, Int.reduceSub, Int.reduceEq, reduceIte, Nat.reduceBNe, Int.reducePow, Nat.reducePow, Int.reduceMul, Int.reduceNeg, isB_i, isB_b, isB_y, isBv_i, isBv_b, eqCells_t, TT]
  refine ⟨⟨by omega, by omega⟩, by rw [dsC_len]; omega, ?_⟩
  refine draw2_of cx_ok (by kernel_rfl) 400 [] (.pair [(0, true), (1, true), (2, true), (3, true), (6, true), (7, true), (8, true)] 4 9 (.done [(5, true), (9, false), (10, true), (11, true), (12, true), (13, true), (14, false)]) (.done [(10, true), (4, false), (5, true), (11, true), (12, true), (13, true), (14, false)])) (by kernel_rfl) rfl ?_
  simp (maxSteps := 4000000) only [Try.results38, PXT_done, PXT_pair, hc2, lc2, maskL_nil, unL_nil, md, zn, XX, Nat.reduceBEq, Nat.reduceLT, Nat.reduceAdd, Nat.reduceMul, Nat.reduceSub, Nat.reduceLeDiff, Nat.reduceEqDiff, Int.reduceToNat, Int.reduceLT, Int.reduceLE, Int.reduceAdd, Int.reduceSub, Int.reduceEq, reduceIte, Nat.reduceBNe, Int.reducePow, Nat.reducePow, Int.reduceMul, Int.reduceNeg, isB_i, isB_b, isB_y, isBv_i, isBv_b, eqCells_t, TT]
  simp (maxSteps := 4000000) only [Try.results38, gset, hc2, Option.map_some, XX, Nat.reduceBEq, Nat.reduceLT, Nat.reduceAdd, Nat.reduceMul, Nat.reduceSub, Nat.reduceLeDiff, Nat.reduceEqDiff, Int.reduceToNat, Int.reduceLT, Int.reduceLE, Int.reduceAdd, Int.reduceSub, Int.reduceEq, reduceIte, Nat.reduceBNe, Int.reducePow, Nat.reducePow, Int.reduceMul, Int.reduceNeg, isB_i, isB_b, isB_y, isBv_i, isBv_b, eqCells_t, TT]
  rw [List.set_set]
theorem rgiveN_spec (h : RC4 H c r t lr lt nr nt cr ct ar at' c1 c2 c3) (i : Int) (hi : i < 0 ∨ (nr : Int) ≤ i) : Spec cx.P 59 [.c (.ptr c 0), .c (i64 i)] H fun s h' => s = .c (i64 40) ∧ h' = H := by
  have hc := h.hc
  have ltc := lt_of hc
  refine spec_of_X cx_ok Try.func59 rfl (by kernel_rfl) (by kernel_rfl) (Nat.le_of_ble_eq_true rfl) 400 5 ?_
  simp (maxSteps := 4000000) only [Try.results59, XX, Nat.reduceBEq, Nat.reduceLT, Nat.reduceAdd, Nat.reduceMul, Nat.reduceSub, Nat.reduceLeDiff, Nat.reduceEqDiff, Int.reduceToNat, Int.reduceLT, Int.reduceLE, Int.reduceAdd, Int.reduceSub, Int.reduceEq, reduceIte, Nat.reduceBNe, Int.reducePow, Nat.reducePow, Int.reduceMul, Int.reduceNeg, isB_i, isB_b, isB_y, isBv_i, isBv_b, eqCells_t, TT]
  cases d1 : decide (i < 0)
  · have d2 : decide ((nr : Int) ≤ i) = true := by simp only [decide_eq_false_iff_not] at d1; simp only [decide_eq_true_eq]; omega
    simp (maxSteps := 4000000) only [Try.results59, hc, ltc, d1, d2, XX, Nat.reduceBEq, Nat.reduceLT, Nat.reduceAdd, Nat.reduceMul, Nat.reduceSub, Nat.reduceLeDiff, Nat.reduceEqDiff, Int.reduceToNat, Int.reduceLT, Int.reduceLE, Int.reduceAdd, Int.reduceSub, Int.reduceEq, reduceIte, Nat.reduceBNe, Int.reducePow, Nat.reducePow, Int.reduceMul, Int.reduceNeg, isB_i, isB_b, isB_y, isBv_i, isBv_b, eqCells_t, TT]
  · simp (maxSteps := 4000000) only [Try.results59, hc, ltc, d1, XX, Nat.reduceBEq, Nat.reduceLT, Nat.reduceAdd, Nat.reduceMul, Nat.reduceSub, Nat.reduceLeDiff, Nat.reduceEqDiff, Int.reduceToNat, Int.reduceLT, Int.reduceLE, Int.reduceAdd, Int.reduceSub, Int.reduceEq, reduceIte, Nat.reduceBNe, Int.reducePow, Nat.reducePow, Int.reduceMul, Int.reduceNeg, isB_i, isB_b, isB_y, isBv_i, isBv_b, eqCells_t, TT]
theorem rgiveO_spec (h : RC4 H c r t lr lt nr nt cr ct ar at' c1 c2 c3) (i : Nat) (hi : i < nr) {q : Bool × SC} (hq : lr[i]? = some q) (hs : q.1 = true) : Spec cx.P 59 [.c (.ptr c 0), .c (i64 i)] H fun s h' => s = .c (i64 41) ∧ h' = H := by
  have hc := h.hc
  have hr := h.hr
  have ltc := lt_of hc
  have ltr := lt_of hr
  have g0 := dsC_0 hq
  rw [hs] at g0
  have nrl := h.lr
  have d1 : decide ((i : Int) < 0) = false := by simp only [decide_eq_false_iff_not]; omega
  have d2 : decide ((nr : Int) ≤ (i : Int)) = false := by simp only [decide_eq_false_iff_not]; omega
  refine spec_of_X cx_ok Try.func59 rfl (by kernel_rfl) (by kernel_rfl) (Nat.le_of_ble_eq_true rfl) 400 5 ?_
  simp (maxSteps := 4000000) only [Try.results59, XX, Nat.reduceBEq, Nat.reduceLT, Nat.reduceAdd, Nat.reduceMul, Nat.reduceSub, Nat.reduceLeDiff, Nat.reduceEqDiff, Int.reduceToNat, Int.reduceLT, Int.reduceLE, Int.reduceAdd, Int.reduceSub, Int.reduceEq, reduceIte, Nat.reduceBNe, Int.reducePow, Nat.reducePow, Int.reduceMul, Int.reduceNeg, isB_i, isB_b, isB_y, isBv_i, isBv_b, eqCells_t, TT]
  simp (maxSteps := 4000000) only [Try.results59, hc, hr, ltc, ltr, d1, d2, g0, XX, Nat.reduceBEq, Nat.reduceLT, Nat.reduceAdd, Nat.reduceMul, Nat.reduceSub, Nat.reduceLeDiff, Nat.reduceEqDiff, Int.reduceToNat, Int.reduceLT, Int.reduceLE, Int.reduceAdd, Int.reduceSub, Int.reduceEq, reduceIte, Nat.reduceBNe, Int.reducePow, Nat.reducePow, Int.reduceMul, Int.reduceNeg, isB_i, isB_b, isB_y, isBv_i, isBv_b, eqCells_t, TT]
  exact ⟨⟨by omega, by omega⟩, by rw [dsC_len]; omega⟩
theorem rgive_spec (h : RC4 H c r t lr lt nr nt cr ct ar at' c1 c2 c3) (i : Nat) (hi : i < nr) {q : Bool × SC} (hq : lr[i]? = some q) (hs : q.1 = false) : Spec cx.P 59 [.c (.ptr c 0), .c (i64 i)] H fun s h' => s = .c (i64 0) ∧ h' = H.set r (dB true (lr.set i (true, .v (.slice none 0 0)))) := by
  have hc := h.hc
  have hr := h.hr
  have ltc := lt_of hc
  have ltr := lt_of hr
  have g0 := dsC_0 hq
  rw [hs] at g0
  have nrl := h.lr
  have ds := dsC_set (true, .v (.slice none 0 0)) hq
  have d1 : decide ((i : Int) < 0) = false := by simp only [decide_eq_false_iff_not]; omega
  have d2 : decide ((nr : Int) ≤ (i : Int)) = false := by simp only [decide_eq_false_iff_not]; omega
  refine spec_of_X cx_ok Try.func59 rfl (by kernel_rfl) (by kernel_rfl) (Nat.le_of_ble_eq_true rfl) 400 5 ?_
  simp (maxSteps := 4000000) only [Try.results59, XX, Nat.reduceBEq, Nat.reduceLT, Nat.reduceAdd, Nat.reduceMul, Nat.reduceSub, Nat.reduceLeDiff, Nat.reduceEqDiff, Int.reduceToNat, Int.reduceLT, Int.reduceLE, Int.reduceAdd, Int.reduceSub, Int.reduceEq, reduceIte, Nat.reduceBNe, Int.reducePow, Nat.reducePow, Int.reduceMul, Int.reduceNeg, isB_i, isB_b, isB_y, isBv_i, isBv_b, eqCells_t, TT]
  simp (maxSteps := 4000000) only [Try.results59, hc, hr, ltc, ltr, d1, d2, g0, ds, XX, Nat.reduceBEq, Nat.reduceLT, Nat.reduceAdd, Nat.reduceMul, Nat.reduceSub, Nat.reduceLeDiff, Nat.reduceEqDiff, Int.reduceToNat, Int.reduceLT, Int.reduceLE, Int.reduceAdd, Int.reduceSub, Int.reduceEq, reduceIte, Nat.reduceBNe, Int.reducePow, Nat.reducePow, Int.reduceMul, Int.reduceNeg, isB_i, isB_b, isB_y, isBv_i, isBv_b, eqCells_t, TT]
  exact ⟨⟨by omega, by omega⟩, by rw [dsC_len]; omega, ⟨by omega, by omega⟩, by rw [dsC_len]; omega⟩
theorem rrxN_spec (h : RC4 H c r t lr lt nr nt cr ct ar at' c1 c2 c3) (i : Int) (hi : i < 0 ∨ (nr : Int) ≤ i) : Spec cx.P 44 [.c (.ptr c 0), .c (i64 i)] H fun s h' => s = .tup [(true, [bC false, .v (.slice none 0 0)]), (false, [i64 40])] ∧ ∃ x, h' = H ++ [x] := by
  have hc := h.hc
  have ltc := lt_of hc
  have hcx : ∀ x, (H ++ [x])[c]? = some (rcB (.sl r 0 nr cr) (.sl t 0 nt ct) ar at' c1 c2 c3) := fun x => by rw [List.getElem?_append_left ltc, hc]
  have gn : ∀ x, (H ++ [x])[H.length]? = some x := fun x => by rw [List.getElem?_append_right (Nat.le_refl _), Nat.sub_self]; rfl
  have ltd : c < H.length + 1 := by omega
  have lte : H.length < H.length + 1 := by omega
  refine spec_of_X cx_ok Try.func44 rfl (by kernel_rfl) (by kernel_rfl) (Nat.le_of_ble_eq_true rfl) 400 7 ?_
  simp (maxSteps := 4000000) only [Try.results44, XX, Nat.reduceBEq, Nat.reduceLT, Nat.reduceAdd, Nat.reduceMul, Nat.reduceSub, Nat.reduceLeDiff, Nat.reduceEqDiff, Int.reduceToNat, Int.reduceLT, Int.reduceLE, Int.reduceAdd, Int.reduceSub, Int.reduceEq, reduceIte, Nat.reduceBNe, Int.reducePow, Nat.reducePow, Int.reduceMul, Int.reduceNeg, isB_i, isB_b, isB_y, isBv_i, isBv_b, eqCells_t, TT]
  cases d1 : decide (i < 0)
  · have d2 : decide ((nr : Int) ≤ i) = true := by simp only [decide_eq_false_iff_not] at d1; simp only [decide_eq_true_eq]; omega
    simp (maxSteps := 4000000) only [Try.results44, hcx, ltd, lte, gn, d1, d2, gset, Option.map_some, XX, Nat.reduceBEq, Nat.reduceLT, Nat.reduceAdd, Nat.reduceMul, Nat.reduceSub, Nat.reduceLeDiff, Nat.reduceEqDiff, Int.reduceToNat, Int.reduceLT, Int.reduceLE, Int.reduceAdd, Int.reduceSub, Int.reduceEq, reduceIte, Nat.reduceBNe, Int.reducePow, Nat.reducePow, Int.reduceMul, Int.reduceNeg, isB_i, isB_b, isB_y, isBv_i, isBv_b, eqCells_t, TT]
    exact ⟨_, by rw [List.set_append_right _ _ (Nat.le_refl _), Nat.sub_self]; rfl⟩
  · simp (maxSteps := 4000000) only [Try.results44, hcx, ltd, lte, gn, d1, gset, Option.map_some, XX, Nat.reduceBEq, Nat.reduceLT, Nat.reduceAdd, Nat.reduceMul, Nat.reduceSub, Nat.reduceLeDiff, Nat.reduceEqDiff, Int.reduceToNat, Int.reduceLT, Int.reduceLE, Int.reduceAdd, Int.reduceSub, Int.reduceEq, reduceIte, Nat.reduceBNe, Int.reducePow, Nat.reducePow, Int.reduceMul, Int.reduceNeg, isB_i, isB_b, isB_y, isBv_i, isBv_b, eqCells_t, TT]
    exact ⟨_, by rw [List.set_append_right _ _ (Nat.le_refl _), Nat.sub_self]; rfl⟩
theorem rrx_spec (h : RC4 H c r t lr lt nr nt cr ct ar at' c1 c2 c3) (i : Nat) (hi : i < nr) {q : Bool × SC} (hq : lr[i]? = some q) {d : List UInt8} {S : Nat → Prop} (hx : DX S H q.2 d) (hd : d.length ≤ 1514) : Spec cx.P 44 [.c (.ptr c 0), .c (i64 i)] H fun s h' => ∃ x z o, s = .tup [(true, [bC q.1, slB (H.length + 1) d z]), (false, [i64 0])] ∧ h' = H ++ [x, wB o (d ++ z)] ∧ (0 < d.length + z.length → o = true) := by
  have hc := h.hc
  have hr := h.hr
  have ltc := lt_of hc
  have ltr := lt_of hr
  have g0 := dsC_0 hq
  have g1 := dsC_1 hq
  have nrl := h.lr
  have d1 : decide ((i : Int) < 0) = false := by simp only [decide_eq_false_iff_not]; omega
  have d2 : decide ((nr : Int) ≤ (i : Int)) = false := by simp only [decide_eq_false_iff_not]; omega
  have hcx : ∀ X, (H ++ X)[c]? = some (rcB (.sl r 0 nr cr) (.sl t 0 nt ct) ar at' c1 c2 c3) := fun x => by rw [List.getElem?_append_left ltc, hc]
  have hrx : ∀ X, (H ++ X)[r]? = some (dB true lr) := fun x => by rw [List.getElem?_append_left ltr, hr]
  have gn : ∀ x, (H ++ [x])[H.length]? = some x := fun x => by rw [List.getElem?_append_right (Nat.le_refl _), Nat.sub_self]; rfl
  have ltd : c < H.length + 1 := by omega
  have lte : H.length < H.length + 1 := by omega
  have ltf : r < H.length + 1 := by omega
  refine spec_of_X cx_ok Try.func44 rfl (by kernel_rfl) (by kernel_rfl) (Nat.le_of_ble_eq_true rfl) 400 7 ?_
  simp (maxSteps := 4000000) only [Try.results44, XX, Nat.reduceBEq, Nat.reduceLT, Nat.reduceAdd, Nat.reduceMul, Nat.reduceSub, Nat.reduceLeDiff, Nat.reduceEqDiff, Int.reduceToNat, Int.reduceLT, Int.reduceLE, Int.reduceAdd, Int.reduceSub, Int.reduceEq, reduceIte, Nat.reduceBNe, Int.reducePow, Nat.reducePow, Int.reduceMul, Int.reduceNeg, isB_i, isB_b, isB_y, isBv_i, isBv_b, eqCells_t, TT]
  simp (maxSteps := 4000000) only [Try.results44, hcx, hrx, ltd, lte, ltf, gn, d1, d2, g0, g1, gset, Option.map_some, XX, Nat.reduceBEq, Nat.reduceLT, Nat.reduceAdd, Nat.reduceMul, Nat.reduceSub, Nat.reduceLeDiff, Nat.reduceEqDiff, Int.reduceToNat, Int.reduceLT, Int.reduceLE, Int.reduceAdd, Int.reduceSub, Int.reduceEq, reduceIte, Nat.reduceBNe, Int.reducePow, Nat.reducePow, Int.reduceMul, Int.reduceNeg, isB_i, isB_b, isB_y, isBv_i, isBv_b, eqCells_t, TT]
  refine ⟨⟨by omega, by omega⟩, by rw [dsC_len]; omega, ?_⟩
  obtain ⟨sp, cp, hcp, hf⟩ := (hx.app [⟨true, 85, [.v (.bool false), .v (.slice none 0 0)]⟩]).fz (r := renF [] (H.length + 1)) (n := 0)
  have hlen : (H ++ [(⟨true, 85, [.v (.bool false), .v (.slice none 0 0)]⟩ : SB)]).length = H.length + 1 := by simp
  refine call_fz [.c (roB d sp cp)] (copied_spec d sp cp hcp (by omega)) (fun t h' h => resS_noRo h) ⟨fz_c (by rw [hlen]; exact hf), trivial⟩ ?_
  rintro _ _ ⟨z, o, rfl, rfl, ho⟩
  rw [hlen]
  have hcx2 : ∀ X Y, (H ++ X ++ Y)[c]? = some (rcB (.sl r 0 nr cr) (.sl t 0 nt ct) ar at' c1 c2 c3) := fun X Y => by rw [List.append_assoc]; exact hcx _
  have hrx2 : ∀ X Y, (H ++ X ++ Y)[r]? = some (dB true lr) := fun X Y => by rw [List.append_assoc]; exact hrx _
  have gn2 : ∀ x Y, (H ++ [x] ++ Y)[H.length]? = some x := fun x Y => by rw [List.append_assoc, List.getElem?_append_right (Nat.le_refl _), Nat.sub_self]; rfl
  simp (maxSteps := 4000000) only [Try.results44, ids_bsC, ren_bsC, noRo_bsC, plain_bsC, lt_bsC, ids_byte, ren_byte, noRo_byte, plain_byte, lt_byte, hcx2, hrx2, gn2, g0, g1, ltd, ltf, lte, gset, Option.map_some, XX, Nat.reduceBEq, Nat.reduceLT, Nat.reduceAdd, Nat.reduceMul, Nat.reduceSub, Nat.reduceLeDiff, Nat.reduceEqDiff, Int.reduceToNat, Int.reduceLT, Int.reduceLE, Int.reduceAdd, Int.reduceSub, Int.reduceEq, reduceIte, Nat.reduceBNe, Int.reducePow, Nat.reducePow, Int.reduceMul, Int.reduceNeg, isB_i, isB_b, isB_y, isBv_i, isBv_b, eqCells_t, TT]
  refine ⟨⟨by omega, by omega⟩, by rw [dsC_len]; omega, ⟨true, 85, [bC q.1, slB (H.length + 1) d z]⟩, z, o, rfl, ?_, ho⟩
  rw [List.append_assoc, List.set_append_right _ _ (Nat.le_refl _), Nat.sub_self]
  rfl
theorem rtxN_spec (h : RC4 H c r t lr lt nr nt cr ct ar at' c1 c2 c3) (i : Int) (hi : i < 0 ∨ (nt : Int) ≤ i) : Spec cx.P 46 [.c (.ptr c 0), .c (i64 i)] H fun s h' => s = .tup [(true, [bC false, .v (.slice none 0 0)]), (false, [i64 40])] ∧ ∃ x, h' = H ++ [x] := by
  have hc := h.hc
  have ltc := lt_of hc
  have hcx : ∀ x, (H ++ [x])[c]? = some (rcB (.sl r 0 nr cr) (.sl t 0 nt ct) ar at' c1 c2 c3) := fun x => by rw [List.getElem?_append_left ltc, hc]
  have gn : ∀ x, (H ++ [x])[H.length]? = some x := fun x => by rw [List.getElem?_append_right (Nat.le_refl _), Nat.sub_self]; rfl
  have ltd : c < H.length + 1 := by omega
  have lte : H.length < H.length + 1 := by omega
  refine spec_of_X cx_ok Try.func46 rfl (by kernel_rfl) (by kernel_rfl) (Nat.le_of_ble_eq_true rfl) 400 7 ?_
  simp (maxSteps := 4000000) only [Try.results46, XX, Nat.reduceBEq, Nat.reduceLT, Nat.reduceAdd, Nat.reduceMul, Nat.reduceSub, Nat.reduceLeDiff, Nat.reduceEqDiff, Int.reduceToNat, Int.reduceLT, Int.reduceLE, Int.reduceAdd, Int.reduceSub, Int.reduceEq, reduceIte, Nat.reduceBNe, Int.reducePow, Nat.reducePow, Int.reduceMul, Int.reduceNeg, isB_i, isB_b, isB_y, isBv_i, isBv_b, eqCells_t, TT]
  cases d1 : decide (i < 0)
  · have d2 : decide ((nt : Int) ≤ i) = true := by simp only [decide_eq_false_iff_not] at d1; simp only [decide_eq_true_eq]; omega
    simp (maxSteps := 4000000) only [Try.results46, hcx, ltd, lte, gn, d1, d2, gset, Option.map_some, XX, Nat.reduceBEq, Nat.reduceLT, Nat.reduceAdd, Nat.reduceMul, Nat.reduceSub, Nat.reduceLeDiff, Nat.reduceEqDiff, Int.reduceToNat, Int.reduceLT, Int.reduceLE, Int.reduceAdd, Int.reduceSub, Int.reduceEq, reduceIte, Nat.reduceBNe, Int.reducePow, Nat.reducePow, Int.reduceMul, Int.reduceNeg, isB_i, isB_b, isB_y, isBv_i, isBv_b, eqCells_t, TT]
    exact ⟨_, by rw [List.set_append_right _ _ (Nat.le_refl _), Nat.sub_self]; rfl⟩
  · simp (maxSteps := 4000000) only [Try.results46, hcx, ltd, lte, gn, d1, gset, Option.map_some, XX, Nat.reduceBEq, Nat.reduceLT, Nat.reduceAdd, Nat.reduceMul, Nat.reduceSub, Nat.reduceLeDiff, Nat.reduceEqDiff, Int.reduceToNat, Int.reduceLT, Int.reduceLE, Int.reduceAdd, Int.reduceSub, Int.reduceEq, reduceIte, Nat.reduceBNe, Int.reducePow, Nat.reducePow, Int.reduceMul, Int.reduceNeg, isB_i, isB_b, isB_y, isBv_i, isBv_b, eqCells_t, TT]
    exact ⟨_, by rw [List.set_append_right _ _ (Nat.le_refl _), Nat.sub_self]; rfl⟩
theorem rtx_spec (h : RC4 H c r t lr lt nr nt cr ct ar at' c1 c2 c3) (i : Nat) (hi : i < nt) {q : Bool × SC} (hq : lt[i]? = some q) {d : List UInt8} {S : Nat → Prop} (hx : DX S H q.2 d) (hd : d.length ≤ 1514) : Spec cx.P 46 [.c (.ptr c 0), .c (i64 i)] H fun s h' => ∃ x z o, s = .tup [(true, [bC q.1, slB (H.length + 1) d z]), (false, [i64 0])] ∧ h' = H ++ [x, wB o (d ++ z)] ∧ (0 < d.length + z.length → o = true) := by
  have hc := h.hc
  have hr := h.ht
  have ltc := lt_of hc
  have ltr := lt_of hr
  have g0 := dsC_0 hq
  have g1 := dsC_1 hq
  have nrl := h.lt
  have d1 : decide ((i : Int) < 0) = false := by simp only [decide_eq_false_iff_not]; omega
  have d2 : decide ((nt : Int) ≤ (i : Int)) = false := by simp only [decide_eq_false_iff_not]; omega
  have hcx : ∀ X, (H ++ X)[c]? = some (rcB (.sl r 0 nr cr) (.sl t 0 nt ct) ar at' c1 c2 c3) := fun x => by rw [List.getElem?_append_left ltc, hc]
  have hrx : ∀ X, (H ++ X)[t]? = some (dB true lt) := fun x => by rw [List.getElem?_append_left ltr, hr]
  have gn : ∀ x, (H ++ [x])[H.length]? = some x := fun x => by rw [List.getElem?_append_right (Nat.le_refl _), Nat.sub_self]; rfl
  have ltd : c < H.length + 1 := by omega
  have lte : H.length < H.length + 1 := by omega
  have ltf : t < H.length + 1 := by omega
  refine spec_of_X cx_ok Try.func46 rfl (by kernel_rfl) (by kernel_rfl) (Nat.le_of_ble_eq_true rfl) 400 7 ?_
  simp (maxSteps := 4000000) only [Try.results46, XX, Nat.reduceBEq, Nat.reduceLT, Nat.reduceAdd, Nat.reduceMul, Nat.reduceSub, Nat.reduceLeDiff, Nat.reduceEqDiff, Int.reduceToNat, Int.reduceLT, Int.reduceLE, Int.reduceAdd, Int.reduceSub, Int.reduceEq, reduceIte, Nat.reduceBNe, Int.reducePow, Nat.reducePow, Int.reduceMul, Int.reduceNeg, isB_i, isB_b, isB_y, isBv_i, isBv_b, eqCells_t, TT]
  simp (maxSteps := 4000000) only [Try.results46, hcx, hrx, ltd, lte, ltf, gn, d1, d2, g0, g1, gset, Option.map_some, XX, Nat.reduceBEq, Nat.reduceLT, Nat.reduceAdd, Nat.reduceMul, Nat.reduceSub, Nat.reduceLeDiff, Nat.reduceEqDiff, Int.reduceToNat, Int.reduceLT, Int.reduceLE, Int.reduceAdd, Int.reduceSub, Int.reduceEq, reduceIte, Nat.reduceBNe, Int.reducePow, Nat.reducePow, Int.reduceMul, Int.reduceNeg, isB_i, isB_b, isB_y, isBv_i, isBv_b, eqCells_t, TT]
  refine ⟨⟨by omega, by omega⟩, by rw [dsC_len]; omega, ?_⟩
  obtain ⟨sp, cp, hcp, hf⟩ := (hx.app [⟨true, 85, [.v (.bool false), .v (.slice none 0 0)]⟩]).fz (r := renF [] (H.length + 1)) (n := 0)
  have hlen : (H ++ [(⟨true, 85, [.v (.bool false), .v (.slice none 0 0)]⟩ : SB)]).length = H.length + 1 := by simp
  refine call_fz [.c (roB d sp cp)] (copied_spec d sp cp hcp (by omega)) (fun t h' h => resS_noRo h) ⟨fz_c (by rw [hlen]; exact hf), trivial⟩ ?_
  rintro _ _ ⟨z, o, rfl, rfl, ho⟩
  rw [hlen]
  have hcx2 : ∀ X Y, (H ++ X ++ Y)[c]? = some (rcB (.sl r 0 nr cr) (.sl t 0 nt ct) ar at' c1 c2 c3) := fun X Y => by rw [List.append_assoc]; exact hcx _
  have hrx2 : ∀ X Y, (H ++ X ++ Y)[t]? = some (dB true lt) := fun X Y => by rw [List.append_assoc]; exact hrx _
  have gn2 : ∀ x Y, (H ++ [x] ++ Y)[H.length]? = some x := fun x Y => by rw [List.append_assoc, List.getElem?_append_right (Nat.le_refl _), Nat.sub_self]; rfl
  simp (maxSteps := 4000000) only [Try.results46, ids_bsC, ren_bsC, noRo_bsC, plain_bsC, lt_bsC, ids_byte, ren_byte, noRo_byte, plain_byte, lt_byte, hcx2, hrx2, gn2, g0, g1, ltd, ltf, lte, gset, Option.map_some, XX, Nat.reduceBEq, Nat.reduceLT, Nat.reduceAdd, Nat.reduceMul, Nat.reduceSub, Nat.reduceLeDiff, Nat.reduceEqDiff, Int.reduceToNat, Int.reduceLT, Int.reduceLE, Int.reduceAdd, Int.reduceSub, Int.reduceEq, reduceIte, Nat.reduceBNe, Int.reducePow, Nat.reducePow, Int.reduceMul, Int.reduceNeg, isB_i, isB_b, isB_y, isBv_i, isBv_b, eqCells_t, TT]
  refine ⟨⟨by omega, by omega⟩, by rw [dsC_len]; omega, ⟨true, 85, [bC q.1, slB (H.length + 1) d z]⟩, z, o, rfl, ?_, ho⟩
  rw [List.append_assoc, List.set_append_right _ _ (Nat.le_refl _), Nat.sub_self]
  rfl
end
end Go.Proofs.Ythbojoiogjdbeaa.Sx
namespace Go.Proofs.Ythbojoiogjdbeaa.Sx
open Go
set_option linter.unusedSimpArgs false
set_option linter.unusedVariables false
set_option maxRecDepth 10000
set_option maxHeartbeats 2000000
abbrev CK.B (k : CK) (w1 w2 : Nat) : SB := cardB w1 w2 k.rx.length k.tx.length k.rn k.tn k.cin k.cdr k.cout
/-- A card in a heap. -/
structure PC (H : List SB) (c w1 w2 : Nat) (k : CK) : Prop where
  hc : H[c]? = some (k.B w1 w2)
  h1 : H[w1]? = some (stB (slC k.rx))
  h2 : H[w2]? = some (stB (slC k.tx))
  ne : c ≠ w1 ∧ c ≠ w2 ∧ w1 ≠ w2
def setC (H : List SB) (c w1 w2 : Nat) (k : CK) : List SB := ((H.set c (k.B w1 w2)).set w1 (stB (slC k.rx))).set w2 (stB (slC k.tx))
theorem setC_len (H : List SB) (c w1 w2 : Nat) (k : CK) : (setC H c w1 w2 k).length = H.length := by simp [setC]
theorem setC_off {H : List SB} {c w1 w2 : Nat} {k : CK} {i : Nat} (h1 : i ≠ c) (h2 : i ≠ w1) (h3 : i ≠ w2) : (setC H c w1 w2 k)[i]? = H[i]? := by
  unfold setC
  rw [List.getElem?_set_ne (Ne.symm h3), List.getElem?_set_ne (Ne.symm h2), List.getElem?_set_ne (Ne.symm h1)]
theorem PC.set {H : List SB} {c w1 w2 : Nat} {k : CK} (h : PC H c w1 w2 k) (k' : CK) : PC (setC H c w1 w2 k') c w1 w2 k' := by
  obtain ⟨n1, n2, n3⟩ := h.ne
  have l1 := lt_of h.hc
  have l2 := lt_of h.h1
  have l3 := lt_of h.h2
  refine ⟨?_, ?_, ?_, h.ne⟩ <;> unfold setC
  · rw [List.getElem?_set_ne (Ne.symm n2), List.getElem?_set_ne (Ne.symm n1), List.getElem?_set_self l1]
  · rw [List.getElem?_set_ne (Ne.symm n3), List.getElem?_set_self (by simpa using l2)]
  · rw [List.getElem?_set_self (by simpa using l3)]
theorem PC.app {H : List SB} {c w1 w2 : Nat} {k : CK} (h : PC H c w1 w2 k) (X : List SB) : PC (H ++ X) c w1 w2 k :=
  ⟨by rw [List.getElem?_append_left (lt_of h.hc)]; exact h.hc, by rw [List.getElem?_append_left (lt_of h.h1)]; exact h.h1, by rw [List.getElem?_append_left (lt_of h.h2)]; exact h.h2, h.ne⟩
theorem PC.mono {H H' : List SB} {c w1 w2 : Nat} {k : CK} (h : PC H c w1 w2 k) (e1 : H'[c]? = H[c]?) (e2 : H'[w1]? = H[w1]?) (e3 : H'[w2]? = H[w2]?) : PC H' c w1 w2 k :=
  ⟨e1.trans h.hc, e2.trans h.h1, e3.trans h.h2, h.ne⟩
theorem plug3 {H : List SB} {c w1 w2 : Nat} (k k' : CK) (X : List SB) : plug (renF [c, w1, w2] H.length) [c, w1, w2] k.h (k'.h ++ X) H = setC H c w1 w2 k' ++ X.map (SB.ren (renF [c, w1, w2] H.length)) := by
  simp only [XX, Nat.reduceBEq, Nat.reduceLT, Nat.reduceAdd, Nat.reduceMul, Nat.reduceSub, Nat.reduceLeDiff, Nat.reduceEqDiff, Int.reduceToNat, Int.reduceLT, Int.reduceLE, Int.reduceAdd, Int.reduceSub, Int.reduceEq, reduceIte, Nat.reduceBNe, Int.reducePow, Nat.reducePow, Int.reduceMul, Int.reduceNeg, isB_i, isB_b, isB_y, isBv_i, isBv_b, eqCells_t, TT, ids_bsC, ren_bsC, noRo_bsC, plain_bsC, lt_bsC, ids_byte, ren_byte, noRo_byte, plain_byte, lt_byte, slC_ren]
  rfl
/-- A contract of a card's call, met in any heap. -/
theorem PC.spec {H : List SB} {c w1 w2 : Nat} {k : CK} (h : PC H c w1 w2 k) {f : FuncId} {bs as0 : List SV} {K : SV → List SB → Prop} (s : Spec cx.P f (.c (.ptr 0 0) :: as0) k.h K) (hno : ∀ t h', K t h' → t.noRo = true ∧ (h'.all fun b => b.cells.all SC.noRo) = true)
    (ha : frA true (notW [c, w1, w2] k.h) (renF [c, w1, w2] H.length) 3 H bs as0) :
    Spec cx.P f (.c (.ptr c 0) :: bs) H fun t h' => ∃ s0 h0', K s0 h0' ∧ t = s0.ren (renF [c, w1, w2] H.length) ∧ h' = plug (renF [c, w1, w2] H.length) [c, w1, w2] k.h h0' H := by
  obtain ⟨n1, n2, n3⟩ := h.ne
  refine s.frame true (fun _ => hno) [c, w1, w2] ⟨.inl ⟨rfl, rfl⟩, ha⟩ ?_ ?_ (card_lt k)
  · simp [piOk, n1, n2, n3]
  · simp only [XX, Nat.reduceBEq, Nat.reduceLT, Nat.reduceAdd, Nat.reduceMul, Nat.reduceSub, Nat.reduceLeDiff, Nat.reduceEqDiff, Int.reduceToNat, Int.reduceLT, Int.reduceLE, Int.reduceAdd, Int.reduceSub, Int.reduceEq, reduceIte, Nat.reduceBNe, Int.reducePow, Nat.reducePow, Int.reduceMul, Int.reduceNeg, isB_i, isB_b, isB_y, isBv_i, isBv_b, eqCells_t, TT, preOk, ids_bsC, ren_bsC, noRo_bsC, plain_bsC, lt_bsC, ids_byte, ren_byte, noRo_byte, plain_byte, lt_byte, slC_ren, h.hc, h.h1, h.h2]
theorem plug3' {H : List SB} {c w1 w2 : Nat} (k k' : CK) : plug (renF [c, w1, w2] H.length) [c, w1, w2] k.h k'.h H = setC H c w1 w2 k' := by
  have := plug3 (H := H) (c := c) (w1 := w1) (w2 := w2) k k' []
  simp only [List.append_nil, List.map_nil] at this
  exact this
theorem ty_ne {H : List SB} {i j : Nat} {a b : SB} (hi : H[i]? = some a) (hj : H[j]? = some b) (h : a.ty ≠ b.ty) : i ≠ j := by
  rintro rfl
  rw [hi] at hj
  exact h (congrArg SB.ty (Option.some.inj hj))
end Go.Proofs.Ythbojoiogjdbeaa.Sx
namespace Go.Proofs.Ythbojoiogjdbeaa.Sx
open Go
set_option linter.unusedSimpArgs false
set_option linter.unusedVariables false
set_option maxRecDepth 10000
set_option maxHeartbeats 2000000
abbrev noSl : Sl := ⟨false, [], []⟩
/-- What a slot shows: whose it is, its bytes, the error. -/
def seeS (l : List Sl) (i : Int) : Bool := if 0 ≤ i ∧ i < (l.length : Int) then (l.getD i.toNat noSl).own else false
def seeD (l : List Sl) (i : Int) : List UInt8 := if 0 ≤ i ∧ i < (l.length : Int) then (l.getD i.toNat noSl).d else []
def seeE (l : List Sl) (i : Int) : Int := if 0 ≤ i ∧ i < (l.length : Int) then 0 else 40
def resD (k : CK) (b : Bool) (d : List UInt8) (e : Int) (t : SV) (h' : List SB) : Prop := ∃ o, t = .tup [(true, [bC b, .sl 3 0 d.length d.length]), (false, [i64 e])] ∧ h' = k.h ++ [wB o d] ∧ (0 < d.length → o = true)
theorem resD_noRo {k : CK} {b : Bool} {d : List UInt8} {e : Int} {t : SV} {h' : List SB} (h : resD k b d e t h') : t.noRo = true ∧ (h'.all fun b => b.cells.all SC.noRo) = true := by
  obtain ⟨o, rfl, rfl, _⟩ := h
  exact ⟨rfl, by simp only [XX, Nat.reduceBEq, Nat.reduceLT, Nat.reduceAdd, Nat.reduceMul, Nat.reduceSub, Nat.reduceLeDiff, Nat.reduceEqDiff, Int.reduceToNat, Int.reduceLT, Int.reduceLE, Int.reduceAdd, Int.reduceSub, Int.reduceEq, reduceIte, Nat.reduceBNe, Int.reducePow, Nat.reducePow, Int.reduceMul, Int.reduceNeg, isB_i, isB_b, isB_y, isBv_i, isBv_b, eqCells_t, TT, ids_bsC, ren_bsC, noRo_bsC, plain_bsC, lt_bsC, ids_byte, ren_byte, noRo_byte, plain_byte, lt_byte, slC_noRo]⟩
theorem at_of {l : List Sl} {i : Int} (h : 0 ≤ i ∧ i < (l.length : Int)) : ∃ j : Nat, i = j ∧ l[j]? = some (l.getD j noSl) := by
  refine ⟨i.toNat, by omega, ?_⟩
  rw [List.getD_eq_getElem?_getD, List.getElem?_eq_getElem (by omega)]
  rfl
theorem rxA_spec (k : CK) (ok : k.ok) (i : Int) : Spec cx.P 30 [.c (.ptr 0 0), .c (i64 i)] k.h (resD k (seeS k.rx i) (seeD k.rx i) (seeE k.rx i)) := by
  unfold seeS seeD seeE
  by_cases h : 0 ≤ i ∧ i < (k.rx.length : Int)
  · rw [if_pos h, if_pos h, if_pos h]
    obtain ⟨j, rfl, hj⟩ := at_of h
    rw [Int.toNat_natCast]
    exact (rx_spec k ok j _ hj).mono fun t h' ⟨h1, h2⟩ => ⟨true, h1, h2, fun _ => rfl⟩
  · rw [if_neg h, if_neg h, if_neg h]
    refine (rxN_spec k i (by omega)).wk fun t h' ⟨h1, h2⟩ => ⟨.tup [(true, [bC false, .sl 3 0 0 0]), (false, [i64 40])], k.h ++ [wB false []], [some 0, some 1, some 2, none], rfl, ?_, ?_, false, rfl, rfl, fun h => absurd h (by simp)⟩
    · subst h2
      simp only [XX, Nat.reduceBEq, Nat.reduceLT, Nat.reduceAdd, Nat.reduceMul, Nat.reduceSub, Nat.reduceLeDiff, Nat.reduceEqDiff, Int.reduceToNat, Int.reduceLT, Int.reduceLE, Int.reduceAdd, Int.reduceSub, Int.reduceEq, reduceIte, Nat.reduceBNe, Int.reducePow, Nat.reducePow, Int.reduceMul, Int.reduceNeg, isB_i, isB_b, isB_y, isBv_i, isBv_b, eqCells_t, TT, ids_bsC, ren_bsC, noRo_bsC, plain_bsC, lt_bsC, ids_byte, ren_byte, noRo_byte, plain_byte, lt_byte, slC_ren, List.map_nil]
      exact ⟨.inl (slC_ids _ _), .inl (slC_ids _ _)⟩
    · subst h1
      exact .inr ⟨rfl, ⟨.inl ⟨rfl, rfl⟩, .inr (.inr ⟨_, _, rfl, .inl rfl⟩), trivial⟩, rfl, ⟨.inl ⟨rfl, rfl⟩, trivial⟩, trivial⟩
theorem txA_spec (k : CK) (ok : k.ok) (i : Int) : Spec cx.P 45 [.c (.ptr 0 0), .c (i64 i)] k.h (resD k (seeS k.tx i) (seeD k.tx i) (seeE k.tx i)) := by
  unfold seeS seeD seeE
  by_cases h : 0 ≤ i ∧ i < (k.tx.length : Int)
  · rw [if_pos h, if_pos h, if_pos h]
    obtain ⟨j, rfl, hj⟩ := at_of h
    rw [Int.toNat_natCast]
    exact (tx_spec k ok j _ hj).mono fun t h' ⟨h1, h2⟩ => ⟨true, h1, h2, fun _ => rfl⟩
  · rw [if_neg h, if_neg h, if_neg h]
    refine (txN_spec k i (by omega)).wk fun t h' ⟨h1, h2⟩ => ⟨.tup [(true, [bC false, .sl 3 0 0 0]), (false, [i64 40])], k.h ++ [wB false []], [some 0, some 1, some 2, none], rfl, ?_, ?_, false, rfl, rfl, fun h => absurd h (by simp)⟩
    · subst h2
      simp only [XX, Nat.reduceBEq, Nat.reduceLT, Nat.reduceAdd, Nat.reduceMul, Nat.reduceSub, Nat.reduceLeDiff, Nat.reduceEqDiff, Int.reduceToNat, Int.reduceLT, Int.reduceLE, Int.reduceAdd, Int.reduceSub, Int.reduceEq, reduceIte, Nat.reduceBNe, Int.reducePow, Nat.reducePow, Int.reduceMul, Int.reduceNeg, isB_i, isB_b, isB_y, isBv_i, isBv_b, eqCells_t, TT, ids_bsC, ren_bsC, noRo_bsC, plain_bsC, lt_bsC, ids_byte, ren_byte, noRo_byte, plain_byte, lt_byte, slC_ren, List.map_nil]
      exact ⟨.inl (slC_ids _ _), .inl (slC_ids _ _)⟩
    · subst h1
      exact .inr ⟨rfl, ⟨.inl ⟨rfl, rfl⟩, .inr (.inr ⟨_, _, rfl, .inl rfl⟩), trivial⟩, rfl, ⟨.inl ⟨rfl, rfl⟩, trivial⟩, trivial⟩
/-- A frame comes. -/
def arrB (k : CK) (b : List UInt8) : Bool := if b.length = 0 ∨ 1514 < b.length then false else (k.rx.getD k.rn noSl).own
def arrK (k : CK) (b : List UInt8) : CK := if b.length = 0 ∨ 1514 < b.length then k else
  if (k.rx.getD k.rn noSl).own then { k with rx := k.rx.set k.rn ⟨false, b, ((k.rx.getD k.rn noSl).d ++ (k.rx.getD k.rn noSl).j).drop b.length⟩, rn := (k.rn + 1) % k.rx.length, cin := IntKind.i64.wrap (k.cin + 1) } else { k with cdr := IntKind.i64.wrap (k.cdr + 1) }
theorem getS {l : List Sl} {i : Nat} (h : i < l.length) : l[i]? = some (l.getD i noSl) := by
  rw [List.getD_eq_getElem?_getD, List.getElem?_eq_getElem h]
  rfl
theorem arriveA_spec (k : CK) (ok : k.ok) (b sp : List UInt8) (c : Nat) : Spec cx.P 10 [.c (.ptr 0 0), .c (roB b sp c)] k.h fun t h' => t = .c (bC (arrB k b)) ∧ h' = (arrK k b).h := by
  unfold arrB arrK
  by_cases h : b.length = 0 ∨ 1514 < b.length
  · rw [if_pos h, if_pos h]
    exact arriveB_spec k b sp c h
  · rw [if_neg h, if_neg h]
    have hs := getS ok.rn
    cases ho : (k.rx.getD k.rn noSl).own
    · exact arriveF_spec k ok _ hs ho b sp c (by omega) (by omega)
    · exact arrive_spec k ok _ hs ho b sp c (by omega) (by omega)
theorem arrK_ok (k : CK) (ok : k.ok) (b : List UInt8) : (arrK k b).ok := by
  unfold arrK
  split
  · exact ok
  split
  · exact ⟨by simpa using ok.rx0, by simpa using ok.rx1, ok.tx0, ok.tx1, by simp; exact Nat.mod_lt _ ok.rx0, ok.tn, set_ok ok.rs (ok.rs _ (List.mem_of_getElem? (getS ok.rn))) (by omega), ok.ts⟩
  · exact ⟨ok.1, ok.2, ok.3, ok.4, ok.5, ok.6, ok.7, ok.8⟩
/-- A frame goes. -/
def depB (k : CK) : Bool := (k.tx.getD k.tn noSl).own
def depD (k : CK) : List UInt8 := if (k.tx.getD k.tn noSl).own then (k.tx.getD k.tn noSl).d else []
def depK (k : CK) : CK := if (k.tx.getD k.tn noSl).own then { k with tx := k.tx.set k.tn ⟨false, [], (k.tx.getD k.tn noSl).d ++ (k.tx.getD k.tn noSl).j⟩, tn := (k.tn + 1) % k.tx.length, cout := IntKind.i64.wrap (k.cout + 1) } else k
def resO (k : CK) (d : List UInt8) (b : Bool) (t : SV) (h' : List SB) : Prop := ∃ o, t = .tup [(false, [.sl 3 0 d.length d.length]), (false, [bC b])] ∧ h' = k.h ++ [wB o d] ∧ (0 < d.length → o = true)
theorem resO_noRo {k : CK} {b : Bool} {d : List UInt8} {t : SV} {h' : List SB} (h : resO k d b t h') : t.noRo = true ∧ (h'.all fun b => b.cells.all SC.noRo) = true := by
  obtain ⟨o, rfl, rfl, _⟩ := h
  exact ⟨rfl, by simp only [XX, Nat.reduceBEq, Nat.reduceLT, Nat.reduceAdd, Nat.reduceMul, Nat.reduceSub, Nat.reduceLeDiff, Nat.reduceEqDiff, Int.reduceToNat, Int.reduceLT, Int.reduceLE, Int.reduceAdd, Int.reduceSub, Int.reduceEq, reduceIte, Nat.reduceBNe, Int.reducePow, Nat.reducePow, Int.reduceMul, Int.reduceNeg, isB_i, isB_b, isB_y, isBv_i, isBv_b, eqCells_t, TT, ids_bsC, ren_bsC, noRo_bsC, plain_bsC, lt_bsC, ids_byte, ren_byte, noRo_byte, plain_byte, lt_byte, slC_noRo]⟩
theorem departA_spec (k : CK) (ok : k.ok) : Spec cx.P 13 [.c (.ptr 0 0)] k.h (resO (depK k) (depD k) (depB k)) := by
  unfold depK depD depB
  have hs := getS ok.tn
  cases ho : (k.tx.getD k.tn noSl).own
  · refine (departN_spec k ok _ hs ho).wk fun t h' ⟨h1, h2⟩ => ⟨.tup [(false, [.sl 3 0 0 0]), (false, [bC false])], k.h ++ [wB false []], [some 0, some 1, some 2, none], rfl, ?_, ?_, false, rfl, rfl, fun h => absurd h (by simp)⟩
    · subst h2
      simp only [XX, Nat.reduceBEq, Nat.reduceLT, Nat.reduceAdd, Nat.reduceMul, Nat.reduceSub, Nat.reduceLeDiff, Nat.reduceEqDiff, Int.reduceToNat, Int.reduceLT, Int.reduceLE, Int.reduceAdd, Int.reduceSub, Int.reduceEq, reduceIte, Nat.reduceBNe, Int.reducePow, Nat.reducePow, Int.reduceMul, Int.reduceNeg, isB_i, isB_b, isB_y, isBv_i, isBv_b, eqCells_t, TT, ids_bsC, ren_bsC, noRo_bsC, plain_bsC, lt_bsC, ids_byte, ren_byte, noRo_byte, plain_byte, lt_byte, slC_ren, List.map_nil]
      exact ⟨.inl (slC_ids _ _), .inl (slC_ids _ _)⟩
    · subst h1
      exact .inr ⟨rfl, ⟨.inr (.inr ⟨_, _, rfl, .inl rfl⟩), trivial⟩, rfl, ⟨.inl ⟨rfl, rfl⟩, trivial⟩, trivial⟩
  · exact (depart_spec k ok _ hs ho).mono fun t h' ⟨h1, h2⟩ => ⟨true, h1, h2, fun _ => rfl⟩
theorem depK_ok (k : CK) (ok : k.ok) : (depK k).ok := by
  unfold depK
  split
  · exact ⟨ok.rx0, ok.rx1, by simpa using ok.tx0, by simpa using ok.tx1, ok.rn, by simp; exact Nat.mod_lt _ ok.tx0, ok.rs, set_ok (b := []) ok.ts (ok.ts _ (List.mem_of_getElem? (getS ok.tn))) (by simp)⟩
  · exact ok
/-- A slot is given back. -/
def givE (k : CK) (i : Int) : Int := if 0 ≤ i ∧ i < (k.rx.length : Int) then (if (k.rx.getD i.toNat noSl).own then 41 else 0) else 40
def givK (k : CK) (i : Int) : CK := if 0 ≤ i ∧ i < (k.rx.length : Int) then (if (k.rx.getD i.toNat noSl).own then k else { k with rx := k.rx.set i.toNat ⟨true, [], (k.rx.getD i.toNat noSl).d ++ (k.rx.getD i.toNat noSl).j⟩ }) else k
theorem giveA_spec (k : CK) (ok : k.ok) (i : Int) : Spec cx.P 33 [.c (.ptr 0 0), .c (i64 i)] k.h fun t h' => t = .c (i64 (givE k i)) ∧ h' = (givK k i).h := by
  unfold givE givK
  by_cases h : 0 ≤ i ∧ i < (k.rx.length : Int)
  · rw [if_pos h, if_pos h]
    obtain ⟨j, rfl, hj⟩ := at_of h
    rw [Int.toNat_natCast]
    cases ho : (k.rx.getD j noSl).own
    · exact give_spec k ok j _ hj ho
    · exact giveO_spec k ok j _ hj ho
  · rw [if_neg h, if_neg h]
    exact giveN_spec k i (by omega)
theorem givK_ok (k : CK) (ok : k.ok) (i : Int) : (givK k i).ok := by
  unfold givK
  split
  · next h =>
    split
    · exact ok
    · exact ⟨by simpa using ok.rx0, by simpa using ok.rx1, ok.tx0, ok.tx1, by simpa using ok.rn, ok.tn, set_ok (b := []) ok.rs (ok.rs _ (List.mem_of_getElem? (getS (by omega)))) (by simp), ok.ts⟩
  · exact ok
/-- A frame is laid. -/
def layE (k : CK) (i : Int) (b : List UInt8) : Int := if 0 ≤ i ∧ i < (k.tx.length : Int) then (if b.length < 60 then 5 else if 1514 < b.length then 2 else if (k.tx.getD i.toNat noSl).own then 41 else 0) else 40
def layK (k : CK) (i : Int) (b : List UInt8) : CK := if 0 ≤ i ∧ i < (k.tx.length : Int) then (if b.length < 60 then k else if 1514 < b.length then k else if (k.tx.getD i.toNat noSl).own then k else { k with tx := k.tx.set i.toNat ⟨true, b, ((k.tx.getD i.toNat noSl).d ++ (k.tx.getD i.toNat noSl).j).drop b.length⟩ }) else k
theorem layA_spec (k : CK) (ok : k.ok) (i : Int) (b sp : List UInt8) (c : Nat) : Spec cx.P 57 [.c (.ptr 0 0), .c (i64 i), .c (roB b sp c)] k.h fun t h' => t = .c (i64 (layE k i b)) ∧ h' = (layK k i b).h := by
  unfold layE layK
  by_cases h : 0 ≤ i ∧ i < (k.tx.length : Int)
  · rw [if_pos h, if_pos h]
    obtain ⟨j, rfl, hj⟩ := at_of h
    rw [Int.toNat_natCast]
    by_cases h1 : b.length < 60
    · rw [if_pos h1, if_pos h1]
      exact layE_spec k ok j _ hj b sp c 5 (.inl ⟨h1, rfl⟩)
    rw [if_neg h1, if_neg h1]
    by_cases h2 : 1514 < b.length
    · rw [if_pos h2, if_pos h2]
      exact layE_spec k ok j _ hj b sp c 2 (.inr (.inl ⟨h2, rfl⟩))
    rw [if_neg h2, if_neg h2]
    cases ho : (k.tx.getD j noSl).own
    · exact lay_spec k ok j _ hj b sp c (by omega) (by omega) ho
    · exact layE_spec k ok j _ hj b sp c 41 (.inr (.inr ⟨by omega, by omega, ho, rfl⟩))
  · rw [if_neg h, if_neg h]
    exact layN_spec k i _ (by omega)
theorem layK_ok (k : CK) (ok : k.ok) (i : Int) (b : List UInt8) : (layK k i b).ok := by
  unfold layK
  repeat' split
  all_goals first | exact ok | skip
  next h h1 h2 h3 =>
    refine ⟨ok.rx0, ok.rx1, by simpa using ok.tx0, by simpa using ok.tx1, ok.rn, by simpa using ok.tn, ok.rs, ?_⟩
    intro x hx
    rcases List.mem_or_eq_of_mem_set hx with hx | rfl
    · exact ok.ts x hx
    · have := ok.ts _ (List.mem_of_getElem? (getS (l := k.tx) (i := i.toNat) (by omega)))
      unfold Sl.ok at this ⊢
      simp only [List.length_drop, List.length_append]
      omega
end Go.Proofs.Ythbojoiogjdbeaa.Sx
namespace Go.Proofs.Ythbojoiogjdbeaa.Sx
open Go
set_option linter.unusedSimpArgs false
set_option linter.unusedVariables false
set_option maxRecDepth 10000
set_option maxHeartbeats 2000000
theorem rcB_ne {r t : SC} {a1 a2 c1 c2 c3 : Int} : (rcB r t a1 a2 c1 c2 c3).ty ≠ 5 := (by decide : (83 : Nat) ≠ 5)
theorem dB_ne {o : Bool} {l : List (Bool × SC)} : (dB o l).ty ≠ 5 := (by decide : (85 : Nat) ≠ 5)
theorem DX.set {S : Nat → Prop} {H : List SB} {x : SC} {d : List UInt8} (h : DX S H x d) {j : Nat} {b X : SB} (hj : H[j]? = some b) (ht : b.ty ≠ 5) : DX S (H.set j X) x d := by
  rcases h with h | ⟨w, z, o, h1, h2, h3⟩
  · exact .inl h
  · exact .inr ⟨w, z, o, h1, by rw [List.getElem?_set_ne (ty_ne hj h2 ht)]; exact h2, h3⟩
def rowsOf (S : Nat → Prop) (H : List SB) (ss : List Sl) (l : List (Bool × SC)) : Prop := ∀ (i : Nat) (s : Sl), ss[i]? = some s → ∃ x, l[i]? = some (s.own, x) ∧ DX S H x s.d
theorem rowsOf.mono {S S' : Nat → Prop} {H H' : List SB} {ss : List Sl} {l : List (Bool × SC)} (h : rowsOf S H ss l) (hd : ∀ x d, DX S H x d → DX S' H' x d) : rowsOf S' H' ss l := fun i s hs => let ⟨x, h1, h2⟩ := h i s hs; ⟨x, h1, hd _ _ h2⟩
theorem rowsOf.set {S : Nat → Prop} {H : List SB} {ss : List Sl} {l : List (Bool × SC)} (h : rowsOf S H ss l) (hl : ss.length ≤ l.length) (i : Nat) (s : Sl) {x : SC} (hx : DX S H x s.d) : rowsOf S H (ss.set i s) (l.set i (s.own, x)) := by
  intro j s' hj
  by_cases he : i = j
  · subst he
    have hi : i < ss.length := by
      have := (List.getElem?_eq_some_iff.1 hj).1
      simpa using this
    rw [List.getElem?_set_self hi] at hj
    cases hj
    exact ⟨x, List.getElem?_set_self (by omega), hx⟩
  · rw [List.getElem?_set_ne he] at hj
    obtain ⟨x', h1, h2⟩ := h j s' hj
    exact ⟨x', by rw [List.getElem?_set_ne he]; exact h1, h2⟩
/-- The document's card stands as the card 'k'. -/
structure RS (S : Nat → Prop) (H : List SB) (rc rr rt : Nat) (k : CK) (lr lt : List (Bool × SC)) (cr ct : Nat) : Prop where
  R : RC4 H rc rr rt lr lt k.rx.length k.tx.length cr ct k.rn k.tn k.cin k.cdr k.cout
  rx : rowsOf S H k.rx lr
  tx : rowsOf S H k.tx lt
def RSx (S : Nat → Prop) (H : List SB) (rc rr rt : Nat) (k : CK) : Prop := ∃ lr lt cr ct, RS S H rc rr rt k lr lt cr ct
section
variable {H : List SB} {c r t : Nat} {lr lt : List (Bool × SC)} {nr nt cr ct ar at' : Nat} {c1 c2 c3 : Int}
theorem RC4.setc (R : RC4 H c r t lr lt nr nt cr ct ar at' c1 c2 c3) (a2 t2 : Nat) (d1 d2 d3 : Int) (h1 : a2 < nr) (h2 : t2 < nt) : RC4 (H.set c (rcB (.sl r 0 nr cr) (.sl t 0 nt ct) a2 t2 d1 d2 d3)) c r t lr lt nr nt cr ct a2 t2 d1 d2 d3 :=
  ⟨List.getElem?_set_self (lt_of R.hc), by rw [List.getElem?_set_ne R.ne.1]; exact R.hr, by rw [List.getElem?_set_ne R.ne.2.1]; exact R.ht, R.ne, R.lr, R.lt, R.n1, R.n2, h1, h2⟩
theorem RC4.setr (R : RC4 H c r t lr lt nr nt cr ct ar at' c1 c2 c3) (l : List (Bool × SC)) (hl : nr ≤ l.length) : RC4 (H.set r (dB true l)) c r t l lt nr nt cr ct ar at' c1 c2 c3 :=
  ⟨by rw [List.getElem?_set_ne (Ne.symm R.ne.1)]; exact R.hc, List.getElem?_set_self (lt_of R.hr), by rw [List.getElem?_set_ne R.ne.2.2]; exact R.ht, R.ne, hl, R.lt, R.n1, R.n2, R.ar, R.at'⟩
theorem RC4.sett (R : RC4 H c r t lr lt nr nt cr ct ar at' c1 c2 c3) (l : List (Bool × SC)) (hl : nt ≤ l.length) : RC4 (H.set t (dB true l)) c r t lr l nr nt cr ct ar at' c1 c2 c3 :=
  ⟨by rw [List.getElem?_set_ne (Ne.symm R.ne.2.1)]; exact R.hc, by rw [List.getElem?_set_ne (Ne.symm R.ne.2.2)]; exact R.hr, List.getElem?_set_self (lt_of R.ht), R.ne, R.lr, hl, R.n1, R.n2, R.ar, R.at'⟩
theorem RC4.app (R : RC4 H c r t lr lt nr nt cr ct ar at' c1 c2 c3) (X : List SB) : RC4 (H ++ X) c r t lr lt nr nt cr ct ar at' c1 c2 c3 :=
  ⟨by rw [List.getElem?_append_left (lt_of R.hc)]; exact R.hc, by rw [List.getElem?_append_left (lt_of R.hr)]; exact R.hr, by rw [List.getElem?_append_left (lt_of R.ht)]; exact R.ht, R.ne, R.lr, R.lt, R.n1, R.n2, R.ar, R.at'⟩
theorem RC4.mono {H' : List SB} (R : RC4 H c r t lr lt nr nt cr ct ar at' c1 c2 c3) (e1 : H'[c]? = H[c]?) (e2 : H'[r]? = H[r]?) (e3 : H'[t]? = H[t]?) : RC4 H' c r t lr lt nr nt cr ct ar at' c1 c2 c3 :=
  ⟨e1.trans R.hc, e2.trans R.hr, e3.trans R.ht, R.ne, R.lr, R.lt, R.n1, R.n2, R.ar, R.at'⟩
end
theorem But.rfl' (H : List SB) (p : Nat → Prop) : But H H p := ⟨Nat.le_refl _, fun _ _ _ => rfl⟩
theorem But.set {H H' : List SB} {p : Nat → Prop} (h : But H H' p) {j : Nat} (hj : p j) (X : SB) : But H (H'.set j X) p :=
  ⟨by rw [List.length_set]; exact h.1, fun k hk hp => by rw [List.getElem?_set_ne (fun e => hp (by rw [← e]; exact hj))]; exact h.2 k hk hp⟩
theorem But.app {H H' : List SB} {p : Nat → Prop} (h : But H H' p) (X : List SB) : But H (H' ++ X) p :=
  ⟨by rw [List.length_append]; have := h.1; omega, fun k hk hp => by rw [List.getElem?_append_left (by have := h.1; omega)]; exact h.2 k hk hp⟩
theorem dx_new {S : Nat → Prop} (H : List SB) (b z : List UInt8) (hS : ∀ i, S i → i < H.length) : DX S (H ++ [wB true (b ++ z)]) (slB H.length b z) b := .inr ⟨H.length, z, true, rfl, by rw [List.getElem?_append_right (Nat.le_refl _), Nat.sub_self]; rfl, fun _ => rfl, fun h => absurd (hS _ h) (by omega)⟩
theorem rarriveA_spec {S : Nat → Prop} {H : List SB} (hS : ∀ i, S i → i < H.length) {rc rr rt : Nat} {k : CK} (ok : k.ok) (h : RSx S H rc rr rt k) (b sp : List UInt8) (c : Nat) (hc : b.length ≤ c) : Spec cx.P 37 [.c (.ptr rc 0), .c (roB b sp c)] H fun t h' => t = .c (bC (arrB k b)) ∧ RSx S h' rc rr rt (arrK k b) ∧ But H h' (fun i => i = rc ∨ i = rr ∨ i = rt) := by
  obtain ⟨lr, lt, cr, ct, R, X, Y⟩ := h
  unfold arrB arrK
  by_cases h : b.length = 0 ∨ 1514 < b.length
  · rw [if_pos h, if_pos h]
    exact (rarriveB_spec b sp c h).mono fun t h' ⟨h1, h2⟩ => by subst h2; exact ⟨h1, ⟨lr, lt, cr, ct, R, X, Y⟩, But.rfl' _ _⟩
  · rw [if_neg h, if_neg h]
    obtain ⟨x, hx, hd⟩ := X _ _ (getS ok.rn)
    cases ho : (k.rx.getD k.rn noSl).own
    · rw [ho] at hx
      refine (rarriveF_spec R hx rfl b sp c (by omega) (by omega)).mono fun t h' ⟨h1, h2⟩ => ⟨h1, ?_⟩
      subst h2
      rw [if_neg (by decide)]
      exact ⟨⟨lr, lt, cr, ct, R.setc _ _ _ _ _ R.ar R.at', X.mono fun _ _ h => h.set R.hc rcB_ne, Y.mono fun _ _ h => h.set R.hc rcB_ne⟩, (But.rfl' _ _).set (.inl rfl) _⟩
    · rw [ho] at hx
      refine (rarrive_spec R hx rfl b sp c hc (by omega) (by omega)).mono fun t h' ⟨z, h1, h2⟩ => ⟨h1, ?_⟩
      subst h2
      rw [if_pos rfl]
      have R1 := R.app [wB true (b ++ z)]
      have R2 := R1.setr (lr.set k.rn (false, slB H.length b z)) (by simpa using R.lr)
      have R3 := R2.setc ((k.rn + 1) % k.rx.length) k.tn (IntKind.i64.wrap (k.cin + 1)) k.cdr k.cout (Nat.mod_lt _ ok.rx0) R.at'
      refine ⟨⟨lr.set k.rn (false, slB H.length b z), lt, cr, ct, by simpa only [List.length_set] using R3, ?_, ?_⟩, (((But.rfl' _ _).app _).set (.inr (.inl rfl)) _).set (.inl rfl) _⟩
      · have X1 : rowsOf S (H ++ [wB true (b ++ z)]) k.rx lr := X.mono fun _ _ h => h.app _
        exact (X1.set R.lr k.rn ⟨false, b, _⟩ (dx_new H b z hS)).mono fun _ _ h => (h.set R1.hr dB_ne).set R2.hc rcB_ne
      · exact Y.mono fun _ _ h => ((h.app _).set R1.hr dB_ne).set R2.hc rcB_ne
theorem rdepartA_spec {S : Nat → Prop} {H : List SB} {rc rr rt : Nat} {k : CK} (ok : k.ok) (h : RSx S H rc rr rt k) : Spec cx.P 38 [.c (.ptr rc 0)] H fun t h' => ∃ x, t = .tup [(false, [x]), (false, [bC (depB k)])] ∧ DX S h' x (depD k) ∧ RSx S h' rc rr rt (depK k) ∧ But H h' (fun i => i = rc ∨ i = rr ∨ i = rt) := by
  obtain ⟨lr, lt, cr, ct, R, X, Y⟩ := h
  unfold depB depD depK
  obtain ⟨x, hx, hd⟩ := Y _ _ (getS ok.tn)
  cases ho : (k.tx.getD k.tn noSl).own
  · rw [ho] at hx
    refine (rdepartN_spec R hx rfl).mono fun t h' ⟨h1, h2⟩ => ⟨.v (.slice none 0 0), h1, ?_⟩
    subst h2
    exact ⟨.inl ⟨rfl, rfl⟩, ⟨lr, lt, cr, ct, R, X, Y⟩, But.rfl' _ _⟩
  · rw [ho] at hx
    refine (rdepart_spec R hx rfl).mono fun t h' ⟨h1, h2⟩ => ⟨x, h1, ?_⟩
    subst h2
    rw [if_pos rfl, if_pos rfl]
    have R2 := R.sett (lt.set k.tn zD) (by simpa using R.lt)
    have R3 := R2.setc k.rn ((k.tn + 1) % k.tx.length) k.cin k.cdr (IntKind.i64.wrap (k.cout + 1)) R.ar (Nat.mod_lt _ ok.tx0)
    refine ⟨(hd.set R.ht dB_ne).set R2.hc rcB_ne, ⟨lr, lt.set k.tn zD, cr, ct, by simpa only [List.length_set] using R3, ?_, ?_⟩, ((But.rfl' _ _).set (.inr (.inr rfl)) _).set (.inl rfl) _⟩
    · exact X.mono fun _ _ h => (h.set R.ht dB_ne).set R2.hc rcB_ne
    · exact (Y.set R.lt k.tn ⟨false, [], _⟩ (.inl ⟨rfl, rfl⟩)).mono fun _ _ h => (h.set R.ht dB_ne).set R2.hc rcB_ne
theorem rgiveA_spec {S : Nat → Prop} {H : List SB} {rc rr rt : Nat} {k : CK} (ok : k.ok) (h : RSx S H rc rr rt k) (i : Int) : Spec cx.P 59 [.c (.ptr rc 0), .c (i64 i)] H fun t h' => t = .c (i64 (givE k i)) ∧ RSx S h' rc rr rt (givK k i) ∧ But H h' (fun i => i = rc ∨ i = rr ∨ i = rt) := by
  obtain ⟨lr, lt, cr, ct, R, X, Y⟩ := h
  unfold givE givK
  by_cases h : 0 ≤ i ∧ i < (k.rx.length : Int)
  · rw [if_pos h, if_pos h]
    obtain ⟨j, rfl, hj⟩ := at_of h
    rw [Int.toNat_natCast]
    obtain ⟨x, hx, hd⟩ := X _ _ hj
    cases ho : (k.rx.getD j noSl).own
    · rw [ho] at hx
      refine (rgive_spec R j (by omega) hx rfl).mono fun t h' ⟨h1, h2⟩ => ⟨h1, ?_⟩
      subst h2
      rw [if_neg (by decide)]
      have R2 := R.setr (lr.set j (true, .v (.slice none 0 0))) (by simpa using R.lr)
      refine ⟨⟨lr.set j (true, .v (.slice none 0 0)), lt, cr, ct, by simpa only [List.length_set] using R2, ?_, ?_⟩, (But.rfl' _ _).set (.inr (.inl rfl)) _⟩
      · exact (X.set R.lr j ⟨true, [], _⟩ (.inl ⟨rfl, rfl⟩)).mono fun _ _ h => h.set R.hr dB_ne
      · exact Y.mono fun _ _ h => h.set R.hr dB_ne
    · rw [ho] at hx
      refine (rgiveO_spec R j (by omega) hx rfl).mono fun t h' ⟨h1, h2⟩ => ⟨h1, ?_⟩
      subst h2
      rw [if_pos rfl]
      exact ⟨⟨lr, lt, cr, ct, R, X, Y⟩, But.rfl' _ _⟩
  · rw [if_neg h, if_neg h]
    refine (rgiveN_spec R i (by omega)).mono fun t h' ⟨h1, h2⟩ => ⟨h1, ?_⟩
    subst h2
    exact ⟨⟨lr, lt, cr, ct, R, X, Y⟩, But.rfl' _ _⟩
theorem rrxA_spec {S : Nat → Prop} {H : List SB} (hS : ∀ i, S i → i < H.length) {rc rr rt : Nat} {k : CK} (ok : k.ok) (h : RSx S H rc rr rt k) (i : Int) : Spec cx.P 44 [.c (.ptr rc 0), .c (i64 i)] H fun t h' => ∃ x, t = .tup [(true, [bC (seeS k.rx i), x]), (false, [i64 (seeE k.rx i)])] ∧ DX S h' x (seeD k.rx i) ∧ RSx S h' rc rr rt k ∧ But H h' (fun _ => False) := by
  obtain ⟨lr, lt, cr, ct, R, X, Y⟩ := h
  unfold seeS seeD seeE
  by_cases h : 0 ≤ i ∧ i < (k.rx.length : Int)
  · rw [if_pos h, if_pos h, if_pos h]
    obtain ⟨j, rfl, hj⟩ := at_of h
    rw [Int.toNat_natCast]
    obtain ⟨x, hx, hd⟩ := X _ _ hj
    have hok : (k.rx.getD j noSl).ok := ok.rs _ (List.mem_of_getElem? hj)
    have hl : (k.rx.getD j noSl).d.length ≤ 1514 := by unfold Sl.ok at hok; omega
    refine (rrx_spec R j (by omega) hx hd hl).mono fun t h' ⟨x', z, o, h1, h2, h3⟩ => ?_
    subst h2
    have R2 := R.app [x', wB o ((k.rx.getD j noSl).d ++ z)]
    have hR : RSx S (H ++ [x', wB o ((k.rx.getD j noSl).d ++ z)]) rc rr rt k := ⟨lr, lt, cr, ct, R2, X.mono fun _ _ h => h.app _, Y.mono fun _ _ h => h.app _⟩
    refine ⟨_, h1, ?_, hR, (But.rfl' _ _).app _⟩
    exact .inr ⟨H.length + 1, z, o, rfl, by rw [List.getElem?_append_right (by omega), Nat.add_sub_cancel_left]; rfl, h3, fun h => absurd (hS _ h) (by omega)⟩
  · rw [if_neg h, if_neg h, if_neg h]
    refine (rrxN_spec R i (by omega)).mono fun t h' ⟨h1, x, h2⟩ => ?_
    subst h2
    exact ⟨_, h1, .inl ⟨rfl, rfl⟩, ⟨lr, lt, cr, ct, R.app _, X.mono fun _ _ h => h.app _, Y.mono fun _ _ h => h.app _⟩, (But.rfl' _ _).app _⟩
theorem rtxA_spec {S : Nat → Prop} {H : List SB} (hS : ∀ i, S i → i < H.length) {rc rr rt : Nat} {k : CK} (ok : k.ok) (h : RSx S H rc rr rt k) (i : Int) : Spec cx.P 46 [.c (.ptr rc 0), .c (i64 i)] H fun t h' => ∃ x, t = .tup [(true, [bC (seeS k.tx i), x]), (false, [i64 (seeE k.tx i)])] ∧ DX S h' x (seeD k.tx i) ∧ RSx S h' rc rr rt k ∧ But H h' (fun _ => False) := by
  obtain ⟨lr, lt, cr, ct, R, X, Y⟩ := h
  unfold seeS seeD seeE
  by_cases h : 0 ≤ i ∧ i < (k.tx.length : Int)
  · rw [if_pos h, if_pos h, if_pos h]
    obtain ⟨j, rfl, hj⟩ := at_of h
    rw [Int.toNat_natCast]
    obtain ⟨x, hx, hd⟩ := Y _ _ hj
    have hok : (k.tx.getD j noSl).ok := ok.ts _ (List.mem_of_getElem? hj)
    have hl : (k.tx.getD j noSl).d.length ≤ 1514 := by unfold Sl.ok at hok; omega
    refine (rtx_spec R j (by omega) hx hd hl).mono fun t h' ⟨x', z, o, h1, h2, h3⟩ => ?_
    subst h2
    have R2 := R.app [x', wB o ((k.tx.getD j noSl).d ++ z)]
    have hR : RSx S (H ++ [x', wB o ((k.tx.getD j noSl).d ++ z)]) rc rr rt k := ⟨lr, lt, cr, ct, R2, X.mono fun _ _ h => h.app _, Y.mono fun _ _ h => h.app _⟩
    refine ⟨_, h1, ?_, hR, (But.rfl' _ _).app _⟩
    exact .inr ⟨H.length + 1, z, o, rfl, by rw [List.getElem?_append_right (by omega), Nat.add_sub_cancel_left]; rfl, h3, fun h => absurd (hS _ h) (by omega)⟩
  · rw [if_neg h, if_neg h, if_neg h]
    refine (rtxN_spec R i (by omega)).mono fun t h' ⟨h1, x, h2⟩ => ?_
    subst h2
    exact ⟨_, h1, .inl ⟨rfl, rfl⟩, ⟨lr, lt, cr, ct, R.app _, X.mono fun _ _ h => h.app _, Y.mono fun _ _ h => h.app _⟩, (But.rfl' _ _).app _⟩
end Go.Proofs.Ythbojoiogjdbeaa.Sx
namespace Go.Proofs.Ythbojoiogjdbeaa.Sx
open Go
set_option linter.unusedSimpArgs false
set_option linter.unusedVariables false
set_option maxRecDepth 10000
set_option maxHeartbeats 2000000
/-- A book that may be empty. -/
def BkS (H : List SB) (bk : Nat) (es : List OE) : Prop := (es = [] ∧ H[bk]? = some (bookB nilC nilC)) ∨ ∃ iL cL iW cW, Book H bk (es.map OE.sc) (es.map OE.l) iL cL iW cW
/-- All but a book's windows stay. -/
def KeepB (H h' : List SB) : Prop := H.length ≤ h'.length ∧ ∀ (i : Nat) (b : SB), H[i]? = some b → b.ty ≠ 57 → b.ty ≠ 33 → b.ty ≠ 9 → h'[i]? = some b
theorem KeepB.trans {a b c : List SB} (h1 : KeepB a b) (h2 : KeepB b c) : KeepB a c :=
  ⟨Nat.le_trans h1.1 h2.1, fun i x hx n1 n2 n3 => h2.2 i x (h1.2 i x hx n1 n2 n3) n1 n2 n3⟩
theorem Owns.keep {H h' : List SB} {es : List OE} (O : Owns H es) (K : KeepB H h') : Owns h' es :=
  ⟨fun i e he => K.2 _ _ (O.at_ i e he) (by decide : (5 : Nat) ≠ 57) (by decide : (5 : Nat) ≠ 33) (by decide : (5 : Nat) ≠ 9), O.own, O.lt, O.ne⟩
theorem Owns.push {H : List SB} {es : List OE} (O : Owns H es) (e : OE) (h1 : H[e.w]? = some (wB e.o (e.l ++ e.p))) (h2 : 0 < e.l.length + e.p.length → e.o = true) (h3 : e.l.length < 140737488351233) (h4 : ∀ f ∈ es, f.w ≠ e.w) : Owns H (es ++ [e]) := by
  have key : ∀ (i : Nat) (f : OE), (es ++ [e])[i]? = some f → es[i]? = some f ∨ (i = es.length ∧ f = e) := by
    intro i f hf
    by_cases hi : i < es.length
    · rw [List.getElem?_append_left hi] at hf
      exact .inl hf
    · rw [List.getElem?_append_right (by omega)] at hf
      have : i - es.length = 0 := by
        have := (List.getElem?_eq_some_iff.1 hf).1
        simp at this
        omega
      rw [this] at hf
      exact .inr ⟨by omega, (Option.some.inj hf).symm⟩
  refine ⟨fun i f hf => ?_, fun i f hf => ?_, fun i f hf => ?_, fun i j f g hij hf hg => ?_⟩
  · rcases key i f hf with h | ⟨_, rfl⟩
    · exact O.at_ i f h
    · exact h1
  · rcases key i f hf with h | ⟨_, rfl⟩
    · exact O.own i f h
    · exact h2
  · rcases key i f hf with h | ⟨_, rfl⟩
    · exact O.lt i f h
    · exact h3
  · rcases key i f hf with h | ⟨hi, rfl⟩ <;> rcases key j g hg with h' | ⟨hj, rfl⟩
    · exact O.ne i j f g hij h h'
    · exact h4 f (List.mem_of_getElem? h)
    · exact Ne.symm (h4 g (List.mem_of_getElem? h'))
    · omega
theorem takeA_spec {H : List SB} {bk : Nat} {es : List OE} (B : BkS H bk es) (hn : es.length ≤ 4398046511104) (w : Nat) (l sp : List UInt8) (o : Bool) (hw : H[w]? = some (wB o (l ++ sp))) (hl : l.length ≤ 1514) :
    Spec cx.P 41 [.c (.ptr bk 0), .c (.sl w 0 l.length (l.length + sp.length))] H fun t h' => t = .tup [] ∧ BkS h' bk (es ++ [⟨w, l, sp, o⟩]) ∧ KeepB H h' := by
  rcases B with ⟨rfl, hb⟩ | ⟨iL, cL, iW, cW, B⟩
  · refine (take0_spec H bk w l sp o _ (by omega) hb hw).mono fun t h' ⟨h1, iL, cL, iW, cW, B', K, _, _⟩ => ⟨h1, .inr ⟨iL, cL, iW, cW, B'⟩, K.1, fun i b hi n1 n2 n3 => ?_⟩
    rw [K.2 i (lt_of hi) (ty_ne hi hb n1)]
    exact hi
  · refine (take_spec H bk w _ _ iL cL iW cW l sp o _ (by omega) B (by simpa using hn) hw).mono fun t h' ⟨h1, iL', cL', iW', cW', B', K, _, _⟩ => ⟨h1, .inr ⟨iL', cL', iW', cW', ?_⟩, K.1, fun i b hi n1 n2 n3 => ?_⟩
    · simpa [OE.sc] using B'
    · rw [K.2 i (lt_of hi) (fun h => ?_)]
      · exact hi
      · rcases h with h | h | h
        · exact ty_ne hi B.b n1 h
        · exact ty_ne hi B.L n2 h
        · exact ty_ne hi B.W n3 h
end Go.Proofs.Ythbojoiogjdbeaa.Sx
namespace Go.Proofs.Ythbojoiogjdbeaa.Sx
open Go
set_option linter.unusedSimpArgs false
set_option linter.unusedVariables false
set_option maxRecDepth 10000
set_option maxHeartbeats 2000000
theorem Book.app {H : List SB} {ib : Nat} {ls : List SC} {ws : List (List UInt8)} {iL cL iW cW : Nat} (B : Book H ib ls ws iL cL iW cW) (X : List SB) : Book (H ++ X) ib ls ws iL cL iW cW :=
  ⟨by rw [List.getElem?_append_left (lt_of B.b)]; exact B.b, by rw [List.getElem?_append_left (lt_of B.L)]; exact B.L, by rw [List.getElem?_append_left (lt_of B.W)]; exact B.W, B.n, B.cl, B.cw⟩
theorem BkS.app {H : List SB} {bk : Nat} {es : List OE} (B : BkS H bk es) (X : List SB) : BkS (H ++ X) bk es := by
  rcases B with ⟨h, hb⟩ | ⟨iL, cL, iW, cW, B⟩
  · exact .inl ⟨h, by rw [List.getElem?_append_left (lt_of hb)]; exact hb⟩
  · exact .inr ⟨iL, cL, iW, cW, B.app X⟩
theorem KeepB.app (H X : List SB) : KeepB H (H ++ X) := ⟨by simp, fun i b hi _ _ _ => by rw [List.getElem?_append_left (lt_of hi)]; exact hi⟩
end Go.Proofs.Ythbojoiogjdbeaa.Sx
namespace Go.Proofs.Ythbojoiogjdbeaa.Sx
open Go
set_option linter.unusedSimpArgs false
set_option linter.unusedVariables false
set_option maxRecDepth 10000
set_option maxHeartbeats 2000000
theorem DX.keep {S : Nat → Prop} {H H' : List SB} {x : SC} {d : List UInt8} (h : DX S H x d) (K : ∀ (i : Nat) (b : SB), H[i]? = some b → b.ty = 5 → H'[i]? = some b) : DX S H' x d := by
  rcases h with h | ⟨w, z, o, h1, h2, h3⟩
  · exact .inl h
  · exact .inr ⟨w, z, o, h1, K _ _ h2 rfl, h3⟩
/-- The document's card stays, where windows of its types stay. -/
theorem RSx.keep {S : Nat → Prop} {H H' : List SB} {rc rr rt : Nat} {k : CK} (h : RSx S H rc rr rt k) (K : ∀ (i : Nat) (b : SB), H[i]? = some b → (b.ty = 83 ∨ b.ty = 85 ∨ b.ty = 5) → H'[i]? = some b) : RSx S H' rc rr rt k := by
  obtain ⟨lr, lt, cr, ct, R, X, Y⟩ := h
  refine ⟨lr, lt, cr, ct, ⟨K _ _ R.hc (.inl rfl), K _ _ R.hr (.inr (.inl rfl)), K _ _ R.ht (.inr (.inl rfl)), R.ne, R.lr, R.lt, R.n1, R.n2, R.ar, R.at'⟩, ?_, ?_⟩
  · exact X.mono fun _ _ h => h.keep fun i b hi ht => K i b hi (.inr (.inr ht))
  · exact Y.mono fun _ _ h => h.keep fun i b hi ht => K i b hi (.inr (.inr ht))
theorem RSx.grow {S S' : Nat → Prop} {H : List SB} {rc rr rt : Nat} {k : CK} (h : RSx S H rc rr rt k) (hs : ∀ i, S' i → S i ∨ H.length ≤ i) : RSx S' H rc rr rt k := by
  obtain ⟨lr, lt, cr, ct, R, X, Y⟩ := h
  exact ⟨lr, lt, cr, ct, R, X.mono fun _ _ h => h.grow hs, Y.mono fun _ _ h => h.grow hs⟩
theorem PC.keep {H H' : List SB} {c w1 w2 : Nat} {k : CK} (h : PC H c w1 w2 k) (K : ∀ (i : Nat) (b : SB), H[i]? = some b → (b.ty = 73 ∨ b.ty = 76) → H'[i]? = some b) : PC H' c w1 w2 k :=
  ⟨K _ _ h.hc (.inl rfl), K _ _ h.h1 (.inr rfl), K _ _ h.h2 (.inr rfl), h.ne⟩
theorem BkS.keep {H H' : List SB} {bk : Nat} {es : List OE} (B : BkS H bk es) (K : ∀ (i : Nat) (b : SB), H[i]? = some b → (b.ty = 57 ∨ b.ty = 33 ∨ b.ty = 9) → H'[i]? = some b) : BkS H' bk es := by
  rcases B with ⟨h, hb⟩ | ⟨iL, cL, iW, cW, B⟩
  · exact .inl ⟨h, K _ _ hb (.inl rfl)⟩
  · exact .inr ⟨iL, cL, iW, cW, K _ _ B.b (.inl rfl), K _ _ B.L (.inr (.inl rfl)), K _ _ B.W (.inr (.inr rfl)), B.n, B.cl, B.cw⟩
theorem mask_off {L : List Nat} {H : List SB} {x : Nat} (h : L.contains x = false) : (maskL L 0 H)[x]? = H[x]? := by
  rw [maskL_get, Nat.zero_add, h]; cases H[x]? <;> rfl
theorem unL_off {L : List Nat} {H h' : List SB} {x : Nat} (h : L.contains x = false) : (unL L 0 H h')[x]? = h'[x]? := by
  rw [unL_get]
  cases h'[x]? with
  | none => rfl
  | some b =>
    simp only [Option.map_some, Nat.zero_add, h, cond_false]
    cases H[x]? <;> rfl
end Go.Proofs.Ythbojoiogjdbeaa.Sx
namespace Go.Proofs.Ythbojoiogjdbeaa.Sx
open Go
set_option linter.unusedSimpArgs false
set_option linter.unusedVariables false
set_option maxRecDepth 10000
set_option maxHeartbeats 2000000
theorem plug_off {r : Nat → Nat} {π : List Nat} {h0 h0' h : List SB} {i : Nat} {b : SB} (hi : h[i]? = some b) (hn : i ∉ π) : (plug r π h0 h0' h)[i]? = some b := by
  have lt := lt_of hi
  have lg : (plugGo r π h0 h0' h).length = h.length := plugGo_len
  unfold plug
  rw [List.getElem?_append_left (by omega)]
  obtain ⟨b', hb'⟩ : ∃ b', (plugGo r π h0 h0' h)[i]? = some b' := ⟨_, List.getElem?_eq_getElem (by omega)⟩
  rcases plugGo_cases hb' with ⟨h1, _⟩ | ⟨k, b0, b1, h1, _⟩
  · rw [hb', ← h1, hi]
  · exact absurd (List.mem_of_getElem? h1) hn
/-- The entries, by numbers from 'k' on. -/
def renE : Nat → List OE → List OE
  | _, [] => []
  | k, e :: es => ⟨k, e.l, e.p, e.o⟩ :: renE (k + 1) es
abbrev winE (e : OE) : SB := wB e.o (e.l ++ e.p)
theorem renE_get : ∀ {es : List OE} {k i : Nat}, (renE k es)[i]? = (es[i]?).map fun e => ⟨k + i, e.l, e.p, e.o⟩
  | [], _, _ => by simp [renE]
  | e :: es, k, 0 => by simp [renE]
  | e :: es, k, i + 1 => by
    simp only [renE, List.getElem?_cons_succ, renE_get (es := es) (k := k + 1) (i := i)]
    rw [show k + 1 + i = k + (i + 1) by omega]
theorem renE_len : ∀ (es : List OE) (k : Nat), (renE k es).length = es.length
  | [], _ => rfl
  | e :: es, k => by simp [renE, renE_len es (k + 1)]
theorem renE_l : ∀ (es : List OE) (k : Nat), (renE k es).map OE.l = es.map OE.l
  | [], _ => rfl
  | e :: es, k => by simp [renE, renE_l es (k + 1)]
theorem renE_owns (es : List OE) (a b c : SB) (hown : ∀ e ∈ es, 0 < e.l.length + e.p.length → e.o = true) (hlt : ∀ e ∈ es, e.l.length < 140737488351233) : Owns (a :: b :: c :: es.map winE) (renE 3 es) := by
  have key : ∀ (i : Nat) (f : OE), (renE 3 es)[i]? = some f → ∃ e, es[i]? = some e ∧ f = ⟨3 + i, e.l, e.p, e.o⟩ := by
    intro i f hf
    rw [renE_get] at hf
    cases he : es[i]? with
    | none => rw [he] at hf; cases hf
    | some e => rw [he] at hf; exact ⟨e, rfl, (Option.some.inj hf).symm⟩
  refine ⟨fun i f hf => ?_, fun i f hf => ?_, fun i f hf => ?_, fun i j f g hij hf hg => ?_⟩
  · obtain ⟨e, he, rfl⟩ := key i f hf
    show (a :: b :: c :: es.map winE)[3 + i]? = _
    rw [Nat.add_comm 3 i]
    simp only [List.getElem?_cons_succ, List.getElem?_map, he]
    rfl
  · obtain ⟨e, he, rfl⟩ := key i f hf
    exact hown e (List.mem_of_getElem? he)
  · obtain ⟨e, he, rfl⟩ := key i f hf
    exact hlt e (List.mem_of_getElem? he)
  · obtain ⟨e, he, rfl⟩ := key i f hf
    obtain ⟨e', he', rfl⟩ := key j g hg
    show 3 + i ≠ 3 + j
    omega
theorem preOk_es {r : Nat → Nat} {H : List SB} : ∀ {es : List OE}, (∀ e ∈ es, H[e.w]? = some (winE e)) → preOk r H (es.map OE.w) (es.map winE)
  | [], _ => trivial
  | e :: es, h => by
    refine ⟨?_, preOk_es fun x hx => h x (List.mem_cons_of_mem _ hx)⟩
    rw [h e (List.mem_cons_self ..)]
    exact ⟨(ren_bsC _ _).symm, fun h => ⟨h, rfl⟩⟩
theorem piOk_es : ∀ {es : List OE}, (∀ (i j : Nat) (e f : OE), i ≠ j → es[i]? = some e → es[j]? = some f → e.w ≠ f.w) → piOk (es.map OE.w) (es.map winE) = true
  | [], _ => rfl
  | e :: es, h => by
    simp only [List.map_cons, piOk, Bool.and_eq_true]
    refine ⟨?_, piOk_es fun i j a b hij ha hb => h (i + 1) (j + 1) a b (by omega) (by simpa using ha) (by simpa using hb)⟩
    rw [List.all_eq_true]
    rintro ⟨x, y⟩ hq
    have hx := (List.of_mem_zip hq).1
    simp only [List.mem_map] at hx
    obtain ⟨f, hf, rfl⟩ := hx
    obtain ⟨j, hj, hf'⟩ := List.getElem_of_mem hf
    have := h 0 (j + 1) e f (by omega) rfl (by simp [List.getElem?_eq_getElem hj, hf'])
    simp [this]
theorem renE_ren {r : Nat → Nat} : ∀ {es : List OE} {k : Nat}, (∀ (i : Nat) (e : OE), es[i]? = some e → r (k + i) = e.w) → ((renE k es).map OE.sc).map (SC.ren r) = es.map OE.sc
  | [], _, _ => rfl
  | e :: es, k, h => by
    simp only [renE, List.map_cons]
    rw [renE_ren fun i f hf => by rw [show k + 1 + i = k + (i + 1) by omega]; exact h (i + 1) f (by simpa using hf)]
    congr 1
    show SC.sl (r k) 0 _ _ = SC.sl e.w 0 _ _
    rw [show r k = e.w from h 0 e rfl]
theorem all_ne {x : Nat} {l : List Nat} {hs : List SB} {p : Nat × SB → Bool} (h : ∀ y ∈ l, x ≠ y) : ((l.zip hs).all fun q => !x == q.1 || p q) = true := by
  rw [List.all_eq_true]
  rintro ⟨y, b⟩ hq
  have := h y (List.of_mem_zip hq).1
  simp [this]
theorem renE_lt : ∀ (es : List OE) (k n : Nat), k + es.length ≤ n → ((renE k es).map OE.sc).all (SC.lt n) = true
  | [], _, _, _ => rfl
  | e :: es, k, n, h => by
    simp only [List.length_cons] at h
    simp only [renE, List.map_cons, List.all_cons, Bool.and_eq_true]
    refine ⟨?_, renE_lt es (k + 1) n (by omega)⟩
    simp only [OE.sc, SC.lt, decide_eq_true_eq]
    omega
theorem ownedF_spec {H : List SB} {bk : Nat} {es : List OE} {iL cL iW cW : Nat} (B : Book H bk (es.map OE.sc) (es.map OE.l) iL cL iW cW) (O : Owns H es) (hn : es.length < 4398046511104) :
    Spec cx.P 20 [.c (.ptr bk 0)] H fun t h' => t = .c (bC true) ∧ H.length ≤ h'.length ∧ ∀ (i : Nat) (b : SB), H[i]? = some b → i ≠ bk → i ≠ iL → i ≠ iW → (∀ e ∈ es, e.w ≠ i) → h'[i]? = some b := by
  have oe : ∀ e ∈ es, ∃ i, es[i]? = some e := fun e he => by
    obtain ⟨i, hi, h⟩ := List.getElem_of_mem he
    exact ⟨i, by rw [List.getElem?_eq_getElem hi, h]⟩
  have n1 := ty_ne B.b B.L (by decide : (57 : Nat) ≠ 33)
  have n2 := ty_ne B.b B.W (by decide : (57 : Nat) ≠ 9)
  have n3 := ty_ne B.L B.W (by decide : (33 : Nat) ≠ 9)
  have m1 : ∀ e ∈ es, bk ≠ e.w := fun e he => by obtain ⟨i, hi⟩ := oe e he; exact ty_ne B.b (O.at_ i e hi) (by decide : (57 : Nat) ≠ 5)
  have m2 : ∀ e ∈ es, iL ≠ e.w := fun e he => by obtain ⟨i, hi⟩ := oe e he; exact ty_ne B.L (O.at_ i e hi) (by decide : (33 : Nat) ≠ 5)
  have m3 : ∀ e ∈ es, iW ≠ e.w := fun e he => by obtain ⟨i, hi⟩ := oe e he; exact ty_ne B.W (O.at_ i e hi) (by decide : (9 : Nat) ≠ 5)
  have L := B.L
  have W := B.W
  have hb := B.b
  have cl := B.cl
  have cw := B.cw
  simp only [List.length_map] at L W hb cl cw
  have s := owned_spec ([bookB (.sl 1 0 es.length cL) (.sl 2 0 es.length cW), listsB ((renE 3 es).map OE.sc ++ List.replicate (cL - es.length) nilC), wasB ((es.map OE.l).map strB ++ List.replicate (cW - es.length) noS)] ++ es.map winE) 0 (renE 3 es) 1 cL 2 cW
    ⟨by simp [renE_len], by simp [renE_len], by rw [renE_l]; simp [renE_len], by simp, by simpa [renE_len] using cl, by simpa [renE_len] using cw⟩
    (renE_owns es _ _ _ (fun e he => by obtain ⟨i, hi⟩ := oe e he; exact O.own i e hi) (fun e he => by obtain ⟨i, hi⟩ := oe e he; exact O.lt i e hi)) (by rw [renE_len]; exact hn)
  have r0 : ∀ (i : Nat) (e : OE), es[i]? = some e → renF ([bk, iL, iW] ++ es.map OE.w) H.length (3 + i) = e.w := fun i e he => by
    unfold renF
    rw [List.getElem?_append_right (by simp), show 3 + i - [bk, iL, iW].length = i by simp, List.getElem?_map, he]
    rfl
  refine (s.frame (args := [.c (.ptr bk 0)]) (h := H) false (fun h => by cases h) ([bk, iL, iW] ++ es.map OE.w) ⟨.inl ⟨by simp [SV.lt, SC.lt], rfl⟩, trivial⟩ ?_ ?_ ?_).mono fun t h' ⟨s0, h0', e1, e2, e3⟩ => ?_
  · show ((([iL, iW] ++ es.map OE.w).zip _).all _ && ((([iW] ++ es.map OE.w).zip _).all _ && (((es.map OE.w).zip _).all _ && piOk _ _))) = true
    rw [Bool.and_eq_true, Bool.and_eq_true, Bool.and_eq_true]
    refine ⟨all_ne fun y hy => ?_, all_ne fun y hy => ?_, all_ne fun y hy => ?_, piOk_es O.ne⟩
    · simp only [List.mem_append, List.mem_cons, List.not_mem_nil, or_false, List.mem_map] at hy
      rcases hy with (rfl | rfl) | ⟨e, he, rfl⟩
      · exact n1
      · exact n2
      · exact m1 e he
    · simp only [List.mem_append, List.mem_cons, List.not_mem_nil, or_false, List.mem_map] at hy
      rcases hy with rfl | ⟨e, he, rfl⟩
      · exact n3
      · exact m2 e he
    · simp only [List.mem_map] at hy
      obtain ⟨e, he, rfl⟩ := hy
      exact m3 e he
  · refine ⟨?_, ?_, ?_, preOk_es fun e he => ?_⟩
    · rw [hb]
      exact ⟨by simp only [List.length_map]; rfl, fun _ => ⟨rfl, rfl⟩⟩
    · rw [L]
      refine ⟨?_, fun _ => ⟨rfl, rfl⟩⟩
      show _ = List.map _ (_ ++ _)
      rw [List.map_append, renE_ren r0, List.map_replicate]
      rfl
    · rw [W]
      refine ⟨?_, fun _ => ⟨rfl, rfl⟩⟩
      show _ = List.map _ (_ ++ _)
      have hs : ∀ (r : Nat → Nat) (l : List (List UInt8)), (l.map strB).map (SC.ren r) = l.map strB := fun r l => by rw [List.map_map]; rfl
      rw [List.map_append, List.map_replicate, hs]
      rfl
    · obtain ⟨i, hi⟩ := oe e he
      exact O.at_ i e hi
  · rw [List.all_append, Bool.and_eq_true]
    refine ⟨?_, ?_⟩
    · simp only [List.all_cons, List.all_nil, Bool.and_true, Bool.and_eq_true, List.all_append]
      refine ⟨⟨by simp [SC.lt], by simp [SC.lt]⟩, ⟨renE_lt _ _ _ (by simp; omega), ?_⟩, ?_, ?_⟩
      · rw [List.all_eq_true]; intro x hx; rw [List.eq_of_mem_replicate hx]; rfl
      · rw [List.all_eq_true]; intro x hx; obtain ⟨y, _, rfl⟩ := List.mem_map.1 hx; rfl
      · rw [List.all_eq_true]; intro x hx; rw [List.eq_of_mem_replicate hx]; rfl
    · rw [List.all_eq_true]
      intro x hx
      obtain ⟨e, _, rfl⟩ := List.mem_map.1 hx
      rw [List.all_eq_true]
      intro y hy
      obtain ⟨z, _, rfl⟩ := List.mem_map.1 hy
      rfl
  · subst e1 e2 e3
    refine ⟨rfl, ?_, fun i b hi h1 h2 h3 h4 => plug_off hi ?_⟩
    · unfold plug
      rw [List.length_append, plugGo_len]
      omega
    · intro hm
      simp only [List.mem_append, List.mem_cons, List.not_mem_nil, or_false, List.mem_map] at hm
      rcases hm with (h | h | h) | ⟨e, he, h⟩
      · exact h1 h
      · exact h2 h
      · exact h3 h
      · exact h4 e he h
end Go.Proofs.Ythbojoiogjdbeaa.Sx
namespace Go.Proofs.Ythbojoiogjdbeaa.Sx
open Go
set_option linter.unusedSimpArgs false
set_option linter.unusedVariables false
set_option maxRecDepth 10000
set_option maxHeartbeats 2000000
theorem maskL_len (L : List Nat) : ∀ (h : List SB) (k : Nat), (maskL L k h).length = h.length
  | [], _ => rfl
  | b :: r, k => by simp [maskL, maskL_len L r (k + 1)]
theorem unL_len (L : List Nat) : ∀ (h0 h : List SB) (k : Nat), (unL L k h0 h).length = h.length
  | [], [], _ => rfl
  | _ :: _, [], _ => rfl
  | [], _ :: _, _ => rfl
  | b0 :: r0, b :: r, k => by simp [unL, unL_len L r0 r (k + 1)]
/-- All but some windows, and a book's, stay. -/
def Kp (X : Nat → Prop) (H h' : List SB) : Prop := H.length ≤ h'.length ∧ ∀ (i : Nat) (b : SB), H[i]? = some b → ¬ X i → b.ty ≠ 57 → b.ty ≠ 33 → b.ty ≠ 9 → h'[i]? = some b
theorem Kp.rfl' {X : Nat → Prop} (H : List SB) : Kp X H H := ⟨Nat.le_refl _, fun _ _ h _ _ _ _ => h⟩
theorem Kp.trans {X : Nat → Prop} {a b c : List SB} (h1 : Kp X a b) (h2 : Kp X b c) : Kp X a c :=
  ⟨Nat.le_trans h1.1 h2.1, fun i x hx n n1 n2 n3 => h2.2 i x (h1.2 i x hx n n1 n2 n3) n n1 n2 n3⟩
theorem Kp.app {X : Nat → Prop} (H Y : List SB) : Kp X H (H ++ Y) := ⟨by simp, fun i b hi _ _ _ _ => by rw [List.getElem?_append_left (lt_of hi)]; exact hi⟩
theorem Kp.ofBut {X p : Nat → Prop} {H h' : List SB} (K : But H h' p) (hp : ∀ i, p i → X i) : Kp X H h' :=
  ⟨K.1, fun i b hi n _ _ _ => by rw [K.2 i (lt_of hi) (fun h => n (hp i h))]; exact hi⟩
theorem Kp.set {X : Nat → Prop} {H h' : List SB} (K : Kp X H h') {j : Nat} (hj : X j ∨ H.length ≤ j) (x : SB) : Kp X H (h'.set j x) :=
  ⟨by rw [List.length_set]; exact K.1, fun i b hi n n1 n2 n3 => by
    have : j ≠ i := by
      rintro rfl
      rcases hj with h | h
      · exact n h
      · have := lt_of hi; omega
    rw [List.getElem?_set_ne this]; exact K.2 i b hi n n1 n2 n3⟩
/-- Both cards of a pair, and their book. -/
structure J4 (S : Nat → Prop) (H : List SB) (c w1 w2 rc rr rt bk : Nat) (kc kr : CK) (es : List OE) : Prop where
  C : PC H c w1 w2 kc
  R : RSx S H rc rr rt kr
  B : BkS H bk es
  O : Owns H es
  sub : ∀ e ∈ es, S e.w
  hS : ∀ i, S i → i < H.length
abbrev X6 (c w1 w2 rc rr rt : Nat) : Nat → Prop := fun i => i = c ∨ i = w1 ∨ i = w2 ∨ i = rc ∨ i = rr ∨ i = rt
/-- Types of windows that are no pair's, no op's. -/
def tyP (t : TypeId) : Prop := t = 73 ∨ t = 76 ∨ t = 83 ∨ t = 85 ∨ t = 5 ∨ t = 57 ∨ t = 33 ∨ t = 9
section
variable {S : Nat → Prop} {H : List SB} {c w1 w2 rc rr rt bk : Nat} {kc kr : CK} {es : List OE}
theorem Owns.keep' {H H' : List SB} {es : List OE} (O : Owns H es) (K : ∀ (i : Nat) (b : SB), H[i]? = some b → b.ty = 5 → H'[i]? = some b) : Owns H' es :=
  ⟨fun i e he => K _ _ (O.at_ i e he) rfl, O.own, O.lt, O.ne⟩
theorem J4.keep (J : J4 S H c w1 w2 rc rr rt bk kc kr es) {H' : List SB} (hl : H.length ≤ H'.length) (K : ∀ (i : Nat) (b : SB), H[i]? = some b → tyP b.ty → H'[i]? = some b) : J4 S H' c w1 w2 rc rr rt bk kc kr es where
  C := J.C.keep fun i b hi h => K i b hi (by unfold tyP; rcases h with h | h <;> simp [h])
  R := J.R.keep fun i b hi h => K i b hi (by unfold tyP; rcases h with h | h | h <;> simp [h])
  B := J.B.keep fun i b hi h => K i b hi (by unfold tyP; rcases h with h | h | h <;> simp [h])
  O := J.O.keep' fun i b hi h => K i b hi (by unfold tyP; simp [h])
  sub := J.sub
  hS := fun i hi => Nat.lt_of_lt_of_le (J.hS i hi) hl
theorem J4.app (J : J4 S H c w1 w2 rc rr rt bk kc kr es) (Y : List SB) : J4 S (H ++ Y) c w1 w2 rc rr rt bk kc kr es :=
  J.keep (by simp) fun i b hi _ => by rw [List.getElem?_append_left (lt_of hi)]; exact hi
/-- A new window may be counted among those of the owner. -/
theorem J4.grow (J : J4 S H c w1 w2 rc rr rt bk kc kr es) (Y : List SB) (hY : 0 < Y.length) : J4 (fun i => S i ∨ i = H.length) (H ++ Y) c w1 w2 rc rr rt bk kc kr es :=
  have J1 := J.app Y
  ⟨J1.C, (J.R.grow (S' := fun i => S i ∨ i = H.length) fun i hi => hi.elim .inl fun h => .inr (by omega)).keep fun i b hi _ => by rw [List.getElem?_append_left (lt_of hi)]; exact hi, J1.B, J1.O, fun e he => .inl (J.sub e he), fun i hi => by
    rcases hi with h | h
    · exact J1.hS i h
    · rw [List.length_append]; omega⟩
theorem J4.tys (J : J4 S H c w1 w2 rc rr rt bk kc kr es) : (∃ b, H[rc]? = some b ∧ b.ty = 83) ∧ (∃ b, H[rr]? = some b ∧ b.ty = 85) ∧ (∃ b, H[rt]? = some b ∧ b.ty = 85) := by
  obtain ⟨lr, lt, cr, ct, R, _, _⟩ := J.R
  exact ⟨⟨_, R.hc, rfl⟩, ⟨_, R.hr, rfl⟩, ⟨_, R.ht, rfl⟩⟩
/-- A call at the card. -/
theorem J4.setC (J : J4 S H c w1 w2 rc rr rt bk kc kr es) (k' : CK) : J4 S (setC H c w1 w2 k') c w1 w2 rc rr rt bk k' kr es ∧ Kp (X6 c w1 w2 rc rr rt) H (setC H c w1 w2 k') := by
  have off : ∀ (i : Nat) (b : SB), H[i]? = some b → b.ty ≠ 73 → b.ty ≠ 76 → (Sx.setC H c w1 w2 k')[i]? = some b := fun i b hi t1 t2 => by
    rw [setC_off (ty_ne hi J.C.hc t1) (ty_ne hi J.C.h1 t2) (ty_ne hi J.C.h2 t2)]
    exact hi
  refine ⟨⟨J.C.set k', J.R.keep fun i b hi h => off i b hi ?_ ?_, J.B.keep fun i b hi h => off i b hi ?_ ?_, J.O.keep' fun i b hi h => off i b hi ?_ ?_, J.sub, fun i hi => by rw [setC_len]; exact J.hS i hi⟩, by rw [setC_len]; exact Nat.le_refl _, fun i b hi n _ _ _ => ?_⟩
  · rcases h with h | h | h <;> rw [h] <;> decide
  · rcases h with h | h | h <;> rw [h] <;> decide
  · rcases h with h | h | h <;> rw [h] <;> decide
  · rcases h with h | h | h <;> rw [h] <;> decide
  · rw [h]; decide
  · rw [h]; decide
  · have h1 : i ≠ c := fun e => n (.inl e)
    have h2 : i ≠ w1 := fun e => n (.inr (.inl e))
    have h3 : i ≠ w2 := fun e => n (.inr (.inr (.inl e)))
    rw [setC_off h1 h2 h3]; exact hi
/-- A call at the document's card. -/
theorem J4.ref (J : J4 S H c w1 w2 rc rr rt bk kc kr es) {h' : List SB} {kr' : CK} (R' : RSx S h' rc rr rt kr') (K : But H h' (fun i => i = rc ∨ i = rr ∨ i = rt)) : J4 S h' c w1 w2 rc rr rt bk kc kr' es ∧ Kp (X6 c w1 w2 rc rr rt) H h' := by
  obtain ⟨⟨b1, e1, t1⟩, ⟨b2, e2, t2⟩, ⟨b3, e3, t3⟩⟩ := J.tys
  have off : ∀ (i : Nat) (b : SB), H[i]? = some b → b.ty ≠ 83 → b.ty ≠ 85 → h'[i]? = some b := fun i b hi n1 n2 => by
    rw [K.2 i (lt_of hi) (by
      rintro (h | h | h)
      · exact ty_ne hi e1 (by rw [t1]; exact n1) h
      · exact ty_ne hi e2 (by rw [t2]; exact n2) h
      · exact ty_ne hi e3 (by rw [t3]; exact n2) h)]
    exact hi
  refine ⟨⟨J.C.keep fun i b hi h => off i b hi ?_ ?_, R', J.B.keep fun i b hi h => off i b hi ?_ ?_, J.O.keep' fun i b hi h => off i b hi ?_ ?_, J.sub, fun i hi => Nat.lt_of_lt_of_le (J.hS i hi) K.1⟩, Kp.ofBut K fun i h => .inr (.inr (.inr h))⟩
  · rcases h with h | h <;> rw [h] <;> decide
  · rcases h with h | h <;> rw [h] <;> decide
  · rcases h with h | h | h <;> rw [h] <;> decide
  · rcases h with h | h | h <;> rw [h] <;> decide
  · rw [h]; decide
  · rw [h]; decide
theorem But.wk {H h' : List SB} {p q : Nat → Prop} (K : But H h' p) (hp : ∀ i, p i → q i) : But H h' q := ⟨K.1, fun k hk n => K.2 k hk fun h => n (hp k h)⟩
/-- A drawn region: what is masked stands again behind it. -/
theorem J4.mask {L : List Nat} (J : J4 S H c w1 w2 rc rr rt bk kc kr es) (hL : ∀ i ∈ L, ∃ b, H[i]? = some b ∧ ¬ tyP b.ty) : J4 S (maskL L 0 H) c w1 w2 rc rr rt bk kc kr es :=
  J.keep (by rw [maskL_len]; exact Nat.le_refl _) fun i b hi ht => by
    rw [mask_off, hi]
    rw [Bool.eq_false_iff]
    intro h
    obtain ⟨b', hb', n⟩ := hL i (by simpa using h)
    rw [hi] at hb'
    cases hb'
    exact n ht
/-- A list is counted among those that came out. -/
theorem J4.take (J : J4 S H c w1 w2 rc rr rt bk kc kr es) (e : OE) {h' : List SB} (h1 : H[e.w]? = some (wB e.o (e.l ++ e.p))) (h2 : 0 < e.l.length + e.p.length → e.o = true) (h3 : e.l.length < 140737488351233) (h4 : ∀ f ∈ es, f.w ≠ e.w) (h5 : S e.w) (B' : BkS h' bk (es ++ [e])) (K : KeepB H h') : J4 S h' c w1 w2 rc rr rt bk kc kr (es ++ [e]) :=
  ⟨J.C.keep fun i b hi h => K.2 i b hi (by rcases h with h | h <;> rw [h] <;> decide) (by rcases h with h | h <;> rw [h] <;> decide) (by rcases h with h | h <;> rw [h] <;> decide),
   J.R.keep fun i b hi h => K.2 i b hi (by rcases h with h | h | h <;> rw [h] <;> decide) (by rcases h with h | h | h <;> rw [h] <;> decide) (by rcases h with h | h | h <;> rw [h] <;> decide),
   B', (J.O.push e h1 h2 h3 h4).keep K, fun f hf => by
    rcases List.mem_append.1 hf with h | h
    · exact J.sub f h
    · rw [List.mem_singleton] at h; rw [h]; exact h5, fun i hi => Nat.lt_of_lt_of_le (J.hS i hi) K.1⟩
theorem fz_ok {ok : Nat → Bool} {r : Nat → Nat} {n : Nat} {h : List SB} {i o c : Nat} {l sp : List UInt8} {b : SB} (hk : ok i = true) (hb : h[i]? = some b) (hv : b.void = false) (hc : b.cells.drop o = bsC (l ++ sp)) : frC true ok r n h (.sl i o l.length c) (roB l sp c) :=
  .inr ⟨rfl, .inl ⟨_, _, _, rfl, .inr (.inr ⟨i, o, rfl, .inr ⟨hk, b, hb, hv, by
    have := frL_bs (ok := ok) (h := h) [] (l ++ sp)
    rw [List.append_nil] at this
    rw [hc]; exact this⟩⟩)⟩⟩
theorem notW3 {c w1 w2 w : Nat} {k : CK} (h1 : w ≠ c) (h2 : w ≠ w1) (h3 : w ≠ w2) : notW [c, w1, w2] k.h w = true := by
  simp [notW, Ne.symm h1, Ne.symm h2, Ne.symm h3]
/-- Arrive at the card. -/
theorem J4.arrive (J : J4 S H c w1 w2 rc rr rt bk kc kr es) (ok : kc.ok) (w : Nat) (b sp : List UInt8) (cc : Nat) (hw : H[w]? = some (wB true (b ++ sp))) : Spec cx.P 10 [.c (.ptr c 0), .c (.sl w 0 b.length cc)] H fun t h' => t = .c (bC (arrB kc b)) ∧ J4 S h' c w1 w2 rc rr rt bk (arrK kc b) kr es ∧ Kp (X6 c w1 w2 rc rr rt) H h' := by
  refine (J.C.spec (bs := [.c (.sl w 0 b.length cc)]) (arriveA_spec kc ok b sp cc) (fun t h' ⟨h1, h2⟩ => by subst h1 h2; exact ⟨rfl, card_noRo _⟩) ⟨fz_c (fz_ok (notW3 (ty_ne hw J.C.hc (by decide : (5 : Nat) ≠ 73)) (ty_ne hw J.C.h1 (by decide : (5 : Nat) ≠ 76)) (ty_ne hw J.C.h2 (by decide : (5 : Nat) ≠ 76))) hw rfl rfl), trivial⟩).mono ?_
  rintro _ _ ⟨_, _, ⟨rfl, rfl⟩, rfl, rfl⟩
  rw [plug3']
  exact ⟨rfl, J.setC _⟩
theorem J4.lay (J : J4 S H c w1 w2 rc rr rt bk kc kr es) (ok : kc.ok) (i : Int) (w : Nat) (b sp : List UInt8) (cc : Nat) (hw : H[w]? = some (wB true (b ++ sp))) : Spec cx.P 57 [.c (.ptr c 0), .c (i64 i), .c (.sl w 0 b.length cc)] H fun t h' => t = .c (i64 (layE kc i b)) ∧ J4 S h' c w1 w2 rc rr rt bk (layK kc i b) kr es ∧ Kp (X6 c w1 w2 rc rr rt) H h' := by
  refine (J.C.spec (bs := [.c (i64 i), .c (.sl w 0 b.length cc)]) (layA_spec kc ok i b sp cc) (fun t h' ⟨h1, h2⟩ => by subst h1 h2; exact ⟨rfl, card_noRo _⟩) ⟨.inl ⟨rfl, rfl⟩, fz_c (fz_ok (notW3 (ty_ne hw J.C.hc (by decide : (5 : Nat) ≠ 73)) (ty_ne hw J.C.h1 (by decide : (5 : Nat) ≠ 76)) (ty_ne hw J.C.h2 (by decide : (5 : Nat) ≠ 76))) hw rfl rfl), trivial⟩).mono ?_
  rintro _ _ ⟨_, _, ⟨rfl, rfl⟩, rfl, rfl⟩
  rw [plug3']
  exact ⟨rfl, J.setC _⟩
theorem J4.give (J : J4 S H c w1 w2 rc rr rt bk kc kr es) (ok : kc.ok) (i : Int) : Spec cx.P 33 [.c (.ptr c 0), .c (i64 i)] H fun t h' => t = .c (i64 (givE kc i)) ∧ J4 S h' c w1 w2 rc rr rt bk (givK kc i) kr es ∧ Kp (X6 c w1 w2 rc rr rt) H h' := by
  refine (J.C.spec (bs := [.c (i64 i)]) (giveA_spec kc ok i) (fun t h' ⟨h1, h2⟩ => by subst h1 h2; exact ⟨rfl, card_noRo _⟩) ⟨.inl ⟨rfl, rfl⟩, trivial⟩).mono ?_
  rintro _ _ ⟨_, _, ⟨rfl, rfl⟩, rfl, rfl⟩
  rw [plug3']
  exact ⟨rfl, J.setC _⟩
/-- What came out stands in a new window. -/
def New4 (S : Nat → Prop) (H h' : List SB) (d : List UInt8) (w : Nat) (o : Bool) (S' : Nat → Prop) : Prop := H.length ≤ w ∧ h'[w]? = some (wB o d) ∧ (0 < d.length → o = true) ∧ S' = fun i => S i ∨ i = w
theorem J4.new (J : J4 S H c w1 w2 rc rr rt bk kc kr es) (k' : CK) (o : Bool) (d : List UInt8) (ho : 0 < d.length → o = true) : J4 (fun i => S i ∨ i = H.length) (Sx.setC H c w1 w2 k' ++ [wB o d]) c w1 w2 rc rr rt bk k' kr es ∧ Kp (X6 c w1 w2 rc rr rt) H (Sx.setC H c w1 w2 k' ++ [wB o d]) ∧ New4 S H (Sx.setC H c w1 w2 k' ++ [wB o d]) d H.length o (fun i => S i ∨ i = H.length) := by
  obtain ⟨J1, K1⟩ := J.setC k'
  have J2 := J1.grow [wB o d] (by simp)
  rw [setC_len] at J2
  exact ⟨J2, K1.trans (Kp.app _ _), Nat.le_refl _, by rw [List.getElem?_append_right (by rw [setC_len]; exact Nat.le_refl _), setC_len, Nat.sub_self]; rfl, ho, rfl⟩
theorem J4.dep (J : J4 S H c w1 w2 rc rr rt bk kc kr es) (ok : kc.ok) : Spec cx.P 13 [.c (.ptr c 0)] H fun t h' => ∃ w o S', t = .tup [(false, [.sl w 0 (depD kc).length (depD kc).length]), (false, [bC (depB kc)])] ∧ J4 S' h' c w1 w2 rc rr rt bk (depK kc) kr es ∧ Kp (X6 c w1 w2 rc rr rt) H h' ∧ New4 S H h' (depD kc) w o S' := by
  refine (J.C.spec (bs := []) (departA_spec kc ok) (fun t h' h => resO_noRo h) trivial).mono ?_
  rintro _ _ ⟨_, _, ⟨o, rfl, rfl, ho⟩, rfl, rfl⟩
  rw [plug3]
  simp only [List.map_cons, List.map_nil, SB.ren, ren_bsC]
  obtain ⟨J1, K1, N1⟩ := J.new (depK kc) o (depD kc) ho
  exact ⟨H.length, o, _, rfl, J1, K1, N1⟩
theorem setC_same (h : PC H c w1 w2 kc) : Sx.setC H c w1 w2 kc = H := by
  unfold Sx.setC
  rw [set_same h.hc, set_same h.h1, set_same h.h2]
theorem J4.rx (J : J4 S H c w1 w2 rc rr rt bk kc kr es) (ok : kc.ok) (i : Int) : Spec cx.P 30 [.c (.ptr c 0), .c (i64 i)] H fun t h' => ∃ w o S', t = .tup [(true, [bC (seeS kc.rx i), .sl w 0 (seeD kc.rx i).length (seeD kc.rx i).length]), (false, [i64 (seeE kc.rx i)])] ∧ J4 S' h' c w1 w2 rc rr rt bk kc kr es ∧ Kp (X6 c w1 w2 rc rr rt) H h' ∧ New4 S H h' (seeD kc.rx i) w o S' := by
  refine (J.C.spec (bs := [.c (i64 i)]) (rxA_spec kc ok i) (fun t h' h => resD_noRo h) ⟨.inl ⟨rfl, rfl⟩, trivial⟩).mono ?_
  rintro _ _ ⟨_, _, ⟨o, rfl, rfl, ho⟩, rfl, rfl⟩
  rw [plug3]
  simp only [List.map_cons, List.map_nil, SB.ren, ren_bsC]
  obtain ⟨J1, K1, N1⟩ := J.new kc o (seeD kc.rx i) ho
  exact ⟨H.length, o, _, rfl, J1, K1, N1⟩
theorem J4.tx (J : J4 S H c w1 w2 rc rr rt bk kc kr es) (ok : kc.ok) (i : Int) : Spec cx.P 45 [.c (.ptr c 0), .c (i64 i)] H fun t h' => ∃ w o S', t = .tup [(true, [bC (seeS kc.tx i), .sl w 0 (seeD kc.tx i).length (seeD kc.tx i).length]), (false, [i64 (seeE kc.tx i)])] ∧ J4 S' h' c w1 w2 rc rr rt bk kc kr es ∧ Kp (X6 c w1 w2 rc rr rt) H h' ∧ New4 S H h' (seeD kc.tx i) w o S' := by
  refine (J.C.spec (bs := [.c (i64 i)]) (txA_spec kc ok i) (fun t h' h => resD_noRo h) ⟨.inl ⟨rfl, rfl⟩, trivial⟩).mono ?_
  rintro _ _ ⟨_, _, ⟨o, rfl, rfl, ho⟩, rfl, rfl⟩
  rw [plug3]
  simp only [List.map_cons, List.map_nil, SB.ren, ren_bsC]
  obtain ⟨J1, K1, N1⟩ := J.new kc o (seeD kc.tx i) ho
  exact ⟨H.length, o, _, rfl, J1, K1, N1⟩
end
theorem unL_ge {L : List Nat} {H h : List SB} {j : Nat} (hj : H.length ≤ j) : (unL L 0 H h)[j]? = h[j]? := by
  rw [unL_get, List.getElem?_eq_none hj]; cases h[j]? <;> rfl
theorem append_at {H : List SB} (y : SB) : (H ++ [y])[H.length]? = some y := by rw [List.getElem?_append_right (Nat.le_refl _), Nat.sub_self]; rfl
theorem append_set {H : List SB} (y z : SB) : (H ++ [y]).set H.length z = H ++ [z] := by
  rw [List.set_append_right _ _ (Nat.le_refl _), Nat.sub_self]; rfl
theorem append_len1 {H : List SB} (y : SB) : (H ++ [y]).length = H.length + 1 := by simp
theorem DX.unL {S : Nat → Prop} {L : List Nat} {H h : List SB} {x : SC} {d : List UInt8} (D : DX S h x d) (hL : ∀ i ∈ L, ∃ b, h[i]? = some b ∧ b.ty ≠ 5) : DX S (unL L 0 H h) x d :=
  D.keep fun i b hi ht => by
    rw [unL_off, hi]
    rw [Bool.eq_false_iff]
    intro h'
    obtain ⟨b', hb', n⟩ := hL i (by simpa using h')
    rw [hi] at hb'
    cases hb'
    exact n ht
theorem DX.keep3 {S : Nat → Prop} {H H' : List SB} {x : SC} {d : List UInt8} (h : DX S H x d) (K : ∀ (i : Nat) (b : SB), H[i]? = some b → b.ty = 5 ∧ ¬ S i → H'[i]? = some b) : DX S H' x d := by
  rcases h with h | ⟨w, z, o, h1, h2, h3, h4⟩
  · exact .inl h
  · exact .inr ⟨w, z, o, h1, K _ _ h2 ⟨rfl, h4⟩, h3, h4⟩
theorem RSx.keep3 {S : Nat → Prop} {H H' : List SB} {rc rr rt : Nat} {k : CK} (h : RSx S H rc rr rt k) (K : ∀ (i : Nat) (b : SB), H[i]? = some b → (b.ty = 83 ∨ i = rr ∨ i = rt ∨ (b.ty = 5 ∧ ¬ S i)) → H'[i]? = some b) : RSx S H' rc rr rt k := by
  obtain ⟨lr, lt, cr, ct, R, X, Y⟩ := h
  refine ⟨lr, lt, cr, ct, ⟨K _ _ R.hc (.inl rfl), K _ _ R.hr (.inr (.inl rfl)), K _ _ R.ht (.inr (.inr (.inl rfl))), R.ne, R.lr, R.lt, R.n1, R.n2, R.ar, R.at'⟩, ?_, ?_⟩
  · exact X.mono fun _ _ h => h.keep3 fun i b hi ht => K i b hi (.inr (.inr (.inr ht)))
  · exact Y.mono fun _ _ h => h.keep3 fun i b hi ht => K i b hi (.inr (.inr (.inr ht)))
/-- Bytes of the caller's own are written. -/
theorem J4.setB {S : Nat → Prop} {H : List SB} {c w1 w2 rc rr rt bk : Nat} {kc kr : CK} {es : List OE} (J : J4 S H c w1 w2 rc rr rt bk kc kr es) {w : Nat} {z : SB} (hw : H[w]? = some z) (hz : z.ty = 5) (hS : S w) (hne : ∀ e ∈ es, e.w ≠ w) (y : SB) : J4 S (H.set w y) c w1 w2 rc rr rt bk kc kr es := by
  have off : ∀ (i : Nat) (b : SB), H[i]? = some b → i ≠ w → (H.set w y)[i]? = some b := fun i b hi n => by
    rw [List.getElem?_set_ne (Ne.symm n)]
    exact hi
  have off' : ∀ (i : Nat) (b : SB), H[i]? = some b → b.ty ≠ 5 → (H.set w y)[i]? = some b := fun i b hi n => off i b hi (ty_ne hi hw (by rw [hz]; exact n))
  obtain ⟨_, ⟨b2, e2, t2⟩, ⟨b3, e3, t3⟩⟩ := J.tys
  refine ⟨J.C.keep fun i b hi h => off' i b hi ?_, J.R.keep3 fun i b hi h => ?_, J.B.keep fun i b hi h => off' i b hi ?_, ⟨fun i e he => off _ _ (J.O.at_ i e he) (hne e (List.mem_of_getElem? he)), J.O.own, J.O.lt, J.O.ne⟩, J.sub, fun i hi => by rw [List.length_set]; exact J.hS i hi⟩
  · rcases h with h | h <;> rw [h] <;> decide
  · rcases h with h | rfl | rfl | h
    · exact off' i b hi (by rw [h]; decide)
    · rw [e2] at hi; cases hi; exact off' _ _ e2 (by rw [t2]; decide)
    · rw [e3] at hi; cases hi; exact off' _ _ e3 (by rw [t3]; decide)
    · exact off i b hi (fun e => h.2 (by rw [e]; exact hS))
  · rcases h with h | h | h <;> rw [h] <;> decide
/-- What was lent stands as it was, in any heap. -/
theorem asLentA_spec {H : List SB} {w : Nat} (b sp : List UInt8) (cc : Nat) (hl : b.length ≤ 140737488355328) (hw : H[w]? = some (wB true (b ++ [71, 72]))) :
    Spec cx.P 61 [.c (.sl w 0 b.length (b.length + 2)), .c (roB b sp cc)] H fun t h' => t = .c (bC true) ∧ h' = H.set w (wB true (List.replicate (b.length + 2) 83)) := by
  refine ((asLent_spec b sp cc hl).frame (h := H) (args := [.c (.sl w 0 b.length (b.length + 2)), .c (roB b sp cc)]) false (fun h => by cases h) [w] ⟨.inl ⟨rfl, rfl⟩, .inl ⟨rfl, rfl⟩, trivial⟩ (by simp [piOk]) (by simp only [XX, Nat.reduceBEq, Nat.reduceLT, Nat.reduceAdd, Nat.reduceMul, Nat.reduceSub, Nat.reduceLeDiff, Nat.reduceEqDiff, Int.reduceToNat, Int.reduceLT, Int.reduceLE, Int.reduceAdd, Int.reduceSub, Int.reduceEq, reduceIte, Nat.reduceBNe, Int.reducePow, Nat.reducePow, Int.reduceMul, Int.reduceNeg, isB_i, isB_b, isB_y, isBv_i, isBv_b, eqCells_t, TT, preOk, ids_bsC, ren_bsC, noRo_bsC, plain_bsC, lt_bsC, ids_byte, ren_byte, noRo_byte, plain_byte, lt_byte, hw]) (by simp only [XX, Nat.reduceBEq, Nat.reduceLT, Nat.reduceAdd, Nat.reduceMul, Nat.reduceSub, Nat.reduceLeDiff, Nat.reduceEqDiff, Int.reduceToNat, Int.reduceLT, Int.reduceLE, Int.reduceAdd, Int.reduceSub, Int.reduceEq, reduceIte, Nat.reduceBNe, Int.reducePow, Nat.reducePow, Int.reduceMul, Int.reduceNeg, isB_i, isB_b, isB_y, isBv_i, isBv_b, eqCells_t, TT, ids_bsC, ren_bsC, noRo_bsC, plain_bsC, lt_bsC, ids_byte, ren_byte, noRo_byte, plain_byte, lt_byte])).mono ?_
  rintro _ _ ⟨_, _, ⟨rfl, rfl⟩, rfl, rfl⟩
  refine ⟨rfl, ?_⟩
  simp only [XX, Nat.reduceBEq, Nat.reduceLT, Nat.reduceAdd, Nat.reduceMul, Nat.reduceSub, Nat.reduceLeDiff, Nat.reduceEqDiff, Int.reduceToNat, Int.reduceLT, Int.reduceLE, Int.reduceAdd, Int.reduceSub, Int.reduceEq, reduceIte, Nat.reduceBNe, Int.reducePow, Nat.reducePow, Int.reduceMul, Int.reduceNeg, isB_i, isB_b, isB_y, isBv_i, isBv_b, eqCells_t, TT, ids_bsC, ren_bsC, noRo_bsC, plain_bsC, lt_bsC, ids_byte, ren_byte, noRo_byte, plain_byte, lt_byte]
/-- Behind a drawn region less may be known. -/
theorem draw_cut {cx : Cx} (hc : CxOk cx) {id : Nat} {ops : Array Oper} {k : List KI} {σ : St} {Q : XE → St → Prop} (n : Nat) (R : St → Prop) (h : DrawGoal cx.P id ops (.lp (fun σ' => ∃ τ, R τ ∧ (Sub σ' τ ∨ ∃ π, Wk π σ' τ)) :: k) σ Q) (hk : ∀ τ, R τ → X cx n k τ Q) : DrawGoal cx.P id ops k σ Q := by
  intro e a w hcd hok S
  refine wp_mono (h e a w hcd (fun i hi => by
    cases hi with
    | head => trivial
    | tail _ hi => exact hok i hi) S) ?_
  intro ex a' w' hq
  cases ex with
  | normal =>
    obtain ⟨σ', S', τ, hR, hw⟩ := hq
    have S2 : Sat e τ a' w' := hw.elim (fun h => S'.sub h) fun ⟨_, h⟩ => S'.wk h
    exact X_ok hc n _ _ _ (hk τ hR) e a' w' hok S2
  | exit j => exact hq
  | ret => exact hq
  | goto l => exact hq
  | panic c => exact hq
  | outgrown => exact hq
end Go.Proofs.Ythbojoiogjdbeaa.Sx
namespace Go.Proofs.Ythbojoiogjdbeaa.Sx
open Go
set_option linter.unusedSimpArgs false
set_option linter.unusedVariables false
set_option maxRecDepth 10000
set_option maxHeartbeats 2000000
/-- The cells of a row, with room for so many. -/
abbrev rowG (z : List SC) (cs : List (List SC)) (r : Nat) : List SC := cs.flatten ++ (List.replicate r z).flatten
structure RowG (H : List SB) (ty : TypeId) (z : List SC) (iO : Nat) (o : Bool) (cs : List (List SC)) (r : Nat) : Prop where
  row : H[iO]? = some ⟨o, ty, rowG z cs r⟩
  own : 0 < cs.length + r → o = true
theorem flatG_len {sz : Nat} : ∀ {cs : List (List SC)}, (∀ c ∈ cs, c.length = sz) → cs.flatten.length = cs.length * sz
  | [], _ => by simp
  | c :: cs, h => by
    rw [List.flatten_cons, List.length_append, h c (List.mem_cons_self ..), flatG_len fun c hc => h c (List.mem_cons_of_mem _ hc), List.length_cons, Nat.succ_mul, Nat.add_comm]
theorem repG_len {z : List SC} {sz : Nat} (hz : z.length = sz) (r : Nat) : (List.replicate r z).flatten.length = r * sz := by
  rw [flatG_len (sz := sz) fun c hc => by rw [List.eq_of_mem_replicate hc]; exact hz, List.length_replicate]
theorem rowG_take {z : List SC} {cs : List (List SC)} {r sz m : Nat} (h : ∀ c ∈ cs, c.length = sz) (hm : cs.length = m) : (rowG z cs r).take (m * sz) = cs.flatten := by
  rw [rowG, List.take_left' (by rw [flatG_len h, hm])]
theorem rowG_drop {z : List SC} {cs : List (List SC)} {r sz m : Nat} (h : ∀ c ∈ cs, c.length = sz) (hz : z.length = sz) (hm : cs.length = m) : (rowG z cs (r + 1)).drop (m * sz + sz) = (List.replicate r z).flatten := by
  rw [rowG, List.drop_append, List.drop_of_length_le (by rw [flatG_len h, hm]; omega), List.nil_append, flatG_len h, hm, Nat.add_sub_cancel_left, List.replicate_succ, List.flatten_cons, List.drop_left' hz]
theorem rowG_len {z : List SC} {cs : List (List SC)} {r sz : Nat} (h : ∀ c ∈ cs, c.length = sz) (hz : z.length = sz) : (rowG z cs r).length = (cs.length + r) * sz := by
  rw [rowG, List.length_append, flatG_len h, repG_len hz, Nat.add_mul]
theorem rowG_at {z : List SC} {cs : List (List SC)} {r sz i : Nat} {c : List SC} (h : ∀ c ∈ cs, c.length = sz) (hi : cs[i]? = some c) : ∃ R, (rowG z cs r).drop (i * sz) = c ++ R := by
  have h1 : (cs.take i).length = i := by rw [List.length_take]; have := (List.getElem?_eq_some_iff.1 hi).1; omega
  have h2 : cs = cs.take i ++ (c :: cs.drop (i + 1)) := by
    obtain ⟨hlt, rfl⟩ := List.getElem?_eq_some_iff.1 hi
    rw [← List.drop_eq_getElem_cons hlt, List.take_append_drop]
  refine ⟨(cs.drop (i + 1)).flatten ++ (List.replicate r z).flatten, ?_⟩
  have h3 : (cs.take i).flatten.length = i * sz := by rw [flatG_len fun c hc => h c (List.mem_of_mem_take hc), h1]
  have h4 : rowG z cs r = (cs.take i).flatten ++ (c ++ ((cs.drop (i + 1)).flatten ++ (List.replicate r z).flatten)) := by
    conv => lhs; rw [rowG, h2]
    simp only [List.flatten_append, List.flatten_cons, List.append_assoc]
  rw [h4, List.drop_left' h3]
theorem RowG.mono {H H' : List SB} {ty : TypeId} {z : List SC} {iO : Nat} {o : Bool} {cs : List (List SC)} {r : Nat} (R : RowG H ty z iO o cs r) (h : H'[iO]? = H[iO]?) : RowG H' ty z iO o cs r := ⟨h.trans R.row, R.own⟩
/-- One more behind a row: in its room, or in new memory. -/
theorem rowg_push {xn : XN} {dst : Option Tmp} {k : List KI} {nm : NB} {tm : List (Nat × SV)} {Q : XE → St → Prop} {H : List SB} {ty : TypeId} {z : List SC} {iO g m sz : Nat} {o : Bool} {cs : List (List SC)} {r : Nat} (n : List SC) {b : SB}
    (R : RowG H ty z iO o cs r) (hcs : ∀ c ∈ cs, c.length = sz) (hz : z.length = sz) (hm : cs.length = m) (hg : g = H.length + 1)
    (hk : ∀ H' iO' r', RowG H' ty z iO' true (cs ++ [n]) r' → H.length ≤ H'.length → (∀ i, i < H.length → i ≠ iO → H'[i]? = H[i]?) → (iO' = iO ∨ H.length ≤ iO') → xn k ⟨nm, put dst (.c (.sl iO' 0 (m + 1) (m + 1 + r'))) tm, H'⟩ Q) :
    XApp xn (m + 1) (m + r) dst k nm tm (.c (.sl iO 0 (m + 1) (m + r)), H.set iO ⟨o, ty, (rowG z cs r).take (m * sz) ++ (n ++ (rowG z cs r).drop (m * sz + sz))⟩ ++ [b])
      (fun c' => (.c (.sl g 0 (m + 1) c'), H ++ [b, ⟨true, ty, (rowG z cs r).take (m * sz) ++ (n ++ (List.replicate (c' - (m + 1)) z).flatten)⟩])) Q := by
  have lO := lt_of R.row
  refine xapp_P (fun s H' => ∃ iO' r', s = .c (.sl iO' 0 (m + 1) (m + 1 + r')) ∧ RowG H' ty z iO' true (cs ++ [n]) r' ∧ H.length ≤ H'.length ∧ (∀ i, i < H.length → i ≠ iO → H'[i]? = H[i]?) ∧ (iO' = iO ∨ H.length ≤ iO')) (fun h => ?_) (fun h c' h1 h2 => ?_) ?_
  · obtain ⟨r', rfl⟩ : ∃ r', r = r' + 1 := ⟨r - 1, by omega⟩
    have ho := R.own (by omega)
    subst ho
    refine ⟨iO, r', by rw [Nat.add_assoc, Nat.add_comm 1 r'], ⟨?_, fun _ => rfl⟩, by simp, fun i hi hne => by rw [List.getElem?_append_left (by simpa using hi), List.getElem?_set_ne (Ne.symm hne)], .inl rfl⟩
    dsimp only
    rw [List.getElem?_append_left (by simpa using lO), List.getElem?_set_self lO, rowG_take hcs hm, rowG_drop hcs hz hm, rowG, List.flatten_append, List.append_assoc, List.flatten_cons, List.flatten_nil, List.append_nil]
  · obtain ⟨j, rfl⟩ := Nat.exists_eq_add_of_le h1
    refine ⟨g, j, rfl, ⟨?_, fun _ => rfl⟩, by simp, fun i hi _ => List.getElem?_append_left hi, .inr (by omega)⟩
    dsimp only
    rw [hg, List.getElem?_append_right (by omega), Nat.add_sub_cancel_left, rowG_take hcs hm, Nat.add_sub_cancel_left, rowG, List.flatten_append, List.append_assoc, List.flatten_cons, List.flatten_nil, List.append_nil]; rfl
  · rintro s H' ⟨iO', r', rfl, h1, h2, h3, h4⟩
    exact hk H' iO' r' h1 h2 h3 h4
/-- The first of a row, behind nothing. -/
theorem rowg_first {xn : XN} {dst : Option Tmp} {k : List KI} {nm : NB} {tm : List (Nat × SV)} {Q : XE → St → Prop} {H : List SB} {ty : TypeId} {z : List SC} {g : Nat} (n : List SC) {b : SB} {room : SV × List SB} (hg : g = H.length + 1)
    (hk : ∀ H' iO' r', RowG H' ty z iO' true [n] r' → H.length ≤ H'.length → (∀ i, i < H.length → H'[i]? = H[i]?) → H.length ≤ iO' → xn k ⟨nm, put dst (.c (.sl iO' 0 1 (1 + r'))) tm, H'⟩ Q) :
    XApp xn 1 0 dst k nm tm room (fun c' => (.c (.sl g 0 1 c'), H ++ [b, ⟨true, ty, n ++ (List.replicate (c' - 1) z).flatten⟩])) Q := by
  refine xapp_grow (by omega) fun c' h1 _ => ?_
  obtain ⟨j, rfl⟩ := Nat.exists_eq_add_of_le h1
  refine hk _ g j ⟨?_, fun _ => rfl⟩ (by simp) (fun i hi => List.getElem?_append_left hi) (by omega)
  dsimp only
  rw [hg, List.getElem?_append_right (by omega), Nat.add_sub_cancel_left, Nat.add_sub_cancel_left, rowG, List.flatten_cons, List.flatten_nil, List.append_nil]; rfl
end Go.Proofs.Ythbojoiogjdbeaa.Sx
namespace Go.Proofs.Ythbojoiogjdbeaa.Sx
open Go
set_option linter.unusedSimpArgs false
set_option linter.unusedVariables false
set_option maxRecDepth 10000
set_option maxHeartbeats 4000000
theorem set_end {h : List SB} {a b : SB} : (h ++ [a]).set h.length b = h ++ [b] := by rw [List.set_append_right _ _ (Nat.le_refl _), Nat.sub_self]; rfl
theorem app_self {H : List SB} {x : SB} : (H ++ [x])[H.length]? = some x := by rw [List.getElem?_append_right (Nat.le_refl _), Nat.sub_self]; rfl
theorem app_two {H : List SB} {x y : SB} : (H ++ [x, y])[H.length + 1]? = some y := by rw [List.getElem?_append_right (by omega), Nat.add_sub_cancel_left]; rfl
theorem gen_draw {P : Program} {id : Nat} {ops : Array Oper} {k : List KI} {nm : NB} {tm : List (Nat × SV)} {hp : List SB} {Q : XE → St → Prop} (p : List SB → Prop) (h0 : p hp) (h : ∀ H, p H → DrawGoal P id ops k ⟨nm, tm, H⟩ Q) : DrawGoal P id ops k ⟨nm, tm, hp⟩ Q := h hp h0
/-- Bytes that a call reads alone: as they came in, or in memory. -/
def Rd (H : List SB) (x : SC) (l sp : List UInt8) (cc : Nat) : Prop := x = roB l sp cc ∨ (∃ w b, x = .sl w 0 l.length cc ∧ H[w]? = some b ∧ b.ty = 5 ∧ b.void = false ∧ b.cells = bsC (l ++ sp)) ∨ (x = .v (.slice none 0 0) ∧ l = [] ∧ cc = 0)
theorem Rd.frc {H : List SB} {x : SC} {l sp : List UInt8} {cc : Nat} (h : Rd H x l sp cc) {ok : Nat → Bool} {r : Nat → Nat} {n : Nat} (hok : ∀ (w : Nat) (b : SB), H[w]? = some b → b.ty = 5 → ok w = true) : frC true ok r n H x (roB l sp cc) := by
  rcases h with rfl | ⟨w, b, rfl, hw, ht, hv, hc⟩ | ⟨rfl, rfl, rfl⟩
  · exact .inl ⟨rfl, rfl⟩
  · exact fz_ok (hok w _ hw ht) hw hv hc
  · exact fz_nil4
theorem Rd.mono {H H' : List SB} {x : SC} {l sp : List UInt8} {cc : Nat} (h : Rd H x l sp cc) (K : ∀ (i : Nat) (b : SB), H[i]? = some b → b.ty = 5 → H'[i]? = some b) : Rd H' x l sp cc := by
  rcases h with rfl | ⟨w, b, rfl, hw, ht, hv, hc⟩ | h
  · exact .inl rfl
  · exact .inr (.inl ⟨w, b, rfl, K w _ hw ht, ht, hv, hc⟩)
  · exact .inr (.inr h)
theorem unL_eq {L : List Nat} {H h' G : List SB} (hl : h'.length = G.length) (h1 : ∀ i, (L.contains i = false ∨ H.length ≤ i) → h'[i]? = G[i]?) (h2 : ∀ i, L.contains i = true → i < H.length → G[i]? = H[i]?) : unL L 0 H h' = G := by
  apply List.ext_getElem?
  intro i
  rw [unL_get, Nat.zero_add]
  by_cases hi : i < H.length
  · cases hc : L.contains i with
    | false =>
      rw [List.getElem?_eq_getElem hi, h1 i (.inl hc)]
      cases G[i]? <;> rfl
    | true =>
      have g := h2 i hc hi
      rw [List.getElem?_eq_getElem hi] at g ⊢
      have hj : i < h'.length := by rw [hl]; exact lt_of g
      rw [List.getElem?_eq_getElem hj, g]; rfl
  · rw [List.getElem?_eq_none (Nat.le_of_not_lt hi), h1 i (.inr (Nat.le_of_not_lt hi))]
    cases G[i]? <;> rfl
theorem unL_app {L : List Nat} {H X : List SB} : unL L 0 H (maskL L 0 H ++ X) = H ++ X := by
  refine unL_eq (by simp [maskL_len]) (fun i hi => ?_) (fun i _ h => List.getElem?_append_left h)
  rcases Nat.lt_or_ge i H.length with h | h
  · have h' : i < (maskL L 0 H).length := by rw [maskL_len]; exact h
    rw [List.getElem?_append_left h', List.getElem?_append_left h]
    rcases hi with hi | hi
    · exact mask_off hi
    · omega
  · have h' : (maskL L 0 H).length ≤ i := by rw [maskL_len]; exact h
    rw [List.getElem?_append_right h', List.getElem?_append_right h, maskL_len]
theorem unL_set {L : List Nat} {H : List SB} {j : Nat} {y : SB} (hj : L.contains j = false) : unL L 0 H ((maskL L 0 H).set j y) = H.set j y := by
  refine unL_eq (by simp [maskL_len]) (fun i hi => ?_) (fun i hi h => ?_)
  · rw [List.getElem?_set, List.getElem?_set, maskL_len]
    split
    · rfl
    · rcases hi with hi | hi
      · exact mask_off hi
      · rw [List.getElem?_eq_none hi, List.getElem?_eq_none (by rw [maskL_len]; exact hi)]
  · rw [List.getElem?_set_ne (fun e => by rw [← e, hj] at hi; cases hi)]
theorem not1 {n c : Nat} (h : n ≠ c) : [n].contains c = false := by
  rw [Bool.eq_false_iff]
  intro h'
  rw [List.contains_iff_mem, List.mem_singleton] at h'
  exact h h'.symm
theorem not2 {n m c : Nat} (h : n ≠ c) (h2 : m ≠ c) : [n, m].contains c = false := by
  rw [Bool.eq_false_iff]
  intro h'
  rw [List.contains_iff_mem, List.mem_cons, List.mem_singleton] at h'
  rcases h' with h' | h'
  · exact h h'.symm
  · exact h2 h'.symm
theorem setC_congr {H H' : List SB} {c w1 w2 i : Nat} {k : CK} (hl : H'.length = H.length) (h : H'[i]? = H[i]?) : (setC H' c w1 w2 k)[i]? = (setC H c w1 w2 k)[i]? := by
  unfold setC
  simp only [List.getElem?_set, List.length_set, hl, h]
theorem unL_setC {L : List Nat} {H X : List SB} {c w1 w2 : Nat} {k : CK} (h1 : L.contains c = false) (h2 : L.contains w1 = false) (h3 : L.contains w2 = false) : unL L 0 H (setC (maskL L 0 H) c w1 w2 k ++ X) = setC H c w1 w2 k ++ X := by
  refine unL_eq (by simp [setC_len, maskL_len]) (fun i hi => ?_) (fun i hi h => ?_)
  · rcases Nat.lt_or_ge i H.length with h | h
    · have h' : i < (setC (maskL L 0 H) c w1 w2 k).length := by rw [setC_len, maskL_len]; exact h
      have h'' : i < (setC H c w1 w2 k).length := by rw [setC_len]; exact h
      rw [List.getElem?_append_left h', List.getElem?_append_left h'']
      rcases hi with hi | hi
      · exact setC_congr (maskL_len _ _ _) (mask_off hi)
      · omega
    · have h' : (setC (maskL L 0 H) c w1 w2 k).length ≤ i := by rw [setC_len, maskL_len]; exact h
      have h'' : (setC H c w1 w2 k).length ≤ i := by rw [setC_len]; exact h
      rw [List.getElem?_append_right h', List.getElem?_append_right h'', setC_len, setC_len, maskL_len]
  · rw [List.getElem?_append_left (by rw [setC_len]; exact h)]
    exact setC_off (fun e => by rw [e, h1] at hi; cases hi) (fun e => by rw [e, h2] at hi; cases hi) (fun e => by rw [e, h3] at hi; cases hi)
theorem unL_setC0 {L : List Nat} {H : List SB} {c w1 w2 : Nat} {k : CK} (h1 : L.contains c = false) (h2 : L.contains w1 = false) (h3 : L.contains w2 = false) : unL L 0 H (setC (maskL L 0 H) c w1 w2 k) = setC H c w1 w2 k := by
  have := unL_setC (H := H) (X := []) (k := k) h1 h2 h3
  rwa [List.append_nil, List.append_nil] at this
theorem Rd.mask {H : List SB} {x : SC} {l sp : List UInt8} {cc : Nat} {L : List Nat} (h : Rd H x l sp cc) (hL : ∀ i, L.contains i = true → ∃ b : SB, H[i]? = some b ∧ b.ty ≠ 5) : Rd (maskL L 0 H) x l sp cc :=
  h.mono fun i b hi ht => by
    cases hc : L.contains i with
    | false => rw [mask_off hc]; exact hi
    | true =>
      obtain ⟨b', h1, h2⟩ := hL i hc
      rw [hi] at h1
      cases h1
      exact absurd ht h2
/-- What came out: nothing, or bytes in new memory. -/
def Out (H h' : List SB) (x : SC) (D : List UInt8) : Prop := (x = .v (.slice none 0 0) ∧ D = []) ∨ ∃ w z o, x = slB w D z ∧ H.length ≤ w ∧ h'[w]? = some (wB o (D ++ z)) ∧ (0 < D.length + z.length → o = true)
section
variable {H : List SB} {c w1 w2 : Nat} {k : CK}
theorem PC.mask {L : List Nat} (P : PC H c w1 w2 k) (h1 : L.contains c = false) (h2 : L.contains w1 = false) (h3 : L.contains w2 = false) : PC (maskL L 0 H) c w1 w2 k :=
  P.mono (mask_off h1) (mask_off h2) (mask_off h3)
theorem PC.notU (P : PC H c w1 w2 k) : ∀ (w : Nat) (b : SB), H[w]? = some b → b.ty = 5 → notW [c, w1, w2] k.h w = true := fun w b hw ht =>
  notW3 (ty_ne hw P.hc (by rw [ht]; show (5 : Nat) ≠ 73; decide)) (ty_ne hw P.h1 (by rw [ht]; show (5 : Nat) ≠ 76; decide)) (ty_ne hw P.h2 (by rw [ht]; show (5 : Nat) ≠ 76; decide))
theorem PC.rx (P : PC H c w1 w2 k) (ok : k.ok) (i : Int) : Spec cx.P 30 [.c (.ptr c 0), .c (i64 i)] H fun t h' => ∃ o, t = .tup [(true, [bC (seeS k.rx i), .sl H.length 0 (seeD k.rx i).length (seeD k.rx i).length]), (false, [i64 (seeE k.rx i)])] ∧ h' = H ++ [wB o (seeD k.rx i)] ∧ (0 < (seeD k.rx i).length → o = true) := by
  refine (P.spec (bs := [.c (i64 i)]) (rxA_spec k ok i) (fun t h' h => resD_noRo h) ⟨.inl ⟨rfl, rfl⟩, trivial⟩).mono ?_
  rintro _ _ ⟨_, _, ⟨o, rfl, rfl, ho⟩, rfl, rfl⟩
  rw [plug3, setC_same P]
  simp only [List.map_cons, List.map_nil, SB.ren, ren_bsC]
  exact ⟨o, rfl, rfl, ho⟩
theorem PC.tx (P : PC H c w1 w2 k) (ok : k.ok) (i : Int) : Spec cx.P 45 [.c (.ptr c 0), .c (i64 i)] H fun t h' => ∃ o, t = .tup [(true, [bC (seeS k.tx i), .sl H.length 0 (seeD k.tx i).length (seeD k.tx i).length]), (false, [i64 (seeE k.tx i)])] ∧ h' = H ++ [wB o (seeD k.tx i)] ∧ (0 < (seeD k.tx i).length → o = true) := by
  refine (P.spec (bs := [.c (i64 i)]) (txA_spec k ok i) (fun t h' h => resD_noRo h) ⟨.inl ⟨rfl, rfl⟩, trivial⟩).mono ?_
  rintro _ _ ⟨_, _, ⟨o, rfl, rfl, ho⟩, rfl, rfl⟩
  rw [plug3, setC_same P]
  simp only [List.map_cons, List.map_nil, SB.ren, ren_bsC]
  exact ⟨o, rfl, rfl, ho⟩
theorem PC.dep (P : PC H c w1 w2 k) (ok : k.ok) : Spec cx.P 13 [.c (.ptr c 0)] H fun t h' => ∃ o, t = .tup [(false, [.sl H.length 0 (depD k).length (depD k).length]), (false, [bC (depB k)])] ∧ h' = setC H c w1 w2 (depK k) ++ [wB o (depD k)] ∧ (0 < (depD k).length → o = true) := by
  refine (P.spec (bs := []) (departA_spec k ok) (fun t h' h => resO_noRo h) trivial).mono ?_
  rintro _ _ ⟨_, _, ⟨o, rfl, rfl, ho⟩, rfl, rfl⟩
  rw [plug3]
  simp only [List.map_cons, List.map_nil, SB.ren, ren_bsC]
  exact ⟨o, rfl, rfl, ho⟩
theorem PC.give (P : PC H c w1 w2 k) (ok : k.ok) (i : Int) : Spec cx.P 33 [.c (.ptr c 0), .c (i64 i)] H fun t h' => t = .c (i64 (givE k i)) ∧ h' = setC H c w1 w2 (givK k i) := by
  refine (P.spec (bs := [.c (i64 i)]) (giveA_spec k ok i) (fun t h' ⟨h1, h2⟩ => by subst h1 h2; exact ⟨rfl, card_noRo _⟩) ⟨.inl ⟨rfl, rfl⟩, trivial⟩).mono ?_
  rintro _ _ ⟨_, _, ⟨rfl, rfl⟩, rfl, rfl⟩
  rw [plug3']
  exact ⟨rfl, rfl⟩
theorem PC.lay (P : PC H c w1 w2 k) (ok : k.ok) (i : Int) {x : SC} {b sp : List UInt8} {cc : Nat} (hx : Rd H x b sp cc) : Spec cx.P 57 [.c (.ptr c 0), .c (i64 i), .c x] H fun t h' => t = .c (i64 (layE k i b)) ∧ h' = setC H c w1 w2 (layK k i b) := by
  refine (P.spec (bs := [.c (i64 i), .c x]) (layA_spec k ok i b sp cc) (fun t h' ⟨h1, h2⟩ => by subst h1 h2; exact ⟨rfl, card_noRo _⟩) ⟨.inl ⟨rfl, rfl⟩, fz_c (hx.frc P.notU), trivial⟩).mono ?_
  rintro _ _ ⟨_, _, ⟨rfl, rfl⟩, rfl, rfl⟩
  rw [plug3']
  exact ⟨rfl, rfl⟩
theorem PC.arrive (P : PC H c w1 w2 k) (ok : k.ok) {x : SC} {b sp : List UInt8} {cc : Nat} (hx : Rd H x b sp cc) : Spec cx.P 10 [.c (.ptr c 0), .c x] H fun t h' => t = .c (bC (arrB k b)) ∧ h' = setC H c w1 w2 (arrK k b) := by
  refine (P.spec (bs := [.c x]) (arriveA_spec k ok b sp cc) (fun t h' ⟨h1, h2⟩ => by subst h1 h2; exact ⟨rfl, card_noRo _⟩) ⟨fz_c (hx.frc P.notU), trivial⟩).mono ?_
  rintro _ _ ⟨_, _, ⟨rfl, rfl⟩, rfl, rfl⟩
  rw [plug3']
  exact ⟨rfl, rfl⟩
theorem PC.rings (P : PC H c w1 w2 k) : Spec cx.P 29 [.c (.ptr c 0)] H fun t h' => t = .tup [(false, [i64 k.rx.length]), (false, [i64 k.tx.length])] ∧ h' = H := by
  refine (P.spec (bs := []) (rings_spec k) (fun t h' ⟨h1, h2⟩ => by subst h1 h2; exact ⟨rfl, card_noRo _⟩) trivial).mono ?_
  rintro _ _ ⟨_, _, ⟨rfl, rfl⟩, rfl, rfl⟩
  rw [plug3', setC_same P]
  exact ⟨rfl, rfl⟩
theorem setC_but (H : List SB) (c w1 w2 : Nat) (k : CK) {p : Nat → Prop} (h1 : p c) (h2 : p w1) (h3 : p w2) : But H (setC H c w1 w2 k) p :=
  ⟨by rw [setC_len]; exact Nat.le_refl _, fun i _ hi => setC_off (fun h => hi (h ▸ h1)) (fun h => hi (h ▸ h2)) (fun h => hi (h ▸ h3))⟩
end
end Go.Proofs.Ythbojoiogjdbeaa.Sx
namespace Go.Proofs.Ythbojoiogjdbeaa.Sx
open Go
set_option linter.unusedSimpArgs false
set_option linter.unusedVariables false
set_option maxRecDepth 10000
set_option maxHeartbeats 4000000
/-- What a Nic knows. -/
structure NS where
  mac : M6
  r : Nat
  t : Nat
  tk : Int
  th : Int
  se : Int
  rf : Int
abbrev macC (m : M6) : List SC := [byteC m.a, byteC m.b, byteC m.c, byteC m.d, byteC m.e, byteC m.f]
abbrev nicB (s : NS) (c : Nat) : SB := ⟨true, 80, [i64 s.tk, i64 s.th, i64 s.se, i64 s.rf, .ptr c 0, byteC s.mac.a, byteC s.mac.b, byteC s.mac.c, byteC s.mac.d, byteC s.mac.e, byteC s.mac.f, i64 (s.r : Nat), i64 (s.t : Nat)]⟩
abbrev rnicB (s : NS) (c : Nat) : SB := ⟨true, 100, [.ptr c 0, byteC s.mac.a, byteC s.mac.b, byteC s.mac.c, byteC s.mac.d, byteC s.mac.e, byteC s.mac.f, i64 (s.r : Nat), i64 (s.t : Nat), i64 s.tk, i64 s.th, i64 s.se, i64 s.rf]⟩
structure NS.ok (s : NS) (k : CK) : Prop where
  r : s.r < k.rx.length
  t : s.t < k.tx.length
def incW (n : Int) : Int := IntKind.i64.wrap (n + 1)
theorem next_spec (i n : Nat) (h : i < n) (hn : n ≤ 64) : Spec cx.P 34 [.c (i64 i), .c (i64 n)] [] fun s _ => s.plain = true ∧ s = .c (i64 ((i + 1) % n : Nat)) := by
  have e1 : IntKind.i64.wrap ((i : Int) + 1) = ((i + 1 : Nat) : Int) := by rw [w64] <;> omega
  by_cases hl : i + 1 < n
  · have dl : decide (((i + 1 : Nat) : Int) < (n : Int)) = true := by simp only [decide_eq_true_eq]; omega
    rw [Nat.mod_eq_of_lt hl]
    refine spec_of_X cx_ok Try.func34 rfl (by kernel_rfl) (by kernel_rfl) (Nat.le_of_ble_eq_true rfl) 400 5 ?_
    simp (maxSteps := 4000000) only [Try.results34, XX, Nat.reduceBEq, Nat.reduceLT, Nat.reduceAdd, Nat.reduceMul, Nat.reduceSub, Nat.reduceLeDiff, Nat.reduceEqDiff, Int.reduceToNat, Int.reduceLT, Int.reduceLE, Int.reduceAdd, Int.reduceSub, Int.reduceEq, reduceIte, Nat.reduceBNe, Int.reducePow, Nat.reducePow, Int.reduceMul, Int.reduceNeg, isB_i, isB_b, isB_y, isBv_i, isBv_b, eqCells_t, TT]
    simp (maxSteps := 4000000) only [Try.results34, e1, dl, XX, Nat.reduceBEq, Nat.reduceLT, Nat.reduceAdd, Nat.reduceMul, Nat.reduceSub, Nat.reduceLeDiff, Nat.reduceEqDiff, Int.reduceToNat, Int.reduceLT, Int.reduceLE, Int.reduceAdd, Int.reduceSub, Int.reduceEq, reduceIte, Nat.reduceBNe, Int.reducePow, Nat.reducePow, Int.reduceMul, Int.reduceNeg, isB_i, isB_b, isB_y, isBv_i, isBv_b, eqCells_t, TT]
  · have dl : decide (((i + 1 : Nat) : Int) < (n : Int)) = false := by simp only [decide_eq_false_iff_not]; omega
    obtain rfl : i + 1 = n := by omega
    rw [Nat.mod_self]
    refine spec_of_X cx_ok Try.func34 rfl (by kernel_rfl) (by kernel_rfl) (Nat.le_of_ble_eq_true rfl) 400 5 ?_
    simp (maxSteps := 4000000) only [Try.results34, XX, Nat.reduceBEq, Nat.reduceLT, Nat.reduceAdd, Nat.reduceMul, Nat.reduceSub, Nat.reduceLeDiff, Nat.reduceEqDiff, Int.reduceToNat, Int.reduceLT, Int.reduceLE, Int.reduceAdd, Int.reduceSub, Int.reduceEq, reduceIte, Nat.reduceBNe, Int.reducePow, Nat.reducePow, Int.reduceMul, Int.reduceNeg, isB_i, isB_b, isB_y, isBv_i, isBv_b, eqCells_t, TT]
    simp (maxSteps := 4000000) only [Try.results34, e1, dl, XX, Nat.reduceBEq, Nat.reduceLT, Nat.reduceAdd, Nat.reduceMul, Nat.reduceSub, Nat.reduceLeDiff, Nat.reduceEqDiff, Int.reduceToNat, Int.reduceLT, Int.reduceLE, Int.reduceAdd, Int.reduceSub, Int.reduceEq, reduceIte, Nat.reduceBNe, Int.reducePow, Nat.reducePow, Int.reduceMul, Int.reduceNeg, isB_i, isB_b, isB_y, isBv_i, isBv_b, eqCells_t, TT]
theorem own_spec {H : List SB} {n c : Nat} {s : NS} (hn : H[n]? = some (nicB s c)) : Spec cx.P 21 [.c (.ptr n 0)] H fun t h' => t = .agg (macC s.mac) ∧ ∃ x, h' = H ++ [x] := by
  have ln := lt_of hn
  refine spec_of_X cx_ok Try.func21 rfl (by kernel_rfl) (by kernel_rfl) (Nat.le_of_ble_eq_true rfl) 400 3 ?_
  simp (maxSteps := 4000000) only [Try.results21, XX, Nat.reduceBEq, Nat.reduceLT, Nat.reduceAdd, Nat.reduceMul, Nat.reduceSub, Nat.reduceLeDiff, Nat.reduceEqDiff, Int.reduceToNat, Int.reduceLT, Int.reduceLE, Int.reduceAdd, Int.reduceSub, Int.reduceEq, reduceIte, Nat.reduceBNe, Int.reducePow, Nat.reducePow, Int.reduceMul, Int.reduceNeg, isB_i, isB_b, isB_y, isBv_i, isBv_b, eqCells_t, TT]
  simp (maxSteps := 4000000) only [Try.results21, hn, ln, set_end, List.append_assoc, List.getElem?_append_left, List.getElem?_append_right, List.length_append, List.length_set, List.set_append_left, gset, List.getElem?_set_ne, Nat.add_sub_cancel_left, Nat.sub_self, Nat.le_refl, Nat.le_add_right, List.replicate_one, List.flatten_cons, List.flatten_nil, rep_flat, XX, Nat.reduceBEq, Nat.reduceLT, Nat.reduceAdd, Nat.reduceMul, Nat.reduceSub, Nat.reduceLeDiff, Nat.reduceEqDiff, Int.reduceToNat, Int.reduceLT, Int.reduceLE, Int.reduceAdd, Int.reduceSub, Int.reduceEq, reduceIte, Nat.reduceBNe, Int.reducePow, Nat.reducePow, Int.reduceMul, Int.reduceNeg, isB_i, isB_b, isB_y, isBv_i, isBv_b, eqCells_t, TT]
  exact ⟨_, rfl⟩
theorem stats_spec {H : List SB} {n c : Nat} {s : NS} (hn : H[n]? = some (nicB s c)) : Spec cx.P 22 [.c (.ptr n 0)] H fun t h' => t = .agg [i64 s.tk, i64 s.th, i64 s.se, i64 s.rf] ∧ ∃ x, h' = H ++ [x] := by
  have ln := lt_of hn
  refine spec_of_X cx_ok Try.func22 rfl (by kernel_rfl) (by kernel_rfl) (Nat.le_of_ble_eq_true rfl) 400 3 ?_
  simp (maxSteps := 4000000) only [Try.results22, XX, Nat.reduceBEq, Nat.reduceLT, Nat.reduceAdd, Nat.reduceMul, Nat.reduceSub, Nat.reduceLeDiff, Nat.reduceEqDiff, Int.reduceToNat, Int.reduceLT, Int.reduceLE, Int.reduceAdd, Int.reduceSub, Int.reduceEq, reduceIte, Nat.reduceBNe, Int.reducePow, Nat.reducePow, Int.reduceMul, Int.reduceNeg, isB_i, isB_b, isB_y, isBv_i, isBv_b, eqCells_t, TT]
  have hn' : ∀ x : SB, (H ++ [x])[n]? = some (nicB s c) := fun x => (List.getElem?_append_left ln).trans hn
  have g0 : ∀ x : SB, (H ++ [x])[H.length]? = some x := fun x => app_self
  refine gen_draw (fun G => G[n]? = some (nicB s c) ∧ ∃ x : List SC, x.length = 4 ∧ G = H ++ [⟨true, 65, x⟩]) ⟨hn' _, _, rfl, rfl⟩ ?_
  rintro G ⟨hG, x, hx, rfl⟩
  have hok := kept_cons hG rfl kept_nil
  obtain ⟨o, mG⟩ := maskL_at (L := [n]) hG
  have mH : (maskL [n] 0 (H ++ [({ own := true, ty := 65, cells := x } : SB)]))[H.length]? = some ⟨true, 65, x⟩ := (mask_off (not1 (by omega))).trans app_self
  refine draw_of cx_ok (by kernel_rfl) 400 [n] [(0, true), (1, true), (2, true), (3, true), (4, true), (5, true), (6, true), (7, true), (8, true), (9, true), (10, true), (11, true), (12, true), (13, true), (14, true), (15, true), (16, true), (17, true), (18, true), (19, true), (20, true), (21, false)] (by kernel_rfl) (by first | exact hok | simp [*]) ?_
  simp (maxSteps := 4000000) only [Try.results22, hG, mG, mH, lt_of mG, unL_set (not1 (Nat.ne_of_lt ln)), set_end, app_self, List.length_append, List.length_cons, List.length_nil, XX, Nat.reduceBEq, Nat.reduceLT, Nat.reduceAdd, Nat.reduceMul, Nat.reduceSub, Nat.reduceLeDiff, Nat.reduceEqDiff, Int.reduceToNat, Int.reduceLT, Int.reduceLE, Int.reduceAdd, Int.reduceSub, Int.reduceEq, reduceIte, Nat.reduceBNe, Int.reducePow, Nat.reducePow, Int.reduceMul, Int.reduceNeg, isB_i, isB_b, isB_y, isBv_i, isBv_b, eqCells_t, TT]
  exact ⟨by omega, _, rfl⟩
theorem rstats_spec {H : List SB} {n c : Nat} {s : NS} (hn : H[n]? = some (rnicB s c)) : Spec cx.P 47 [.c (.ptr n 0)] H fun t h' => t = .agg [i64 s.tk, i64 s.th, i64 s.se, i64 s.rf] ∧ ∃ x, h' = H ++ [x] := by
  have ln := lt_of hn
  refine spec_of_X cx_ok Try.func47 rfl (by kernel_rfl) (by kernel_rfl) (Nat.le_of_ble_eq_true rfl) 400 3 ?_
  simp (maxSteps := 4000000) only [Try.results47, XX, Nat.reduceBEq, Nat.reduceLT, Nat.reduceAdd, Nat.reduceMul, Nat.reduceSub, Nat.reduceLeDiff, Nat.reduceEqDiff, Int.reduceToNat, Int.reduceLT, Int.reduceLE, Int.reduceAdd, Int.reduceSub, Int.reduceEq, reduceIte, Nat.reduceBNe, Int.reducePow, Nat.reducePow, Int.reduceMul, Int.reduceNeg, isB_i, isB_b, isB_y, isBv_i, isBv_b, eqCells_t, TT]
  simp (maxSteps := 4000000) only [Try.results47, hn, ln, set_end, List.append_assoc, List.getElem?_append_left, List.getElem?_append_right, List.length_append, List.length_set, List.set_append_left, gset, List.getElem?_set_ne, Nat.add_sub_cancel_left, Nat.sub_self, Nat.le_refl, Nat.le_add_right, List.replicate_one, List.flatten_cons, List.flatten_nil, rep_flat, XX, Nat.reduceBEq, Nat.reduceLT, Nat.reduceAdd, Nat.reduceMul, Nat.reduceSub, Nat.reduceLeDiff, Nat.reduceEqDiff, Int.reduceToNat, Int.reduceLT, Int.reduceLE, Int.reduceAdd, Int.reduceSub, Int.reduceEq, reduceIte, Nat.reduceBNe, Int.reducePow, Nat.reducePow, Int.reduceMul, Int.reduceNeg, isB_i, isB_b, isB_y, isBv_i, isBv_b, eqCells_t, TT]
  exact ⟨_, rfl⟩
theorem new5_spec {H : List SB} {c : Nat} (m : M6) : Spec cx.P 8 [.c (.ptr c 0), .agg (macC m)] H fun t h' => ∃ x, t = .c (.ptr (H.length + 1) 0) ∧ h' = H ++ [x, nicB ⟨m, 0, 0, 0, 0, 0, 0⟩ c] := by
  refine spec_of_X cx_ok Try.func8 rfl (by kernel_rfl) (by kernel_rfl) (Nat.le_of_ble_eq_true rfl) 400 5 ?_
  simp (maxSteps := 4000000) only [Try.results8, XX, Nat.reduceBEq, Nat.reduceLT, Nat.reduceAdd, Nat.reduceMul, Nat.reduceSub, Nat.reduceLeDiff, Nat.reduceEqDiff, Int.reduceToNat, Int.reduceLT, Int.reduceLE, Int.reduceAdd, Int.reduceSub, Int.reduceEq, reduceIte, Nat.reduceBNe, Int.reducePow, Nat.reducePow, Int.reduceMul, Int.reduceNeg, isB_i, isB_b, isB_y, isBv_i, isBv_b, eqCells_t, TT]
  simp (maxSteps := 4000000) only [Try.results8, List.append_assoc, List.getElem?_append_left, List.getElem?_append_right, List.length_append, List.length_set, List.set_append_left, gset, List.getElem?_set_ne, Nat.add_sub_cancel_left, Nat.sub_self, Nat.le_refl, Nat.le_add_right, List.replicate_one, List.flatten_cons, List.flatten_nil, rep_flat, XX, Nat.reduceBEq, Nat.reduceLT, Nat.reduceAdd, Nat.reduceMul, Nat.reduceSub, Nat.reduceLeDiff, Nat.reduceEqDiff, Int.reduceToNat, Int.reduceLT, Int.reduceLE, Int.reduceAdd, Int.reduceSub, Int.reduceEq, reduceIte, Nat.reduceBNe, Int.reducePow, Nat.reducePow, Int.reduceMul, Int.reduceNeg, isB_i, isB_b, isB_y, isBv_i, isBv_b, eqCells_t, TT]
  exact ⟨_, rfl⟩
theorem rnew5_spec {H : List SB} {c : Nat} (m : M6) : Spec cx.P 17 [.c (.ptr c 0), .agg (macC m)] H fun t h' => ∃ x, t = .c (.ptr (H.length + 1) 0) ∧ h' = H ++ [x, rnicB ⟨m, 0, 0, 0, 0, 0, 0⟩ c] := by
  refine spec_of_X cx_ok Try.func17 rfl (by kernel_rfl) (by kernel_rfl) (Nat.le_of_ble_eq_true rfl) 400 5 ?_
  simp (maxSteps := 4000000) only [Try.results17, XX, Nat.reduceBEq, Nat.reduceLT, Nat.reduceAdd, Nat.reduceMul, Nat.reduceSub, Nat.reduceLeDiff, Nat.reduceEqDiff, Int.reduceToNat, Int.reduceLT, Int.reduceLE, Int.reduceAdd, Int.reduceSub, Int.reduceEq, reduceIte, Nat.reduceBNe, Int.reducePow, Nat.reducePow, Int.reduceMul, Int.reduceNeg, isB_i, isB_b, isB_y, isBv_i, isBv_b, eqCells_t, TT]
  simp (maxSteps := 4000000) only [Try.results17, List.append_assoc, List.getElem?_append_left, List.getElem?_append_right, List.length_append, List.length_set, List.set_append_left, gset, List.getElem?_set_ne, Nat.add_sub_cancel_left, Nat.sub_self, Nat.le_refl, Nat.le_add_right, List.replicate_one, List.flatten_cons, List.flatten_nil, rep_flat, XX, Nat.reduceBEq, Nat.reduceLT, Nat.reduceAdd, Nat.reduceMul, Nat.reduceSub, Nat.reduceLeDiff, Nat.reduceEqDiff, Int.reduceToNat, Int.reduceLT, Int.reduceLE, Int.reduceAdd, Int.reduceSub, Int.reduceEq, reduceIte, Nat.reduceBNe, Int.reducePow, Nat.reducePow, Int.reduceMul, Int.reduceNeg, isB_i, isB_b, isB_y, isBv_i, isBv_b, eqCells_t, TT]
  exact ⟨_, rfl⟩
theorem new5N_spec (m : M6) : Spec cx.P 8 [.c (.v (.pointer none)), .agg (macC m)] [] fun t _ => t.plain = true ∧ t = .c (.v (.pointer none)) := by
  refine spec_of_X cx_ok Try.func8 rfl (by kernel_rfl) (by kernel_rfl) (Nat.le_of_ble_eq_true rfl) 400 5 ?_
  simp (maxSteps := 4000000) only [Try.results8, XX, Nat.reduceBEq, Nat.reduceLT, Nat.reduceAdd, Nat.reduceMul, Nat.reduceSub, Nat.reduceLeDiff, Nat.reduceEqDiff, Int.reduceToNat, Int.reduceLT, Int.reduceLE, Int.reduceAdd, Int.reduceSub, Int.reduceEq, reduceIte, Nat.reduceBNe, Int.reducePow, Nat.reducePow, Int.reduceMul, Int.reduceNeg, isB_i, isB_b, isB_y, isBv_i, isBv_b, eqCells_t, TT]
theorem rnew5N_spec (m : M6) : Spec cx.P 17 [.c (.v (.pointer none)), .agg (macC m)] [] fun t _ => t.plain = true ∧ t = .c (.v (.pointer none)) := by
  refine spec_of_X cx_ok Try.func17 rfl (by kernel_rfl) (by kernel_rfl) (Nat.le_of_ble_eq_true rfl) 400 5 ?_
  simp (maxSteps := 4000000) only [Try.results17, XX, Nat.reduceBEq, Nat.reduceLT, Nat.reduceAdd, Nat.reduceMul, Nat.reduceSub, Nat.reduceLeDiff, Nat.reduceEqDiff, Int.reduceToNat, Int.reduceLT, Int.reduceLE, Int.reduceAdd, Int.reduceSub, Int.reduceEq, reduceIte, Nat.reduceBNe, Int.reducePow, Nat.reducePow, Int.reduceMul, Int.reduceNeg, isB_i, isB_b, isB_y, isBv_i, isBv_b, eqCells_t, TT]
def sendE (k : CK) (s : NS) (q : List UInt8 × Int) : Int := if q.2 = 0 then (if seeS k.tx s.t then 3 else 0) else q.2
def sendD (k : CK) (s : NS) (q : List UInt8 × Int) : List UInt8 := if sendE k s q = 0 then q.1 else []
def sendK (k : CK) (s : NS) (q : List UInt8 × Int) : CK := if sendE k s q = 0 then layK k s.t q.1 else k
def sendN (k : CK) (s : NS) (q : List UInt8 × Int) : NS := if sendE k s q = 0 then { s with t := (s.t + 1) % k.tx.length, se := incW s.se } else { s with rf := incW s.rf }
theorem sealR_ok {d s : M6} {kd : Int} {l : List UInt8} (h : (sealR d s kd l).2 = 0) : 60 ≤ (sealR d s kd l).1.length ∧ (sealR d s kd l).1.length ≤ 1514 := by
  unfold sealR at h ⊢
  split
  · rename_i h1; rw [if_pos h1] at h; cases h
  · split
    · rename_i h1 h2; rw [if_neg h1, if_pos h2] at h; cases h
    · simp only [be2, List.length_append, List.length_cons, List.length_nil, List.length_replicate]; omega
theorem sealR_err {d s : M6} {kd : Int} {l : List UInt8} (h : (sealR d s kd l).2 ≠ 0) : (sealR d s kd l).1 = [] := by
  unfold sealR at h ⊢
  split
  · rfl
  · split
    · rfl
    · rename_i h1 h2; rw [if_neg h1, if_neg h2] at h; exact absurd rfl h
theorem layE_is {k : CK} {i : Nat} {b : List UInt8} (hi : i < k.tx.length) (h1 : 60 ≤ b.length) (h2 : b.length ≤ 1514) : layE k i b = if seeS k.tx i then 41 else 0 := by
  have h0 : 0 ≤ (i : Int) ∧ (i : Int) < (k.tx.length : Int) := ⟨by omega, by omega⟩
  unfold layE seeS
  rw [if_pos h0, if_neg (by omega), if_neg (by omega), if_pos h0]
theorem layK_full {k : CK} {i : Nat} {b : List UInt8} (hi : i < k.tx.length) (h : seeS k.tx i = true) : layK k i b = k := by
  have h0 : 0 ≤ (i : Int) ∧ (i : Int) < (k.tx.length : Int) := ⟨by omega, by omega⟩
  unfold layK
  unfold seeS at h
  rw [if_pos h0] at h ⊢
  split
  · rfl
  · split
    · rfl
    · first | rfl | rw [if_pos h]
theorem layK_tx (k : CK) (i : Int) (b : List UInt8) : (layK k i b).tx.length = k.tx.length ∧ (layK k i b).rx.length = k.rx.length := by
  unfold layK
  split
  · split
    · exact ⟨rfl, rfl⟩
    · split
      · exact ⟨rfl, rfl⟩
      · split
        · exact ⟨rfl, rfl⟩
        · exact ⟨List.length_set, rfl⟩
  · exact ⟨rfl, rfl⟩
abbrev XN5 (c w1 w2 n : Nat) : Nat → Prop := fun i => i = c ∨ i = w1 ∨ i = w2 ∨ i = n
def layN (k : CK) (s : NS) (q : List UInt8 × Int) : NS := if sendE k s q = 0 then { s with t := (s.t + 1) % k.tx.length } else s
theorem lay5_spec {H : List SB} {n c w1 w2 : Nat} {k : CK} {s : NS} (P : PC H c w1 w2 k) (ok : k.ok) (hn : H[n]? = some (nicB s c)) (os : s.ok k) (d : M6) (kd : Int) {x : SC} {l sp : List UInt8} {cc : Nat} (hx : Rd H x l sp cc) :
    Spec cx.P 36 [.c (.ptr n 0), .agg (macC d ++ [i64 kd, x])] H fun t h' => ∃ x, t = .tup [(false, [x]), (false, [i64 (sendE k s (sealR d s.mac kd l))])] ∧ Out H h' x (sendD k s (sealR d s.mac kd l)) ∧ PC h' c w1 w2 (sendK k s (sealR d s.mac kd l)) ∧ h'[n]? = some (nicB (layN k s (sealR d s.mac kd l)) c) ∧ But H h' (XN5 c w1 w2 n) := by
  have ln := lt_of hn
  have sl := fsealA_spec d s.mac kd l sp cc
  have n1 : n ≠ c := ty_ne hn P.hc (by show (80 : Nat) ≠ 73; decide)
  have n2 : n ≠ w1 := ty_ne hn P.h1 (by show (80 : Nat) ≠ 76; decide)
  have n3 : n ≠ w2 := ty_ne hn P.h2 (by show (80 : Nat) ≠ 76; decide)
  refine spec_of_X cx_ok Try.func36 rfl (by kernel_rfl) (by kernel_rfl) (Nat.le_of_ble_eq_true rfl) 400 10 ?_
  simp (maxSteps := 4000000) only [Try.results36, XX, Nat.reduceBEq, Nat.reduceLT, Nat.reduceAdd, Nat.reduceMul, Nat.reduceSub, Nat.reduceLeDiff, Nat.reduceEqDiff, Int.reduceToNat, Int.reduceLT, Int.reduceLE, Int.reduceAdd, Int.reduceSub, Int.reduceEq, reduceIte, Nat.reduceBNe, Int.reducePow, Nat.reducePow, Int.reduceMul, Int.reduceNeg, isB_i, isB_b, isB_y, isBv_i, isBv_b, eqCells_t, TT]
  generalize hG : H ++ [({ own := true, ty := 35, cells := [byteC d.a, byteC d.b, byteC d.c, byteC d.d, byteC d.e, byteC d.f, i64 kd, x] } : SB)] = G
  have gn : G[n]? = some (nicB s c) := by rw [← hG, List.getElem?_append_left ln]; exact hn
  have gb : G[H.length]? = some ⟨true, 35, macC d ++ [i64 kd, x]⟩ := by rw [← hG]; exact app_self
  have PG : PC G c w1 w2 k := by rw [← hG]; exact P.app _
  have xG : Rd G x l sp cc := hx.mono fun i b hi _ => by rw [← hG, List.getElem?_append_left (lt_of hi)]; exact hi
  have lG : G.length = H.length + 1 := by rw [← hG, List.length_append]; rfl
  have kG : ∀ i, i < H.length → G[i]? = H[i]? := fun i hi => by rw [← hG, List.getElem?_append_left hi]
  obtain ⟨b, hb⟩ : ∃ b, b = H.length := ⟨_, rfl⟩
  rw [← hb] at gb lG kG ⊢
  clear hG
  obtain ⟨ox, mx⟩ : ∃ o, (maskL [n, b] 0 G)[n]? = some ⟨o, 80, (nicB s c).cells⟩ := maskL_at gn
  obtain ⟨oy, my⟩ : ∃ o, (maskL [n, b] 0 G)[b]? = some ⟨o, 35, macC d ++ [i64 kd, x]⟩ := maskL_at gb
  have hok := kept_cons gn rfl (kept_cons gb rfl kept_nil)
  have lx := lt_of mx
  have ly := lt_of my
  have lgn := lt_of gn
  have lgb := lt_of gb
  have xM : Rd (maskL [n, b] 0 G) x l sp cc := xG.mask fun i hi => by
    rw [List.contains_iff_mem] at hi
    simp only [List.mem_cons, List.not_mem_nil, or_false] at hi
    rcases hi with rfl | rfl
    · exact ⟨_, gn, by show (80 : Nat) ≠ 5; decide⟩
    · exact ⟨_, gb, by show (35 : Nat) ≠ 5; decide⟩
  refine draw_of cx_ok (by kernel_rfl) 400 [n, b] [(0, true), (1, true), (2, true), (3, true), (4, true), (5, true), (6, true), (7, true), (8, true), (9, true), (10, true), (11, false), (12, true), (13, true), (14, true), (15, true), (16, true)] (by kernel_rfl) (by first | exact hok | simp [*]) ?_
  simp (maxSteps := 4000000) only [Try.results36, gn, gb, mx, my, lx, ly, lgn, lgb, XX, Nat.reduceBEq, Nat.reduceLT, Nat.reduceAdd, Nat.reduceMul, Nat.reduceSub, Nat.reduceLeDiff, Nat.reduceEqDiff, Int.reduceToNat, Int.reduceLT, Int.reduceLE, Int.reduceAdd, Int.reduceSub, Int.reduceEq, reduceIte, Nat.reduceBNe, Int.reducePow, Nat.reducePow, Int.reduceMul, Int.reduceNeg, isB_i, isB_b, isB_y, isBv_i, isBv_b, eqCells_t, TT]
  refine call_fz [.agg (fraC d s.mac kd (roB l sp cc))] sl (fun t h' h => resB_noRo h) ⟨fra_fz (xM.frc fun _ _ _ _ => rfl), trivial⟩ ?_
  rintro _ _ ⟨z, o, rfl, rfl, ho⟩
  simp (maxSteps := 4000000) only [Try.results36, ids_bsC, ren_bsC, noRo_bsC, plain_bsC, lt_bsC, ids_byte, ren_byte, noRo_byte, plain_byte, lt_byte, unL_app, XX, Nat.reduceBEq, Nat.reduceLT, Nat.reduceAdd, Nat.reduceMul, Nat.reduceSub, Nat.reduceLeDiff, Nat.reduceEqDiff, Int.reduceToNat, Int.reduceLT, Int.reduceLE, Int.reduceAdd, Int.reduceSub, Int.reduceEq, reduceIte, Nat.reduceBNe, Int.reducePow, Nat.reducePow, Int.reduceMul, Int.reduceNeg, isB_i, isB_b, isB_y, isBv_i, isBv_b, eqCells_t, TT]
  obtain ⟨q, hq⟩ : ∃ q, q = sealR d s.mac kd l := ⟨_, rfl⟩
  have q1 := sealR_ok (d := d) (s := s.mac) (kd := kd) (l := l)
  rw [← hq] at q1 ho ⊢
  clear hq xM mx my hok lx ly sl
  by_cases hz : q.2 = 0
  · have dz : decide (q.2 = 0) = true := by simpa using hz
    obtain ⟨q2, q3⟩ := q1 hz
    obtain rfl : o = true := ho (by omega)
    simp (maxSteps := 4000000) only [Try.results36, dz, XX, Nat.reduceBEq, Nat.reduceLT, Nat.reduceAdd, Nat.reduceMul, Nat.reduceSub, Nat.reduceLeDiff, Nat.reduceEqDiff, Int.reduceToNat, Int.reduceLT, Int.reduceLE, Int.reduceAdd, Int.reduceSub, Int.reduceEq, reduceIte, Nat.reduceBNe, Int.reducePow, Nat.reducePow, Int.reduceMul, Int.reduceNeg, isB_i, isB_b, isB_y, isBv_i, isBv_b, eqCells_t, TT]
    rw [maskL_len, lG]
    have gw : (G ++ [wB true (q.1 ++ z)])[b + 1]? = some (wB true (q.1 ++ z)) := by rw [← lG]; exact app_self
    have gn' : (G ++ [wB true (q.1 ++ z)])[n]? = some (nicB s c) := (List.getElem?_append_left lgn).trans gn
    have PF := PG.app [wB true (q.1 ++ z)]
    have kF : ∀ i, i < b → (G ++ [wB true (q.1 ++ z)])[i]? = H[i]? := fun i hi => (List.getElem?_append_left (by omega)).trans (kG i hi)
    have lF : (G ++ [wB true (q.1 ++ z)]).length = b + 2 := by rw [List.length_append, lG]; rfl
    generalize G ++ [wB true (q.1 ++ z)] = F at *
    obtain ⟨ox, mx⟩ : ∃ o, (maskL [n] 0 F)[n]? = some ⟨o, 80, (nicB s c).cells⟩ := maskL_at gn'
    have hok := kept_cons gn' rfl kept_nil
    have lx := lt_of mx
    have lfn := lt_of gn'
    refine draw_of cx_ok (by kernel_rfl) 400 [n] [(0, true), (1, true), (2, true), (3, true), (4, true), (5, true), (6, true), (7, true), (8, true), (9, false), (10, true)] (by kernel_rfl) (by first | exact hok | simp [*]) ?_
    simp (maxSteps := 4000000) only [Try.results36, gn', mx, lx, lfn, XX, Nat.reduceBEq, Nat.reduceLT, Nat.reduceAdd, Nat.reduceMul, Nat.reduceSub, Nat.reduceLeDiff, Nat.reduceEqDiff, Int.reduceToNat, Int.reduceLT, Int.reduceLE, Int.reduceAdd, Int.reduceSub, Int.reduceEq, reduceIte, Nat.reduceBNe, Int.reducePow, Nat.reducePow, Int.reduceMul, Int.reduceNeg, isB_i, isB_b, isB_y, isBv_i, isBv_b, eqCells_t, TT]
    have Pm := PF.mask (not1 n1) (not1 n2) (not1 n3)
    have le := layE_is os.t q2 q3
    refine call_is (Pm.lay ok s.t (.inr (.inl ⟨b + 1, _, rfl, (mask_off (not1 (by omega))).trans gw, rfl, rfl, rfl⟩))) ?_
    rintro _ _ ⟨rfl, rfl⟩
    rw [le]
    have wm : (setC F c w1 w2 (layK k s.t q.1))[b + 1]? = some (wB true (q.1 ++ z)) := by
      rw [setC_off (ty_ne gw PF.hc (by show (5 : Nat) ≠ 73; decide)) (ty_ne gw PF.h1 (by show (5 : Nat) ≠ 76; decide)) (ty_ne gw PF.h2 (by show (5 : Nat) ≠ 76; decide))]
      exact gw
    have nm : (setC F c w1 w2 (layK k s.t q.1))[n]? = some (nicB s c) := by rw [setC_off n1 n2 n3]; exact gn'
    have Pk := PF.set (layK k s.t q.1)
    have kk : ∀ i, i < b → ¬ XN5 c w1 w2 n i → (setC F c w1 w2 (layK k s.t q.1))[i]? = H[i]? := fun i hi hx => by
      rw [setC_off (fun e => hx (.inl e)) (fun e => hx (.inr (.inl e))) (fun e => hx (.inr (.inr (.inl e))))]
      exact kF i hi
    have lk : (setC F c w1 w2 (layK k s.t q.1)).length = b + 2 := by rw [setC_len]; exact lF
    by_cases hfull : seeS k.tx s.t = true
    · rw [if_pos hfull]
      simp (maxSteps := 4000000) only [Try.results36, unL_setC0 (not1 n1) (not1 n2) (not1 n3), XX, Nat.reduceBEq, Nat.reduceLT, Nat.reduceAdd, Nat.reduceMul, Nat.reduceSub, Nat.reduceLeDiff, Nat.reduceEqDiff, Int.reduceToNat, Int.reduceLT, Int.reduceLE, Int.reduceAdd, Int.reduceSub, Int.reduceEq, reduceIte, Nat.reduceBNe, Int.reducePow, Nat.reducePow, Int.reduceMul, Int.reduceNeg, isB_i, isB_b, isB_y, isBv_i, isBv_b, eqCells_t, TT]
      have e1 : sendE k s q = 3 := by unfold sendE; rw [if_pos hz, if_pos hfull]
      have e3 : ¬ (3 : Int) = 0 := by decide
      have eN : layN k s q = s := by unfold layN; rw [e1, if_neg e3]
      have eK : sendK k s q = k := by unfold sendK; rw [e1, if_neg e3]
      have eD : sendD k s q = [] := by unfold sendD; rw [e1, if_neg e3]
      rw [layK_full os.t hfull] at Pk kk nm lk ⊢
      exact ⟨_, by rw [e1], .inl ⟨rfl, eD⟩, by rw [eK]; exact Pk, by rw [eN]; exact nm, by omega, fun i hi hx => kk i (by omega) hx⟩
    · rw [if_neg hfull]
      have e1 : sendE k s q = 0 := by unfold sendE; rw [if_pos hz, if_neg hfull]
      have eN : layN k s q = { s with t := (s.t + 1) % k.tx.length } := by unfold layN; rw [if_pos e1]
      have eK : sendK k s q = layK k s.t q.1 := by unfold sendK; rw [if_pos e1]
      have eD : sendD k s q = q.1 := by unfold sendD; rw [if_pos e1]
      rw [e1, eN, eK, eD]
      have nxt := next_spec s.t k.tx.length os.t ok.tx1
      simp (maxSteps := 4000000) only [Try.results36, unL_setC0 (not1 n1) (not1 n2) (not1 n3), XX, Nat.reduceBEq, Nat.reduceLT, Nat.reduceAdd, Nat.reduceMul, Nat.reduceSub, Nat.reduceLeDiff, Nat.reduceEqDiff, Int.reduceToNat, Int.reduceLT, Int.reduceLE, Int.reduceAdd, Int.reduceSub, Int.reduceEq, reduceIte, Nat.reduceBNe, Int.reducePow, Nat.reducePow, Int.reduceMul, Int.reduceNeg, isB_i, isB_b, isB_y, isBv_i, isBv_b, eqCells_t, TT]
      generalize setC F c w1 w2 (layK k s.t q.1) = M at *
      have lmn := lt_of nm
      simp (maxSteps := 4000000) only [Try.results36, nm, lmn, XX, Nat.reduceBEq, Nat.reduceLT, Nat.reduceAdd, Nat.reduceMul, Nat.reduceSub, Nat.reduceLeDiff, Nat.reduceEqDiff, Int.reduceToNat, Int.reduceLT, Int.reduceLE, Int.reduceAdd, Int.reduceSub, Int.reduceEq, reduceIte, Nat.reduceBNe, Int.reducePow, Nat.reducePow, Int.reduceMul, Int.reduceNeg, isB_i, isB_b, isB_y, isBv_i, isBv_b, eqCells_t, TT]
      refine call_is Pk.rings ?_
      rintro _ M2 ⟨rfl, hM⟩
      rw [hM]
      clear hM
      rw [(layK_tx k s.t q.1).1]
      simp (maxSteps := 4000000) only [Try.results36, nm, lmn, XX, Nat.reduceBEq, Nat.reduceLT, Nat.reduceAdd, Nat.reduceMul, Nat.reduceSub, Nat.reduceLeDiff, Nat.reduceEqDiff, Int.reduceToNat, Int.reduceLT, Int.reduceLE, Int.reduceAdd, Int.reduceSub, Int.reduceEq, reduceIte, Nat.reduceBNe, Int.reducePow, Nat.reducePow, Int.reduceMul, Int.reduceNeg, isB_i, isB_b, isB_y, isBv_i, isBv_b, eqCells_t, TT]
      refine call_pureF [.c (i64 s.t), .c (i64 k.tx.length)] nxt ⟨.inl ⟨rfl, rfl⟩, .inl ⟨rfl, rfl⟩, trivial⟩ ?_
      rintro _ rfl
      simp (maxSteps := 4000000) only [Try.results36, nm, lmn, XX, Nat.reduceBEq, Nat.reduceLT, Nat.reduceAdd, Nat.reduceMul, Nat.reduceSub, Nat.reduceLeDiff, Nat.reduceEqDiff, Int.reduceToNat, Int.reduceLT, Int.reduceLE, Int.reduceAdd, Int.reduceSub, Int.reduceEq, reduceIte, Nat.reduceBNe, Int.reducePow, Nat.reducePow, Int.reduceMul, Int.reduceNeg, isB_i, isB_b, isB_y, isBv_i, isBv_b, eqCells_t, TT]
      have off : ∀ {i : Nat} (y : SB), i ≠ n → (M.set n y)[i]? = M[i]? := fun y hi => by rw [List.getElem?_set_ne (Ne.symm hi)]
      refine ⟨_, rfl, .inr ⟨b + 1, z, true, rfl, by omega, ?_, fun _ => rfl⟩, Pk.mono (off _ n1.symm) (off _ n2.symm) (off _ n3.symm), by rw [List.getElem?_set_self lmn], by rw [List.length_set]; omega, fun i hi hx => ?_⟩
      · rw [off _ (by omega)]; exact wm
      · rw [off _ (fun e => hx (.inr (.inr (.inr e))))]
        exact kk i (by omega) hx
  · have dz : decide (q.2 = 0) = false := by simpa using hz
    simp (maxSteps := 4000000) only [Try.results36, dz, XX, Nat.reduceBEq, Nat.reduceLT, Nat.reduceAdd, Nat.reduceMul, Nat.reduceSub, Nat.reduceLeDiff, Nat.reduceEqDiff, Int.reduceToNat, Int.reduceLT, Int.reduceLE, Int.reduceAdd, Int.reduceSub, Int.reduceEq, reduceIte, Nat.reduceBNe, Int.reducePow, Nat.reducePow, Int.reduceMul, Int.reduceNeg, isB_i, isB_b, isB_y, isBv_i, isBv_b, eqCells_t, TT]
    have e1 : sendE k s q = q.2 := by unfold sendE; rw [if_neg hz]
    refine ⟨_, by rw [e1], .inl ⟨rfl, ?_⟩, ?_, ?_, ?_⟩
    · unfold sendD; rw [e1, if_neg hz]
    · unfold sendK; rw [e1, if_neg hz]; exact PG.app _
    · unfold layN; rw [e1, if_neg hz, List.getElem?_append_left lgn]; exact gn
    · refine ⟨by rw [List.length_append]; omega, fun i hi _ => ?_⟩
      rw [List.getElem?_append_left (by omega)]; exact kG i (by omega)
end Go.Proofs.Ythbojoiogjdbeaa.Sx
namespace Go.Proofs.Ythbojoiogjdbeaa.Sx
open Go
set_option linter.unusedSimpArgs false
set_option linter.unusedVariables false
set_option maxRecDepth 10000
set_option maxHeartbeats 4000000
theorem Out.mono {H H0 h h' : List SB} {x : SC} {D : List UInt8} (h1 : Out H h x D) (hl : H0.length ≤ H.length) (hk : ∀ (i : Nat) (b : SB), h[i]? = some b → b.ty = 5 → h'[i]? = some b) : Out H0 h' x D := by
  rcases h1 with h1 | ⟨w, z, o, rfl, h2, h3, h4⟩
  · exact .inl h1
  · exact .inr ⟨w, z, o, rfl, by omega, hk _ _ h3 rfl, h4⟩
theorem set_keep {H : List SB} {n : Nat} {a y : SB} (hn : H[n]? = some a) (ht : a.ty ≠ 5) : ∀ (i : Nat) (b : SB), H[i]? = some b → b.ty = 5 → (H.set n y)[i]? = some b := fun i b hi hb => by
  rw [List.getElem?_set_ne (ty_ne hn hi (by rw [hb]; exact ht))]; exact hi
theorem PC.setn {H : List SB} {c w1 w2 n : Nat} {k : CK} {y : SB} (P : PC H c w1 w2 k) (n1 : n ≠ c) (n2 : n ≠ w1) (n3 : n ≠ w2) : PC (H.set n y) c w1 w2 k :=
  P.mono (List.getElem?_set_ne n1) (List.getElem?_set_ne n2) (List.getElem?_set_ne n3)
theorem nic_ty : (80 : Nat) ≠ 5 := by decide
theorem rnic_ty : (100 : Nat) ≠ 5 := by decide
theorem send5_spec {H : List SB} {n c w1 w2 : Nat} {k : CK} {s : NS} (P : PC H c w1 w2 k) (ok : k.ok) (hn : H[n]? = some (nicB s c)) (os : s.ok k) (d : M6) (kd : Int) {x : SC} {l sp : List UInt8} {cc : Nat} (hx : Rd H x l sp cc) :
    Spec cx.P 16 [.c (.ptr n 0), .agg (macC d ++ [i64 kd, x])] H fun t h' => ∃ x, t = .tup [(false, [x]), (false, [i64 (sendE k s (sealR d s.mac kd l))])] ∧ Out H h' x (sendD k s (sealR d s.mac kd l)) ∧ PC h' c w1 w2 (sendK k s (sealR d s.mac kd l)) ∧ h'[n]? = some (nicB (sendN k s (sealR d s.mac kd l)) c) ∧ But H h' (XN5 c w1 w2 n) := by
  have ln := lt_of hn
  have n1 : n ≠ c := ty_ne hn P.hc (by show (80 : Nat) ≠ 73; decide)
  have n2 : n ≠ w1 := ty_ne hn P.h1 (by show (80 : Nat) ≠ 76; decide)
  have n3 : n ≠ w2 := ty_ne hn P.h2 (by show (80 : Nat) ≠ 76; decide)
  refine spec_of_X cx_ok Try.func16 rfl (by kernel_rfl) (by kernel_rfl) (Nat.le_of_ble_eq_true rfl) 400 8 ?_
  simp (maxSteps := 4000000) only [Try.results16, XX, Nat.reduceBEq, Nat.reduceLT, Nat.reduceAdd, Nat.reduceMul, Nat.reduceSub, Nat.reduceLeDiff, Nat.reduceEqDiff, Int.reduceToNat, Int.reduceLT, Int.reduceLE, Int.reduceAdd, Int.reduceSub, Int.reduceEq, reduceIte, Nat.reduceBNe, Int.reducePow, Nat.reducePow, Int.reduceMul, Int.reduceNeg, isB_i, isB_b, isB_y, isBv_i, isBv_b, eqCells_t, TT]
  simp (maxSteps := 4000000) only [Try.results16, app_self, List.length_append, List.length_cons, List.length_nil, XX, Nat.reduceBEq, Nat.reduceLT, Nat.reduceAdd, Nat.reduceMul, Nat.reduceSub, Nat.reduceLeDiff, Nat.reduceEqDiff, Int.reduceToNat, Int.reduceLT, Int.reduceLE, Int.reduceAdd, Int.reduceSub, Int.reduceEq, reduceIte, Nat.reduceBNe, Int.reducePow, Nat.reducePow, Int.reduceMul, Int.reduceNeg, isB_i, isB_b, isB_y, isBv_i, isBv_b, eqCells_t, TT]
  obtain ⟨B, hB⟩ : ∃ B : List SB, B = [({ own := true, ty := 35, cells := [byteC d.a, byteC d.b, byteC d.c, byteC d.d, byteC d.e, byteC d.f, i64 kd, x] } : SB)] := ⟨_, rfl⟩
  rw [← hB]
  refine call_is (lay5_spec (P.app B) ok ((List.getElem?_append_left ln).trans hn) os d kd (hx.mono fun i b hi _ => (List.getElem?_append_left (lt_of hi)).trans hi)) ?_
  rintro _ M ⟨x', rfl, hO, PM, hM, bM⟩
  have lm := lt_of hM
  have lB : H.length ≤ (H ++ B).length := by rw [List.length_append]; omega
  have bM' : But H M (XN5 c w1 w2 n) := ⟨by have := bM.1; omega, fun i hi hx => (bM.2 i (by omega) hx).trans (List.getElem?_append_left hi)⟩
  generalize sealR d s.mac kd l = q at *
  by_cases hz : sendE k s q = 0
  · have dz : decide (sendE k s q = 0) = true := by simpa using hz
    have e1 : layN k s q = { s with t := (s.t + 1) % k.tx.length } := by unfold layN; rw [if_pos hz]
    have e2 : sendN k s q = { s with t := (s.t + 1) % k.tx.length, se := incW s.se } := by unfold sendN; rw [if_pos hz]
    rw [e1] at hM
    rw [e2]
    simp (maxSteps := 4000000) only [Try.results16, dz, hM, lm, gset, XX, Nat.reduceBEq, Nat.reduceLT, Nat.reduceAdd, Nat.reduceMul, Nat.reduceSub, Nat.reduceLeDiff, Nat.reduceEqDiff, Int.reduceToNat, Int.reduceLT, Int.reduceLE, Int.reduceAdd, Int.reduceSub, Int.reduceEq, reduceIte, Nat.reduceBNe, Int.reducePow, Nat.reducePow, Int.reduceMul, Int.reduceNeg, isB_i, isB_b, isB_y, isBv_i, isBv_b, eqCells_t, TT]
    exact ⟨_, by rw [hz], hO.mono lB (set_keep hM nic_ty), PM.setn n1 n2 n3, rfl, bM'.set (.inr (.inr (.inr rfl))) _⟩
  · have dz : decide (sendE k s q = 0) = false := by simpa using hz
    have e1 : layN k s q = s := by unfold layN; rw [if_neg hz]
    have e2 : sendN k s q = { s with rf := incW s.rf } := by unfold sendN; rw [if_neg hz]
    have e3 : sendD k s q = [] := by unfold sendD; rw [if_neg hz]
    rw [e1] at hM
    rw [e2]
    simp (maxSteps := 4000000) only [Try.results16, dz, hM, lm, gset, XX, Nat.reduceBEq, Nat.reduceLT, Nat.reduceAdd, Nat.reduceMul, Nat.reduceSub, Nat.reduceLeDiff, Nat.reduceEqDiff, Int.reduceToNat, Int.reduceLT, Int.reduceLE, Int.reduceAdd, Int.reduceSub, Int.reduceEq, reduceIte, Nat.reduceBNe, Int.reducePow, Nat.reducePow, Int.reduceMul, Int.reduceNeg, isB_i, isB_b, isB_y, isBv_i, isBv_b, eqCells_t, TT]
    exact ⟨_, rfl, .inl ⟨rfl, e3⟩, PM.setn n1 n2 n3, rfl, bM'.set (.inr (.inr (.inr rfl))) _⟩
end Go.Proofs.Ythbojoiogjdbeaa.Sx
