/- The symbolic executor, at work: bytes, anew. No condition. -/
import Derived.Test.YtipbnhgeanlkeaaBy
namespace Go.Proofs.Ytipbnhgeanlkeaa.Sx
open Go
set_option linter.unusedSimpArgs false
set_option linter.unusedVariables false
set_option maxRecDepth 10000
set_option maxHeartbeats 1000000

theorem clone_spec (l sp : List UInt8) (c : Nat) (hl : l.length ≤ 140737488355328) (hn : 0 < l.length) (hc : 0 < c) : Spec cx.P 27 [.c (roB l sp c)] [] fun s h' => ∃ r, s = .c (.sl 0 0 l.length (l.length + r)) ∧ h' = [wB true (l ++ List.replicate r 0)] := by
  have key : Spec cx.P 27 [.c (roB l sp c)] [] fun s h' => ∃ r a, s = .c (.sl 1 0 l.length (l.length + r)) ∧ h' = [a, wB true (l ++ List.replicate r 0)] := by
    refine spec_of_X cx_ok Try.func27 rfl (by kernel_rfl) (by kernel_rfl) (Nat.le_of_ble_eq_true rfl) 400 3 ?_
    simp (maxSteps := 4000000) only [Try.results27, XX, Nat.reduceBEq, Nat.reduceLT, Nat.reduceAdd, Nat.reduceMul, Nat.reduceSub, Nat.reduceLeDiff, Nat.reduceEqDiff, Int.reduceToNat, Int.reduceLT, Int.reduceLE, Int.reduceAdd, Int.reduceSub, Int.reduceEq, reduceIte, Nat.reduceBNe, Int.reducePow, Nat.reducePow, Int.reduceMul, Int.reduceNeg, isB_i, isB_b, isB_y, isBv_i, isBv_b, eqCells_t, TT]
    have e0 : (bsR (l ++ sp)).take l.length = bsR l := by rw [rs_take, List.take_left' rfl]
    refine ⟨hc, ⟨⟨by omega, by unfold maxLen; omega, by simp, fun h => by omega⟩, by simp⟩, xapp_grow hn fun c' h1 _ => ?_⟩
    obtain ⟨r, rfl⟩ := Nat.exists_eq_add_of_le h1
    simp (maxSteps := 4000000) only [Try.results27, e0, bsR_toSC, Nat.add_sub_cancel_left, zeros_flat, bs_app, XX, Nat.reduceBEq, Nat.reduceLT, Nat.reduceAdd, Nat.reduceMul, Nat.reduceSub, Nat.reduceLeDiff, Nat.reduceEqDiff, Int.reduceToNat, Int.reduceLT, Int.reduceLE, Int.reduceAdd, Int.reduceSub, Int.reduceEq, reduceIte, Nat.reduceBNe, Int.reducePow, Nat.reducePow, Int.reduceMul, Int.reduceNeg, isB_i, isB_b, isB_y, isBv_i, isBv_b, eqCells_t, TT]
    exact ⟨r, _, rfl, rfl⟩
  exact key.wk fun t h' ⟨r, a, h1, h2⟩ => ⟨.c (.sl 0 0 l.length (l.length + r)), [wB true (l ++ List.replicate r 0)], [some 1], rfl, by subst h2; simp only [XX, Nat.reduceBEq, Nat.reduceLT, Nat.reduceAdd, Nat.reduceMul, Nat.reduceSub, Nat.reduceLeDiff, Nat.reduceEqDiff, Int.reduceToNat, Int.reduceLT, Int.reduceLE, Int.reduceAdd, Int.reduceSub, Int.reduceEq, reduceIte, Nat.reduceBNe, Int.reducePow, Nat.reducePow, Int.reduceMul, Int.reduceNeg, isB_i, isB_b, isB_y, isBv_i, isBv_b, eqCells_t, TT, ids_bsC, ren_bsC, noRo_bsC, plain_bsC, lt_bsC, ids_byte, ren_byte, noRo_byte, plain_byte, lt_byte], by subst h1; simp only [XX, Nat.reduceBEq, Nat.reduceLT, Nat.reduceAdd, Nat.reduceMul, Nat.reduceSub, Nat.reduceLeDiff, Nat.reduceEqDiff, Int.reduceToNat, Int.reduceLT, Int.reduceLE, Int.reduceAdd, Int.reduceSub, Int.reduceEq, reduceIte, Nat.reduceBNe, Int.reducePow, Nat.reducePow, Int.reduceMul, Int.reduceNeg, isB_i, isB_b, isB_y, isBv_i, isBv_b, eqCells_t, TT, ids_bsC, ren_bsC, noRo_bsC, plain_bsC, lt_bsC, ids_byte, ren_byte, noRo_byte, plain_byte, lt_byte], r, rfl, rfl⟩


end Go.Proofs.Ytipbnhgeanlkeaa.Sx
