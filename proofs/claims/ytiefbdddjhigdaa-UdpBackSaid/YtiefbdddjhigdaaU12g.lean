/- The symbolic executor, at work: datagrams, whole contracts. No condition. -/
import Derived.Test.YtiefbdddjhigdaaU12f
namespace Go.Proofs.Ytiefbdddjhigdaa.Sx
open Go
set_option linter.unusedSimpArgs false
set_option linter.unusedVariables false
set_option maxRecDepth 10000
set_option maxHeartbeats 2000000

theorem udec_spec (src dst : Nat) (l sp : List UInt8) (c : Nat) (hsrc : src < 4294967296) (hdst : dst < 4294967296) (hc : l.length ≤ c) (hl : l.length ≤ 140737488355328) : Spec cx.P 15 [.c (i32 src), .c (i32 dst), .c (roB l sp c)] [] (resU (udecR src dst l)) := by
  unfold udecR
  by_cases h8 : l.length < 8
  · rw [if_pos h8]; exact resU_nil (udecS_spec src dst l sp c h8)
  rw [if_neg h8]
  by_cases h4 : n16 l 4 < 8 ∨ l.length < n16 l 4
  · rw [if_pos h4]; exact resU_nil (udecL_spec src dst l sp c (by omega) hc hl h4)
  rw [if_neg h4]
  exact udecV_spec src dst l sp c hsrc hdst (by omega) hc hl (by omega) (by omega)

theorem rudec_spec (src dst : Nat) (l sp : List UInt8) (c : Nat) (hsrc : src < 4294967296) (hdst : dst < 4294967296) (hc : l.length ≤ c) (hl : l.length ≤ 140737488355328) : Spec cx.P 14 [.c (i32 src), .c (i32 dst), .c (roB l sp c)] [] (resU (udecR src dst l)) := by
  unfold udecR
  by_cases h8 : l.length < 8
  · rw [if_pos h8]; exact resU_nil (rudecS_spec src dst l sp c h8)
  rw [if_neg h8]
  by_cases h4 : n16 l 4 < 8 ∨ l.length < n16 l 4
  · rw [if_pos h4]; exact resU_nil (rudecL_spec src dst l sp c (by omega) hc hl h4)
  rw [if_neg h4]
  exact rudecV_spec src dst l sp c hsrc hdst (by omega) hc hl (by omega) (by omega)

theorem udecR_len (src dst : Nat) (l : List UInt8) : (udecR src dst l).2.2.1.length ≤ 65535 := by
  have := n16_lt l 4
  unfold udecR
  repeat' split
  all_goals simp
  omega

theorem rsame_spec (a a' b b' : Int) (l l' z z' : List UInt8) (c c' : Nat) : Spec cx.P 16 [.agg (udpC a b (roB l z c)), .agg (udpC a' b' (roB l' z' c'))] [] fun s _ => s.plain = true ∧ s = .c (bC (decide (a = a') && decide (b = b') && decide (l = l'))) := by
  have m9 : ∀ l sp : List UInt8, (bsR (l ++ sp)).take l.length = bsR l := fun l sp => by rw [rs_take, List.take_left' rfl]
  refine spec_of_X cx_ok Try.func16 rfl (by kernel_rfl) (by kernel_rfl) (Nat.le_of_ble_eq_true rfl) 400 5 ?_
  simp (maxSteps := 4000000) only [Try.results16, XX, Nat.reduceBEq, Nat.reduceLT, Nat.reduceAdd, Nat.reduceMul, Nat.reduceSub, Nat.reduceLeDiff, Nat.reduceEqDiff, Int.reduceToNat, Int.reduceLT, Int.reduceLE, Int.reduceAdd, Int.reduceSub, Int.reduceEq, reduceIte, Nat.reduceBNe, Int.reducePow, Nat.reducePow, Int.reduceMul, Int.reduceNeg, isB_i, isB_b, isB_y, isBv_i, isBv_b, eqCells_t, TT]
  cases h1 : decide (a = a')
  · simp (maxSteps := 4000000) only [Try.results16, h1, XX, Nat.reduceBEq, Nat.reduceLT, Nat.reduceAdd, Nat.reduceMul, Nat.reduceSub, Nat.reduceLeDiff, Nat.reduceEqDiff, Int.reduceToNat, Int.reduceLT, Int.reduceLE, Int.reduceAdd, Int.reduceSub, Int.reduceEq, reduceIte, Nat.reduceBNe, Int.reducePow, Nat.reducePow, Int.reduceMul, Int.reduceNeg, isB_i, isB_b, isB_y, isBv_i, isBv_b, eqCells_t, TT]
  · cases h2 : decide (b = b')
    · simp (maxSteps := 4000000) only [Try.results16, h1, h2, XX, Nat.reduceBEq, Nat.reduceLT, Nat.reduceAdd, Nat.reduceMul, Nat.reduceSub, Nat.reduceLeDiff, Nat.reduceEqDiff, Int.reduceToNat, Int.reduceLT, Int.reduceLE, Int.reduceAdd, Int.reduceSub, Int.reduceEq, reduceIte, Nat.reduceBNe, Int.reducePow, Nat.reducePow, Int.reduceMul, Int.reduceNeg, isB_i, isB_b, isB_y, isBv_i, isBv_b, eqCells_t, TT]
    · simp (maxSteps := 4000000) only [Try.results16, h1, h2, m9, bsR_toSC, strOf_bsC, str_eq, XX, Nat.reduceBEq, Nat.reduceLT, Nat.reduceAdd, Nat.reduceMul, Nat.reduceSub, Nat.reduceLeDiff, Nat.reduceEqDiff, Int.reduceToNat, Int.reduceLT, Int.reduceLE, Int.reduceAdd, Int.reduceSub, Int.reduceEq, reduceIte, Nat.reduceBNe, Int.reducePow, Nat.reducePow, Int.reduceMul, Int.reduceNeg, isB_i, isB_b, isB_y, isBv_i, isBv_b, eqCells_t, TT]
      exact ⟨⟨by simp, isByte_bsC l⟩, by simp, isByte_bsC l'⟩

theorem resU_noRo {q : Nat × Nat × List UInt8 × Int} {t : SV} {h' : List SB} (h : resU q t h') : t.noRo = true ∧ (h'.all fun b => b.cells.all SC.noRo) = true := by
  obtain ⟨sp, o, rfl, rfl, _⟩ := h
  exact ⟨rfl, by simp only [XX, Nat.reduceBEq, Nat.reduceLT, Nat.reduceAdd, Nat.reduceMul, Nat.reduceSub, Nat.reduceLeDiff, Nat.reduceEqDiff, Int.reduceToNat, Int.reduceLT, Int.reduceLE, Int.reduceAdd, Int.reduceSub, Int.reduceEq, reduceIte, Nat.reduceBNe, Int.reducePow, Nat.reducePow, Int.reduceMul, Int.reduceNeg, isB_i, isB_b, isB_y, isBv_i, isBv_b, eqCells_t, TT, ids_bsC, ren_bsC, noRo_bsC, plain_bsC, lt_bsC, ids_byte, ren_byte, noRo_byte, plain_byte, lt_byte]⟩

end Go.Proofs.Ytiefbdddjhigdaa.Sx
