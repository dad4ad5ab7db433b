/- The symbolic executor, at work: numbers of bytes, by the reference. No condition. -/
import Derived.Test.YtflccffjfnfoiaaGt
namespace Go.Proofs.Ytflccffjfnfoiaa.Sx
open Go
set_option linter.unusedSimpArgs false
set_option linter.unusedVariables false
set_option maxRecDepth 10000
set_option maxHeartbeats 1000000

theorem rget4_spec (l sp : List UInt8) (c at' : Nat) (hb : at' + 4 ≤ l.length) (hc : l.length ≤ c) (hl : l.length ≤ 140737488355328) : Spec cx.P 45 [.c (roB l sp c), .c (i64 at'), .c (i64 4)] [] fun s h' => s = .tup [(false, [u64 (get4 l at' : Nat)]), (false, [.v (.int .i64 0)])] ∧ h' = [] := by
  have d0 : decide ((at' : Int) < 0) = false := by simp only [decide_eq_false_iff_not]; omega
  have d1 : decide (((l.length : Nat) : Int) < (at' : Int)) = false := by simp only [decide_eq_false_iff_not]; omega
  have d2 : decide ((((l.length - at' : Nat)) : Int) < 4) = false := by simp only [decide_eq_false_iff_not]; omega
  have e1 : IntKind.i64.wrap ((l.length : Int) - (at' : Int)) = ((l.length - at' : Nat) : Int) := by rw [w64] <;> omega
  refine spec_of_X cx_ok Try.func45 rfl (by kernel_rfl) (by kernel_rfl) (Nat.le_of_ble_eq_true rfl) 400 10 ?_
  simp (maxSteps := 4000000) only [Try.results45, XX, Nat.reduceBEq, Nat.reduceLT, Nat.reduceAdd, Nat.reduceMul, Nat.reduceSub, Nat.reduceLeDiff, Nat.reduceEqDiff, Int.reduceToNat, Int.reduceLT, Int.reduceLE, Int.reduceAdd, Int.reduceSub, Int.reduceEq, reduceIte, Nat.reduceBNe, Int.reducePow, Nat.reducePow, Int.reduceMul, Int.reduceNeg, isB_i, isB_b, isB_y, isBv_i, isBv_b, eqCells_t, TT]
  simp (maxSteps := 4000000) only [Try.results45, d0, d1, d2, e1, XX, Nat.reduceBEq, Nat.reduceLT, Nat.reduceAdd, Nat.reduceMul, Nat.reduceSub, Nat.reduceLeDiff, Nat.reduceEqDiff, Int.reduceToNat, Int.reduceLT, Int.reduceLE, Int.reduceAdd, Int.reduceSub, Int.reduceEq, reduceIte, Nat.reduceBNe, Int.reducePow, Nat.reducePow, Int.reduceMul, Int.reduceNeg, isB_i, isB_b, isB_y, isBv_i, isBv_b, eqCells_t, TT]
  refine loop_rounds cx_ok 400 5 ?_
  have i0 : IntKind.i64.wrap ((at' : Int) + 0) = ((at' : Nat) : Int) := by rw [w64] <;> omega
  have i1 : IntKind.i64.wrap ((at' : Int) + 1) = ((at' + 1 : Nat) : Int) := by rw [w64] <;> omega
  have i2 : IntKind.i64.wrap ((at' : Int) + 2) = ((at' + 2 : Nat) : Int) := by rw [w64] <;> omega
  have i3 : IntKind.i64.wrap ((at' : Int) + 3) = ((at' + 3 : Nat) : Int) := by rw [w64] <;> omega
  obtain ⟨R0, h0⟩ := drop1 (sp := sp) (l := l) (k := at') (by omega)
  obtain ⟨R1, h1⟩ := drop1 (sp := sp) (l := l) (k := at' + 1) (by omega)
  obtain ⟨R2, h2⟩ := drop1 (sp := sp) (l := l) (k := at' + 2) (by omega)
  obtain ⟨R3, h3⟩ := drop1 (sp := sp) (l := l) (k := at' + 3) (by omega)
  have q0 := (l.getD at' 0).toNat_lt
  have q1 := (l.getD (at' + 1) 0).toNat_lt
  have q2 := (l.getD (at' + 2) 0).toNat_lt
  have q3 := (l.getD (at' + 3) 0).toNat_lt
  have z : IntKind.u64.wrap (0 + IntKind.u64.wrap ((l.getD at' 0).toNat : Int)) = ((l.getD at' 0).toNat : Int) := by
    rw [wu64 (x := ((l.getD at' 0).toNat : Int)) (by omega) (by omega), wu64] <;> omega
  have z1 := mul_next (a := (l.getD at' 0).toNat) (b := (l.getD (at' + 1) 0).toNat) (by omega) (by omega)
  have z2 := mul_next (a := (l.getD at' 0).toNat * 256 + (l.getD (at' + 1) 0).toNat) (b := (l.getD (at' + 2) 0).toNat) (by omega) (by omega)
  have z3 := mul_next (a := ((l.getD at' 0).toNat * 256 + (l.getD (at' + 1) 0).toNat) * 256 + (l.getD (at' + 2) 0).toNat) (b := (l.getD (at' + 3) 0).toNat) (by omega) (by omega)
  simp (maxSteps := 4000000) only [Try.results45, w64, wu64, i0, i1, i2, i3, h0, h1, h2, h3, z, z1, z2, z3, Int.reduceToNat, XX, Nat.reduceBEq, Nat.reduceLT, Nat.reduceAdd, Nat.reduceMul, Nat.reduceSub, Nat.reduceLeDiff, Nat.reduceEqDiff, Int.reduceToNat, Int.reduceLT, Int.reduceLE, Int.reduceAdd, Int.reduceSub, Int.reduceEq, reduceIte, Nat.reduceBNe, Int.reducePow, Nat.reducePow, Int.reduceMul, Int.reduceNeg, isB_i, isB_b, isB_y, isBv_i, isBv_b, eqCells_t, TT]
  omega

end Go.Proofs.Ytflccffjfnfoiaa.Sx
