/- The symbolic executor, at work: numbers of bytes. No condition. -/
import Derived.Test.YtflccffjfnfoiaaBy
namespace Go.Proofs.Ytflccffjfnfoiaa.Sx
open Go
set_option linter.unusedSimpArgs false
set_option linter.unusedVariables false
set_option maxRecDepth 10000
set_option maxHeartbeats 1000000

theorem drop2 {l sp : List UInt8} {k : Nat} (h : k + 2 ≤ l.length) : ∃ R, (bsR (l ++ sp)).drop k = .v (.int .u8 (l.getD k 0).toNat) :: .v (.int .u8 (l.getD (k + 1) 0).toNat) :: R := by
  refine ⟨(bsR (l ++ sp)).drop (k + 2), ?_⟩
  rw [List.drop_eq_getElem_cons (by simp; omega), List.drop_eq_getElem_cons (by simp; omega)]
  simp only [List.getElem_map, byteR]
  rw [List.getElem_append_left (by omega), List.getElem_append_left (by omega), List.getD_eq_getElem?_getD, List.getD_eq_getElem?_getD, List.getElem?_eq_getElem (by omega), List.getElem?_eq_getElem (by omega)]
  rfl
theorem get2_spec (l sp : List UInt8) (c at' : Nat) (hb : at' + 2 ≤ l.length) (hc : l.length ≤ c) (hl : l.length ≤ 140737488355328) : Spec cx.P 47 [.c (roB l sp c), .c (i64 at'), .c (i64 2)] [] fun s h' => s = .tup [(false, [u64 ((l.getD at' 0).toNat * 256 + (l.getD (at' + 1) 0).toNat : Nat)]), (false, [.v (.int .i64 0)])] ∧ h' = [] := by
  have d0 : decide ((at' : Int) < 0) = false := by simp only [decide_eq_false_iff_not]; omega
  have d1 : decide (((l.length : Nat) : Int) < (at' : Int)) = false := by simp only [decide_eq_false_iff_not]; omega
  have d2 : decide ((((l.length - at' : Nat)) : Int) < 2) = false := by simp only [decide_eq_false_iff_not]; omega
  have e1 : IntKind.i64.wrap ((l.length : Int) - (at' : Int)) = ((l.length - at' : Nat) : Int) := by rw [w64] <;> omega
  have e2 : IntKind.i64.wrap ((at' : Int) + 2) = ((at' + 2 : Nat) : Int) := by rw [w64] <;> omega
  have e3 : at' + 2 - at' = 2 := by omega
  refine spec_of_X cx_ok Try.func47 rfl (by kernel_rfl) (by kernel_rfl) (Nat.le_of_ble_eq_true rfl) 400 43 ?_
  simp (maxSteps := 4000000) only [Try.results47, XX, Nat.reduceBEq, Nat.reduceLT, Nat.reduceAdd, Nat.reduceMul, Nat.reduceSub, Nat.reduceLeDiff, Nat.reduceEqDiff, Int.reduceToNat, Int.reduceLT, Int.reduceLE, Int.reduceAdd, Int.reduceSub, Int.reduceEq, reduceIte, Nat.reduceBNe, Int.reducePow, Nat.reducePow, Int.reduceMul, Int.reduceNeg, isB_i, isB_b, isB_y, isBv_i, isBv_b, eqCells_t, TT]
  simp (maxSteps := 4000000) only [Try.results47, d0, d1, d2, e1, e2, e3, XX, Nat.reduceBEq, Nat.reduceLT, Nat.reduceAdd, Nat.reduceMul, Nat.reduceSub, Nat.reduceLeDiff, Nat.reduceEqDiff, Int.reduceToNat, Int.reduceLT, Int.reduceLE, Int.reduceAdd, Int.reduceSub, Int.reduceEq, reduceIte, Nat.reduceBNe, Int.reducePow, Nat.reducePow, Int.reduceMul, Int.reduceNeg, isB_i, isB_b, isB_y, isBv_i, isBv_b, eqCells_t, TT]
  refine ⟨by omega, loop_rounds cx_ok 400 3 ?_⟩
  obtain ⟨R, hR⟩ := drop2 (sp := sp) hb
  simp (maxSteps := 4000000) only [Try.results47, w64, Int.reduceToNat, hR, XX, Nat.reduceBEq, Nat.reduceLT, Nat.reduceAdd, Nat.reduceMul, Nat.reduceSub, Nat.reduceLeDiff, Nat.reduceEqDiff, Int.reduceToNat, Int.reduceLT, Int.reduceLE, Int.reduceAdd, Int.reduceSub, Int.reduceEq, reduceIte, Nat.reduceBNe, Int.reducePow, Nat.reducePow, Int.reduceMul, Int.reduceNeg, isB_i, isB_b, isB_y, isBv_i, isBv_b, eqCells_t, TT]
  have q0 := (l.getD at' 0).toNat_lt
  have q1 := (l.getD (at' + 1) 0).toNat_lt
  have z := or_next (a := 0) (b := (l.getD at' 0).toNat) (by omega) (by omega)
  rw [Int.natCast_zero] at z
  rw [z, or_next (by omega) (by omega)]
  exact ⟨by omega, by omega, by rw [Nat.zero_mul, Nat.zero_add]⟩


theorem drop1 {l sp : List UInt8} {k : Nat} (h : k + 1 ≤ l.length) : ∃ R, (bsR (l ++ sp)).drop k = .v (.int .u8 (l.getD k 0).toNat) :: R := by
  refine ⟨(bsR (l ++ sp)).drop (k + 1), ?_⟩
  rw [List.drop_eq_getElem_cons (by simp; omega)]
  simp only [List.getElem_map, byteR]
  rw [List.getElem_append_left (by omega), List.getD_eq_getElem?_getD, List.getElem?_eq_getElem (by omega)]
  rfl
/-- A number's next byte, by the reference. -/
theorem mul_next {a b : Nat} (ha : a < 72057594037927936) (hb : b < 256) : IntKind.u64.wrap (IntKind.u64.wrap ((a : Int) * 256) + IntKind.u64.wrap (b : Int)) = ((a * 256 + b : Nat) : Int) := by
  rw [wu64 (x := (a : Int) * 256) (by omega) (by omega), wu64 (x := (b : Int)) (by omega) (by omega), wu64] <;> omega

theorem or_i64 {x y : Nat} (hx : x < 4611686018427387904) (hy : y < 4611686018427387904) : bitI .or .i64 (x : Int) (y : Int) = ((x ||| y : Nat) : Int) := by
  show IntKind.i64.wrap (((BitVec.ofInt 64 (x : Int) ||| BitVec.ofInt 64 (y : Int) : BitVec 64).toNat : Nat) : Int) = _
  rw [BitVec.toNat_or, bvn 64 x (by omega), bvn 64 y (by omega)]
  have : x ||| y < 2 ^ 62 := Nat.or_lt_two_pow hx hy
  rw [w64] <;> omega
/-- Two bytes as a number. -/
theorem or_two {a b : Nat} (ha : a < 256) (hb : b < 256) : bitI .or .i64 (IntKind.i64.wrap (IntKind.i64.wrap (a : Int) * 2 ^ min 8 64)) (IntKind.i64.wrap (b : Int)) = ((a * 256 + b : Nat) : Int) := by
  rw [w64 (x := (a : Int)) (by omega) (by omega)]
  have e : (a : Int) * 2 ^ min 8 64 = ((a * 256 : Nat) : Int) := by push_cast; rfl
  rw [e, w64 (by omega) (by omega), w64 (by omega) (by omega), or_i64 (by omega) (by omega), or_add hb]

theorem drop4 {l sp : List UInt8} {k : Nat} (h : k + 4 ≤ l.length) : ∃ R, (bsR (l ++ sp)).drop k = .v (.int .u8 (l.getD k 0).toNat) :: .v (.int .u8 (l.getD (k + 1) 0).toNat) :: .v (.int .u8 (l.getD (k + 2) 0).toNat) :: .v (.int .u8 (l.getD (k + 3) 0).toNat) :: R := by
  obtain ⟨R1, h1⟩ := drop2 (sp := sp) (k := k) (l := l) (by omega)
  obtain ⟨R2, h2⟩ := drop2 (sp := sp) (k := k + 2) (l := l) (by omega)
  refine ⟨R2, ?_⟩
  have e : (bsR (l ++ sp)).drop (k + 2) = R1 := by
    rw [← List.drop_drop, h1]; rfl
  rw [h1, ← e, h2]

abbrev get4 (l : List UInt8) (k : Nat) : Nat := (((l.getD k 0).toNat * 256 + (l.getD (k + 1) 0).toNat) * 256 + (l.getD (k + 2) 0).toNat) * 256 + (l.getD (k + 3) 0).toNat

theorem get4_spec (l sp : List UInt8) (c at' : Nat) (hb : at' + 4 ≤ l.length) (hc : l.length ≤ c) (hl : l.length ≤ 140737488355328) : Spec cx.P 47 [.c (roB l sp c), .c (i64 at'), .c (i64 4)] [] fun s h' => s = .tup [(false, [u64 (get4 l at' : Nat)]), (false, [.v (.int .i64 0)])] ∧ h' = [] := by
  have d0 : decide ((at' : Int) < 0) = false := by simp only [decide_eq_false_iff_not]; omega
  have d1 : decide (((l.length : Nat) : Int) < (at' : Int)) = false := by simp only [decide_eq_false_iff_not]; omega
  have d2 : decide ((((l.length - at' : Nat)) : Int) < 4) = false := by simp only [decide_eq_false_iff_not]; omega
  have e1 : IntKind.i64.wrap ((l.length : Int) - (at' : Int)) = ((l.length - at' : Nat) : Int) := by rw [w64] <;> omega
  have e2 : IntKind.i64.wrap ((at' : Int) + 4) = ((at' + 4 : Nat) : Int) := by rw [w64] <;> omega
  have e3 : at' + 4 - at' = 4 := by omega
  refine spec_of_X cx_ok Try.func47 rfl (by kernel_rfl) (by kernel_rfl) (Nat.le_of_ble_eq_true rfl) 400 43 ?_
  simp (maxSteps := 4000000) only [Try.results47, XX, Nat.reduceBEq, Nat.reduceLT, Nat.reduceAdd, Nat.reduceMul, Nat.reduceSub, Nat.reduceLeDiff, Nat.reduceEqDiff, Int.reduceToNat, Int.reduceLT, Int.reduceLE, Int.reduceAdd, Int.reduceSub, Int.reduceEq, reduceIte, Nat.reduceBNe, Int.reducePow, Nat.reducePow, Int.reduceMul, Int.reduceNeg, isB_i, isB_b, isB_y, isBv_i, isBv_b, eqCells_t, TT]
  simp (maxSteps := 4000000) only [Try.results47, d0, d1, d2, e1, e2, e3, XX, Nat.reduceBEq, Nat.reduceLT, Nat.reduceAdd, Nat.reduceMul, Nat.reduceSub, Nat.reduceLeDiff, Nat.reduceEqDiff, Int.reduceToNat, Int.reduceLT, Int.reduceLE, Int.reduceAdd, Int.reduceSub, Int.reduceEq, reduceIte, Nat.reduceBNe, Int.reducePow, Nat.reducePow, Int.reduceMul, Int.reduceNeg, isB_i, isB_b, isB_y, isBv_i, isBv_b, eqCells_t, TT]
  refine ⟨by omega, loop_rounds cx_ok 400 5 ?_⟩
  obtain ⟨R, hR⟩ := drop4 (sp := sp) hb
  have q0 := (l.getD at' 0).toNat_lt
  have q1 := (l.getD (at' + 1) 0).toNat_lt
  have q2 := (l.getD (at' + 2) 0).toNat_lt
  have q3 := (l.getD (at' + 3) 0).toNat_lt
  have z := or_next (a := 0) (b := (l.getD at' 0).toNat) (by omega) (by omega)
  rw [Int.natCast_zero, Nat.zero_mul, Nat.zero_add] at z
  have z1 := or_next (a := (l.getD at' 0).toNat) (b := (l.getD (at' + 1) 0).toNat) (by omega) (by omega)
  have z2 := or_next (a := (l.getD at' 0).toNat * 256 + (l.getD (at' + 1) 0).toNat) (b := (l.getD (at' + 2) 0).toNat) (by omega) (by omega)
  have z3 := or_next (a := ((l.getD at' 0).toNat * 256 + (l.getD (at' + 1) 0).toNat) * 256 + (l.getD (at' + 2) 0).toNat) (b := (l.getD (at' + 3) 0).toNat) (by omega) (by omega)
  simp (maxSteps := 4000000) only [Try.results47, w64, Int.reduceToNat, hR, z, z1, z2, z3, XX, Nat.reduceBEq, Nat.reduceLT, Nat.reduceAdd, Nat.reduceMul, Nat.reduceSub, Nat.reduceLeDiff, Nat.reduceEqDiff, Int.reduceToNat, Int.reduceLT, Int.reduceLE, Int.reduceAdd, Int.reduceSub, Int.reduceEq, reduceIte, Nat.reduceBNe, Int.reducePow, Nat.reducePow, Int.reduceMul, Int.reduceNeg, isB_i, isB_b, isB_y, isBv_i, isBv_b, eqCells_t, TT]
  exact ⟨by omega, by omega, by omega, by omega⟩

end Go.Proofs.Ytflccffjfnfoiaa.Sx
