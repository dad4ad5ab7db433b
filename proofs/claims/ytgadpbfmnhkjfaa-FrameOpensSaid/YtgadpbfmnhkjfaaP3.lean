/- The symbolic executor, at work: frames. No condition. -/
import Derived.Test.YtgadpbfmnhkjfaaOc
namespace Go.Proofs.Ytgadpbfmnhkjfaa.Sx
open Go
set_option linter.unusedSimpArgs false
set_option linter.unusedVariables false
set_option maxRecDepth 10000
set_option maxHeartbeats 1000000

abbrev fraC (d s : M6) (k : Int) (x : SC) : List SC := [byteC d.a, byteC d.b, byteC d.c, byteC d.d, byteC d.e, byteC d.f, byteC s.a, byteC s.b, byteC s.c, byteC s.d, byteC s.e, byteC s.f, i64 k, x]
abbrev noC : SC := .v (.slice none 0 0)
/-- A frame as bytes. -/
abbrev sealL (d s : M6) (k : Nat) (l : List UInt8) : List UInt8 := d.l ++ s.l ++ be2 k ++ (l ++ List.replicate (46 - l.length) 0)

theorem fsealK_spec (d s : M6) (k : Int) (x : SC) (hk : k < 1536 ∨ 65535 < k) : Spec cx.P 11 [.agg (fraC d s k x)] [] fun s _ => s.plain = true ∧ s = .tup [(false, [noC]), (false, [i64 30])] := by
  refine spec_of_X cx_ok Try.func11 rfl (by kernel_rfl) (by kernel_rfl) (Nat.le_of_ble_eq_true rfl) 400 5 ?_
  simp (maxSteps := 4000000) only [Try.results11, XX, Nat.reduceBEq, Nat.reduceLT, Nat.reduceAdd, Nat.reduceMul, Nat.reduceSub, Nat.reduceLeDiff, Nat.reduceEqDiff, Int.reduceToNat, Int.reduceLT, Int.reduceLE, Int.reduceAdd, Int.reduceSub, Int.reduceEq, reduceIte, Nat.reduceBNe, Int.reducePow, Nat.reducePow, Int.reduceMul, Int.reduceNeg, isB_i, isB_b, isB_y, isBv_i, isBv_b, eqCells_t, TT]
  by_cases h1 : k < 1536
  · have d0 : decide (k < 1536) = true := by simpa using h1
    simp (maxSteps := 4000000) only [Try.results11, d0, XX, Nat.reduceBEq, Nat.reduceLT, Nat.reduceAdd, Nat.reduceMul, Nat.reduceSub, Nat.reduceLeDiff, Nat.reduceEqDiff, Int.reduceToNat, Int.reduceLT, Int.reduceLE, Int.reduceAdd, Int.reduceSub, Int.reduceEq, reduceIte, Nat.reduceBNe, Int.reducePow, Nat.reducePow, Int.reduceMul, Int.reduceNeg, isB_i, isB_b, isB_y, isBv_i, isBv_b, eqCells_t, TT]
  · have d0 : decide (k < 1536) = false := by simpa using h1
    have d1 : decide (k > 65535) = true := by simp; omega
    have d2 : decide (65535 < k) = true := by simp; omega
    simp (maxSteps := 4000000) only [Try.results11, d0, d1, d2, XX, Nat.reduceBEq, Nat.reduceLT, Nat.reduceAdd, Nat.reduceMul, Nat.reduceSub, Nat.reduceLeDiff, Nat.reduceEqDiff, Int.reduceToNat, Int.reduceLT, Int.reduceLE, Int.reduceAdd, Int.reduceSub, Int.reduceEq, reduceIte, Nat.reduceBNe, Int.reducePow, Nat.reducePow, Int.reduceMul, Int.reduceNeg, isB_i, isB_b, isB_y, isBv_i, isBv_b, eqCells_t, TT]

theorem fsealL_spec (d s : M6) (k : Int) (l sp : List UInt8) (c : Nat) (hk : 1536 ≤ k) (hk' : k ≤ 65535) (hl : 1500 < l.length) : Spec cx.P 11 [.agg (fraC d s k (roB l sp c))] [] fun s _ => s.plain = true ∧ s = .tup [(false, [noC]), (false, [i64 2])] := by
  have d0 : decide (k < 1536) = false := by simpa using hk
  have d2 : decide (65535 < k) = false := by simp; omega
  have d3 : decide (1500 < (l.length : Int)) = true := by simp; omega
  refine spec_of_X cx_ok Try.func11 rfl (by kernel_rfl) (by kernel_rfl) (Nat.le_of_ble_eq_true rfl) 400 5 ?_
  simp (maxSteps := 4000000) only [Try.results11, XX, Nat.reduceBEq, Nat.reduceLT, Nat.reduceAdd, Nat.reduceMul, Nat.reduceSub, Nat.reduceLeDiff, Nat.reduceEqDiff, Int.reduceToNat, Int.reduceLT, Int.reduceLE, Int.reduceAdd, Int.reduceSub, Int.reduceEq, reduceIte, Nat.reduceBNe, Int.reducePow, Nat.reducePow, Int.reduceMul, Int.reduceNeg, isB_i, isB_b, isB_y, isBv_i, isBv_b, eqCells_t, TT]
  simp (maxSteps := 4000000) only [Try.results11, d0, d2, d3, XX, Nat.reduceBEq, Nat.reduceLT, Nat.reduceAdd, Nat.reduceMul, Nat.reduceSub, Nat.reduceLeDiff, Nat.reduceEqDiff, Int.reduceToNat, Int.reduceLT, Int.reduceLE, Int.reduceAdd, Int.reduceSub, Int.reduceEq, reduceIte, Nat.reduceBNe, Int.reducePow, Nat.reducePow, Int.reduceMul, Int.reduceNeg, isB_i, isB_b, isB_y, isBv_i, isBv_b, eqCells_t, TT]

theorem fseal_spec (d s : M6) (k : Nat) (l sp : List UInt8) (c : Nat) (hk : 1536 ≤ k) (hk' : k ≤ 65535) (hl : l.length ≤ 1500) : Spec cx.P 11 [.agg (fraC d s k (roB l sp c))] [] fun r h' => r = .tup [(false, [.sl 0 0 (sealL d s k l).length (sealL d s k l).length]), (false, [i64 0])] ∧ h' = [wB true (sealL d s k l)] := by
  have d0 : decide ((k : Int) < 1536) = false := by simp; omega
  have d2 : decide (65535 < (k : Int)) = false := by simp; omega
  have d3 : decide (1500 < (l.length : Int)) = false := by simp; omega
  generalize hr : l.length + (46 - l.length) = r
  have hM : (if 60 > IntKind.i64.wrap (14 + (l.length : Int)) then 60 else IntKind.i64.wrap (14 + (l.length : Int))) = ((14 + r : Nat) : Int) := by
    rw [w64 (by omega) (by omega)]
    split <;> omega
  have hz : (List.replicate (14 + r) [SC.v (.int .u8 0)]).flatten = byteC 0 :: byteC 0 :: byteC 0 :: byteC 0 :: byteC 0 :: byteC 0 :: byteC 0 :: byteC 0 :: byteC 0 :: byteC 0 :: byteC 0 :: byteC 0 :: byteC 0 :: byteC 0 :: bsC (List.replicate r 0) := by
    rw [zeros_flat, Nat.add_comm]
    simp only [List.replicate_succ, List.map_cons]
  have key : Spec cx.P 11 [.agg (fraC d s k (roB l sp c))] [] fun r h' => r = .tup [(false, [.sl 1 0 (sealL d s k l).length (sealL d s k l).length]), (false, [i64 0])] ∧ ∃ a b, h' = [a, wB true (sealL d s k l), b] := by
    refine spec_of_X cx_ok Try.func11 rfl (by kernel_rfl) (by kernel_rfl) (Nat.le_of_ble_eq_true rfl) 400 5 ?_
    simp (maxSteps := 4000000) only [Try.results11, XX, Nat.reduceBEq, Nat.reduceLT, Nat.reduceAdd, Nat.reduceMul, Nat.reduceSub, Nat.reduceLeDiff, Nat.reduceEqDiff, Int.reduceToNat, Int.reduceLT, Int.reduceLE, Int.reduceAdd, Int.reduceSub, Int.reduceEq, reduceIte, Nat.reduceBNe, Int.reducePow, Nat.reducePow, Int.reduceMul, Int.reduceNeg, isB_i, isB_b, isB_y, isBv_i, isBv_b, eqCells_t, TT]
    simp (maxSteps := 4000000) only [Try.results11, d0, d2, d3, XX, Nat.reduceBEq, Nat.reduceLT, Nat.reduceAdd, Nat.reduceMul, Nat.reduceSub, Nat.reduceLeDiff, Nat.reduceEqDiff, Int.reduceToNat, Int.reduceLT, Int.reduceLE, Int.reduceAdd, Int.reduceSub, Int.reduceEq, reduceIte, Nat.reduceBNe, Int.reducePow, Nat.reducePow, Int.reduceMul, Int.reduceNeg, isB_i, isB_b, isB_y, isBv_i, isBv_b, eqCells_t, TT]
    have m1 : min 6 (14 + r) = 6 := by omega
    have m2 : 14 + r - 6 = 8 + r := by omega
    have m3 : min 6 (8 + r) = 6 := by omega
    simp (maxSteps := 4000000) only [Try.results11, hM, hz, m1, XX, Nat.reduceBEq, Nat.reduceLT, Nat.reduceAdd, Nat.reduceMul, Nat.reduceSub, Nat.reduceLeDiff, Nat.reduceEqDiff, Int.reduceToNat, Int.reduceLT, Int.reduceLE, Int.reduceAdd, Int.reduceSub, Int.reduceEq, reduceIte, Nat.reduceBNe, Int.reducePow, Nat.reducePow, Int.reduceMul, Int.reduceNeg, isB_i, isB_b, isB_y, isBv_i, isBv_b, eqCells_t, TT]
    refine ⟨by omega, ?_⟩
    refine draw_of cx_ok (by kernel_rfl) 400 [0] [(0, true), (1, true), (2, true), (3, true), (4, false)] (by kernel_rfl) rfl ?_
    simp (maxSteps := 4000000) only [Try.results11, m2, m3, XX, Nat.reduceBEq, Nat.reduceLT, Nat.reduceAdd, Nat.reduceMul, Nat.reduceSub, Nat.reduceLeDiff, Nat.reduceEqDiff, Int.reduceToNat, Int.reduceLT, Int.reduceLE, Int.reduceAdd, Int.reduceSub, Int.reduceEq, reduceIte, Nat.reduceBNe, Int.reducePow, Nat.reducePow, Int.reduceMul, Int.reduceNeg, isB_i, isB_b, isB_y, isBv_i, isBv_b, eqCells_t, TT]
    refine ⟨by omega, ?_⟩
    have m4 : IntKind.u64.wrap (k : Int) = (k : Int) := by rw [wu64] <;> omega
    have m5 : 14 + r - 12 = 2 + r := by omega
    have m6 : min (2 + r) 2 = 2 := by omega
    have m6' : min 2 (2 + r) = 2 := by omega
    refine draw_of cx_ok (by kernel_rfl) 400 [0] [(0, true), (1, true), (2, true), (3, true), (4, true), (5, false), (6, false)] (by kernel_rfl) rfl ?_
    simp (maxSteps := 4000000) only [Try.results11, m4, m5, XX, Nat.reduceBEq, Nat.reduceLT, Nat.reduceAdd, Nat.reduceMul, Nat.reduceSub, Nat.reduceLeDiff, Nat.reduceEqDiff, Int.reduceToNat, Int.reduceLT, Int.reduceLE, Int.reduceAdd, Int.reduceSub, Int.reduceEq, reduceIte, Nat.reduceBNe, Int.reducePow, Nat.reducePow, Int.reduceMul, Int.reduceNeg, isB_i, isB_b, isB_y, isBv_i, isBv_b, eqCells_t, TT]
    refine ⟨by omega, ?_⟩
    refine call_frame (put2_spec k (by omega)) [] rfl rfl trivial rfl rfl ?_
    rintro _ _ ⟨rfl, rfl⟩
    simp (maxSteps := 4000000) only [Try.results11, m6, m6', ids_bsC, ren_bsC, noRo_bsC, plain_bsC, lt_bsC, ids_byte, ren_byte, noRo_byte, plain_byte, lt_byte, XX, Nat.reduceBEq, Nat.reduceLT, Nat.reduceAdd, Nat.reduceMul, Nat.reduceSub, Nat.reduceLeDiff, Nat.reduceEqDiff, Int.reduceToNat, Int.reduceLT, Int.reduceLE, Int.reduceAdd, Int.reduceSub, Int.reduceEq, reduceIte, Nat.reduceBNe, Int.reducePow, Nat.reducePow, Int.reduceMul, Int.reduceNeg, isB_i, isB_b, isB_y, isBv_i, isBv_b, eqCells_t, TT]
    have m7 : 14 + r - 14 = r := by omega
    have m8 : min r l.length = l.length := by omega
    have m8' : min l.length r = l.length := by omega
    have m9 : (bsR (l ++ sp)).take l.length = bsR l := by rw [rs_take, List.take_left' rfl]
    have m10 : ((bsR l).map RC.toSC).take l.length = bsC l := by rw [bsR_toSC, bs_take, List.take_length]
    refine draw_of cx_ok (by kernel_rfl) 400 [0] [(0, true), (1, true), (2, true), (3, true), (4, false)] (by kernel_rfl) rfl ?_
    simp (maxSteps := 4000000) only [Try.results11, m7, m8, m8', m9, m10, XX, Nat.reduceBEq, Nat.reduceLT, Nat.reduceAdd, Nat.reduceMul, Nat.reduceSub, Nat.reduceLeDiff, Nat.reduceEqDiff, Int.reduceToNat, Int.reduceLT, Int.reduceLE, Int.reduceAdd, Int.reduceSub, Int.reduceEq, reduceIte, Nat.reduceBNe, Int.reducePow, Nat.reducePow, Int.reduceMul, Int.reduceNeg, isB_i, isB_b, isB_y, isBv_i, isBv_b, eqCells_t, TT]
    have q : (sealL d s k l).length = 14 + r := by simp; omega
    refine ⟨by omega, ⟨by simp, by simp; omega⟩, by rw [q], ⟨true, 27, fraC d s k (roB l sp c)⟩, ⟨true, 5, bsC (be2 k)⟩, ?_⟩
    rw [bsC_len, Nat.add_comm 14]
    simp only [List.drop_succ_cons]
    rw [bs_drop, bs_app, List.drop_replicate, ← hr, Nat.add_sub_cancel_left]
    rfl
  exact key.wk fun t h' ⟨h1, a, b, h2⟩ => ⟨.tup [(false, [.sl 0 0 (sealL d s k l).length (sealL d s k l).length]), (false, [i64 0])], [wB true (sealL d s k l)], [some 1], rfl, by subst h2; simp only [XX, Nat.reduceBEq, Nat.reduceLT, Nat.reduceAdd, Nat.reduceMul, Nat.reduceSub, Nat.reduceLeDiff, Nat.reduceEqDiff, Int.reduceToNat, Int.reduceLT, Int.reduceLE, Int.reduceAdd, Int.reduceSub, Int.reduceEq, reduceIte, Nat.reduceBNe, Int.reducePow, Nat.reducePow, Int.reduceMul, Int.reduceNeg, isB_i, isB_b, isB_y, isBv_i, isBv_b, eqCells_t, TT, ids_bsC, ren_bsC, noRo_bsC, plain_bsC, lt_bsC, ids_byte, ren_byte, noRo_byte, plain_byte, lt_byte], by subst h1; simp only [XX, Nat.reduceBEq, Nat.reduceLT, Nat.reduceAdd, Nat.reduceMul, Nat.reduceSub, Nat.reduceLeDiff, Nat.reduceEqDiff, Int.reduceToNat, Int.reduceLT, Int.reduceLE, Int.reduceAdd, Int.reduceSub, Int.reduceEq, reduceIte, Nat.reduceBNe, Int.reducePow, Nat.reducePow, Int.reduceMul, Int.reduceNeg, isB_i, isB_b, isB_y, isBv_i, isBv_b, eqCells_t, TT, ids_bsC, ren_bsC, noRo_bsC, plain_bsC, lt_bsC, ids_byte, ren_byte, noRo_byte, plain_byte, lt_byte], rfl, rfl⟩

end Go.Proofs.Ytgadpbfmnhkjfaa.Sx
