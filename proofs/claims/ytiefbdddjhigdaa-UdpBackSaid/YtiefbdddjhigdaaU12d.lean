/- The symbolic executor, at work: datagrams are laid by the program. No condition. -/
import Derived.Test.YtiefbdddjhigdaaU12c
namespace Go.Proofs.Ytiefbdddjhigdaa.Sx
open Go
set_option linter.unusedSimpArgs false
set_option linter.unusedVariables false
set_option maxRecDepth 10000
set_option maxHeartbeats 2000000

theorem uenc_spec (src dst s d : Nat) (hs : s < 65536) (hd : d < 65536) (l sp : List UInt8) (c : Nat) (hsrc : src < 4294967296) (hdst : dst < 4294967296) (h0 : d ≠ 0) (hl : l.length ≤ 1472) : Spec cx.P 10 [.c (i32 src), .c (i32 dst), .agg (udpC s d (roB l sp c))] [] (resB (udpL s d l (usum src dst s d l)) 0) := by
  refine resB_of ?_
  obtain ⟨q1, q2, q3, q4⟩ := nA s d hs hd
  have q5 : decide ((d : Int) = 0) = false := by simp only [decide_eq_false_iff_not]; omega
  have q6 : decide (1472 < (l.length : Int)) = false := by simp only [decide_eq_false_iff_not]; omega
  have e0 : IntKind.i64.wrap (8 + (l.length : Int)) = ((8 + l.length : Nat) : Int) := by rw [w64] <;> omega
  have e1 : IntKind.u64.wrap (s : Int) = (s : Int) := by rw [wu64] <;> omega
  have e2 : IntKind.u64.wrap (d : Int) = (d : Int) := by rw [wu64] <;> omega
  have e3 : IntKind.u64.wrap ((8 + l.length : Nat) : Int) = ((8 + l.length : Nat) : Int) := by rw [wu64] <;> omega
  have hz : (List.replicate (8 + l.length) [SC.v (.int .u8 0)]).flatten = byteC 0 :: byteC 0 :: byteC 0 :: byteC 0 :: byteC 0 :: byteC 0 :: byteC 0 :: byteC 0 :: bsC (List.replicate l.length 0) := by
    rw [zeros_flat, Nat.add_comm]
    simp only [List.replicate_succ, List.map_cons]
  have m1 : min 2 (8 + l.length) = 2 := by omega
  have m2 : 8 + l.length - 2 = 6 + l.length := by omega
  have m3 : min 2 (6 + l.length) = 2 := by omega
  have m4 : 8 + l.length - 4 = 4 + l.length := by omega
  have m5 : min 2 (4 + l.length) = 2 := by omega
  have m6 : 8 + l.length - 8 = l.length := by omega
  have m7 : 8 + l.length - 6 = 2 + l.length := by omega
  have m8 : min 2 (2 + l.length) = 2 := by omega
  have m9 : (bsR (l ++ sp)).take l.length = bsR l := by rw [rs_take, List.take_left' rfl]
  have m10 : ((bsR l).map RC.toSC).take l.length = bsC l := by rw [bsR_toSC, bs_take, List.take_length]
  have m11 : (bsC (List.replicate l.length 0)).drop l.length = [] := List.drop_of_length_le (by simp)
  have m12 : ∀ (a1 a2 a3 a4 a5 a6 a7 a8 : SC) (xs : List SC), (a1 :: a2 :: a3 :: a4 :: a5 :: a6 :: a7 :: a8 :: xs).drop (8 + l.length) = xs.drop l.length := fun _ _ _ _ _ _ _ _ _ => by rw [Nat.add_comm]; rfl
  have nO := udpL_len s d l 0
  have p2 := over_win src dst true (udpL s d l 0) (8 + l.length) (8 + l.length) hsrc hdst (by omega)
  have p3 := fun c => osum_spec [(be4 src, [], 4), (be4 dst, [], 4), ([0, 17], [], 2), (be2 (8 + l.length), [], 2), (udpL s d l 0, [], 8 + l.length)] [] c (by simp) (by simp [bytesOf, nO]; omega)
  have eB : bytesOf [(be4 src, [], 4), (be4 dst, [], 4), ([0, 17], [], 2), (be2 (8 + l.length), [], 2), (udpL s d l 0, [], 8 + l.length)] = overL src dst (udpL s d l 0) := by
    simp only [bytesOf, overL, nO, List.flatMap_cons, List.flatMap_nil, List.append_nil, List.append_assoc]
  have le := isum_le (overL src dst (udpL s d l 0))
  generalize hx : isum (overL src dst (udpL s d l 0)) = x at le
  have hu : usum src dst s d l = if x = 0 then 65535 else x := by unfold usum; rw [hx]
  refine spec_of_X cx_ok Try.func10 rfl (by kernel_rfl) (by kernel_rfl) (Nat.le_of_ble_eq_true rfl) 400 10 ?_
  simp (maxSteps := 4000000) only [Try.results10, XX, Nat.reduceBEq, Nat.reduceLT, Nat.reduceAdd, Nat.reduceMul, Nat.reduceSub, Nat.reduceLeDiff, Nat.reduceEqDiff, Int.reduceToNat, Int.reduceLT, Int.reduceLE, Int.reduceAdd, Int.reduceSub, Int.reduceEq, reduceIte, Nat.reduceBNe, Int.reducePow, Nat.reducePow, Int.reduceMul, Int.reduceNeg, isB_i, isB_b, isB_y, isBv_i, isBv_b, eqCells_t, TT]
  simp (maxSteps := 4000000) only [Try.results10, q1, q2, q3, q4, q5, q6, e0, e1, hz, XX, Nat.reduceBEq, Nat.reduceLT, Nat.reduceAdd, Nat.reduceMul, Nat.reduceSub, Nat.reduceLeDiff, Nat.reduceEqDiff, Int.reduceToNat, Int.reduceLT, Int.reduceLE, Int.reduceAdd, Int.reduceSub, Int.reduceEq, reduceIte, Nat.reduceBNe, Int.reducePow, Nat.reducePow, Int.reduceMul, Int.reduceNeg, isB_i, isB_b, isB_y, isBv_i, isBv_b, eqCells_t, TT]
  refine ⟨by omega, ?_⟩
  refine call_frame (put2_spec s (by omega)) [] rfl rfl trivial rfl rfl ?_
  rintro _ _ ⟨rfl, rfl⟩
  simp (maxSteps := 4000000) only [Try.results10, ids_bsC, ren_bsC, noRo_bsC, plain_bsC, lt_bsC, ids_byte, ren_byte, noRo_byte, plain_byte, lt_byte, XX, Nat.reduceBEq, Nat.reduceLT, Nat.reduceAdd, Nat.reduceMul, Nat.reduceSub, Nat.reduceLeDiff, Nat.reduceEqDiff, Int.reduceToNat, Int.reduceLT, Int.reduceLE, Int.reduceAdd, Int.reduceSub, Int.reduceEq, reduceIte, Nat.reduceBNe, Int.reducePow, Nat.reducePow, Int.reduceMul, Int.reduceNeg, isB_i, isB_b, isB_y, isBv_i, isBv_b, eqCells_t, TT]
  simp (maxSteps := 4000000) only [Try.results10, m1, XX, Nat.reduceBEq, Nat.reduceLT, Nat.reduceAdd, Nat.reduceMul, Nat.reduceSub, Nat.reduceLeDiff, Nat.reduceEqDiff, Int.reduceToNat, Int.reduceLT, Int.reduceLE, Int.reduceAdd, Int.reduceSub, Int.reduceEq, reduceIte, Nat.reduceBNe, Int.reducePow, Nat.reducePow, Int.reduceMul, Int.reduceNeg, isB_i, isB_b, isB_y, isBv_i, isBv_b, eqCells_t, TT]
  refine draw_of cx_ok (by kernel_rfl) 400 [0] [(0, true), (1, true), (2, true), (3, true), (4, true), (5, false), (6, false)] (by kernel_rfl) rfl ?_
  simp (maxSteps := 4000000) only [Try.results10, m2, e2, XX, Nat.reduceBEq, Nat.reduceLT, Nat.reduceAdd, Nat.reduceMul, Nat.reduceSub, Nat.reduceLeDiff, Nat.reduceEqDiff, Int.reduceToNat, Int.reduceLT, Int.reduceLE, Int.reduceAdd, Int.reduceSub, Int.reduceEq, reduceIte, Nat.reduceBNe, Int.reducePow, Nat.reducePow, Int.reduceMul, Int.reduceNeg, isB_i, isB_b, isB_y, isBv_i, isBv_b, eqCells_t, TT]
  refine ⟨by omega, ?_⟩
  refine call_frame (put2_spec d (by omega)) [] rfl rfl trivial rfl rfl ?_
  rintro _ _ ⟨rfl, rfl⟩
  simp (maxSteps := 4000000) only [Try.results10, ids_bsC, ren_bsC, noRo_bsC, plain_bsC, lt_bsC, ids_byte, ren_byte, noRo_byte, plain_byte, lt_byte, XX, Nat.reduceBEq, Nat.reduceLT, Nat.reduceAdd, Nat.reduceMul, Nat.reduceSub, Nat.reduceLeDiff, Nat.reduceEqDiff, Int.reduceToNat, Int.reduceLT, Int.reduceLE, Int.reduceAdd, Int.reduceSub, Int.reduceEq, reduceIte, Nat.reduceBNe, Int.reducePow, Nat.reducePow, Int.reduceMul, Int.reduceNeg, isB_i, isB_b, isB_y, isBv_i, isBv_b, eqCells_t, TT]
  simp (maxSteps := 4000000) only [Try.results10, m3, XX, Nat.reduceBEq, Nat.reduceLT, Nat.reduceAdd, Nat.reduceMul, Nat.reduceSub, Nat.reduceLeDiff, Nat.reduceEqDiff, Int.reduceToNat, Int.reduceLT, Int.reduceLE, Int.reduceAdd, Int.reduceSub, Int.reduceEq, reduceIte, Nat.reduceBNe, Int.reducePow, Nat.reducePow, Int.reduceMul, Int.reduceNeg, isB_i, isB_b, isB_y, isBv_i, isBv_b, eqCells_t, TT]
  refine draw_of cx_ok (by kernel_rfl) 400 [0] [(0, true), (1, true), (2, true), (3, true), (4, true), (5, false), (6, false)] (by kernel_rfl) rfl ?_
  simp (maxSteps := 4000000) only [Try.results10, m4, e3, XX, Nat.reduceBEq, Nat.reduceLT, Nat.reduceAdd, Nat.reduceMul, Nat.reduceSub, Nat.reduceLeDiff, Nat.reduceEqDiff, Int.reduceToNat, Int.reduceLT, Int.reduceLE, Int.reduceAdd, Int.reduceSub, Int.reduceEq, reduceIte, Nat.reduceBNe, Int.reducePow, Nat.reducePow, Int.reduceMul, Int.reduceNeg, isB_i, isB_b, isB_y, isBv_i, isBv_b, eqCells_t, TT]
  refine ⟨by omega, ?_⟩
  refine call_frame (put2_spec (8 + l.length) (by omega)) [] rfl rfl trivial rfl rfl ?_
  rintro _ _ ⟨rfl, rfl⟩
  simp (maxSteps := 4000000) only [Try.results10, ids_bsC, ren_bsC, noRo_bsC, plain_bsC, lt_bsC, ids_byte, ren_byte, noRo_byte, plain_byte, lt_byte, XX, Nat.reduceBEq, Nat.reduceLT, Nat.reduceAdd, Nat.reduceMul, Nat.reduceSub, Nat.reduceLeDiff, Nat.reduceEqDiff, Int.reduceToNat, Int.reduceLT, Int.reduceLE, Int.reduceAdd, Int.reduceSub, Int.reduceEq, reduceIte, Nat.reduceBNe, Int.reducePow, Nat.reducePow, Int.reduceMul, Int.reduceNeg, isB_i, isB_b, isB_y, isBv_i, isBv_b, eqCells_t, TT]
  simp (maxSteps := 4000000) only [Try.results10, m5, XX, Nat.reduceBEq, Nat.reduceLT, Nat.reduceAdd, Nat.reduceMul, Nat.reduceSub, Nat.reduceLeDiff, Nat.reduceEqDiff, Int.reduceToNat, Int.reduceLT, Int.reduceLE, Int.reduceAdd, Int.reduceSub, Int.reduceEq, reduceIte, Nat.reduceBNe, Int.reducePow, Nat.reducePow, Int.reduceMul, Int.reduceNeg, isB_i, isB_b, isB_y, isBv_i, isBv_b, eqCells_t, TT]
  refine draw_of cx_ok (by kernel_rfl) 400 [0] [(0, true), (1, true), (2, true), (3, true), (4, false)] (by kernel_rfl) rfl ?_
  simp (maxSteps := 4000000) only [Try.results10, m6, m9, m10, bsC_len, m12, m11, XX, Nat.reduceBEq, Nat.reduceLT, Nat.reduceAdd, Nat.reduceMul, Nat.reduceSub, Nat.reduceLeDiff, Nat.reduceEqDiff, Int.reduceToNat, Int.reduceLT, Int.reduceLE, Int.reduceAdd, Int.reduceSub, Int.reduceEq, reduceIte, Nat.reduceBNe, Int.reducePow, Nat.reducePow, Int.reduceMul, Int.reduceNeg, isB_i, isB_b, isB_y, isBv_i, isBv_b, eqCells_t, TT]
  refine ⟨⟨by omega, by omega⟩, ⟨by simp, by simp; omega⟩, ?_⟩
  refine call_frame p2 [1] rfl rfl ?_ rfl ?_ ?_
  · refine ⟨⟨?_, fun _ => ⟨rfl, rfl⟩⟩, trivial⟩
    rw [ren_bsC]; rfl
  · simp only [XX, Nat.reduceBEq, Nat.reduceLT, Nat.reduceAdd, Nat.reduceMul, Nat.reduceSub, Nat.reduceLeDiff, Nat.reduceEqDiff, Int.reduceToNat, Int.reduceLT, Int.reduceLE, Int.reduceAdd, Int.reduceSub, Int.reduceEq, reduceIte, Nat.reduceBNe, Int.reducePow, Nat.reducePow, Int.reduceMul, Int.reduceNeg, isB_i, isB_b, isB_y, isBv_i, isBv_b, eqCells_t, TT, ids_bsC, ren_bsC, noRo_bsC, plain_bsC, lt_bsC, ids_byte, ren_byte, noRo_byte, plain_byte, lt_byte]
  rintro _ _ ⟨r, rfl, rfl⟩
  simp (maxSteps := 4000000) only [Try.results10, ids_bsC, ren_bsC, noRo_bsC, plain_bsC, lt_bsC, ids_byte, ren_byte, noRo_byte, plain_byte, lt_byte, ids_nilR, ren_nilR, XX, Nat.reduceBEq, Nat.reduceLT, Nat.reduceAdd, Nat.reduceMul, Nat.reduceSub, Nat.reduceLeDiff, Nat.reduceEqDiff, Int.reduceToNat, Int.reduceLT, Int.reduceLE, Int.reduceAdd, Int.reduceSub, Int.reduceEq, reduceIte, Nat.reduceBNe, Int.reducePow, Nat.reducePow, Int.reduceMul, Int.reduceNeg, isB_i, isB_b, isB_y, isBv_i, isBv_b, eqCells_t, TT]
  have p3 := p3 (5 + r)
  rw [eB, hx] at p3
  refine call_pureF [.c (.ro ([(be4 src, [], 4), (be4 dst, [], 4), ([0, 17], [], 2), (be2 (8 + l.length), [], 2), (udpL s d l 0, [], 8 + l.length)].map partR ++ []) 5 (5 + r))] p3 ⟨fz_rows rfl rfl ⟨fr_win rfl rfl rfl rfl, fr_win rfl rfl rfl rfl, fr_win rfl rfl rfl rfl, fr_win rfl rfl rfl rfl, fr_win rfl rfl (by rw [List.append_nil]; rfl) nO, trivial⟩, trivial⟩ ?_
  rintro _ rfl
  have eF : ∀ a b, SC.v (.int .u8 a) = b → True := fun _ _ _ => trivial
  have eU : bsC (udpL s d l 0) = byteC (UInt8.ofNat (s / 256)) :: byteC (UInt8.ofNat s) :: byteC (UInt8.ofNat (d / 256)) :: byteC (UInt8.ofNat d) :: byteC (UInt8.ofNat ((8 + l.length) / 256)) :: byteC (UInt8.ofNat (8 + l.length)) :: byteC 0 :: byteC 0 :: bsC l := rfl
  have fin : ∀ y, y < 65536 → usum src dst s d l = y → bsC (udpL s d l (usum src dst s d l)) = byteC (UInt8.ofNat (s / 256)) :: byteC (UInt8.ofNat s) :: byteC (UInt8.ofNat (d / 256)) :: byteC (UInt8.ofNat d) :: byteC (UInt8.ofNat ((8 + l.length) / 256)) :: byteC (UInt8.ofNat (8 + l.length)) :: byteC (UInt8.ofNat (y / 256)) :: byteC (UInt8.ofNat y) :: bsC l := fun y _ h => by rw [h]; rfl
  have nR := udpL_len s d l (usum src dst s d l)
  generalize udpL s d l (usum src dst s d l) = R at fin nR ⊢
  rw [eU]
  by_cases h : x = 0
  · have q7 : decide ((x : Int) = 0) = true := by simp only [decide_eq_true_eq]; omega
    rw [if_pos h] at hu
    simp (maxSteps := 4000000) only [Try.results10, q7, XX, Nat.reduceBEq, Nat.reduceLT, Nat.reduceAdd, Nat.reduceMul, Nat.reduceSub, Nat.reduceLeDiff, Nat.reduceEqDiff, Int.reduceToNat, Int.reduceLT, Int.reduceLE, Int.reduceAdd, Int.reduceSub, Int.reduceEq, reduceIte, Nat.reduceBNe, Int.reducePow, Nat.reducePow, Int.reduceMul, Int.reduceNeg, isB_i, isB_b, isB_y, isBv_i, isBv_b, eqCells_t, TT]
    refine draw_of cx_ok (by kernel_rfl) 400 [0] [(0, true), (1, true), (2, true), (3, true), (4, false), (5, false)] (by kernel_rfl) rfl ?_
    simp (maxSteps := 4000000) only [Try.results10, m7, w64, wu64, XX, Nat.reduceBEq, Nat.reduceLT, Nat.reduceAdd, Nat.reduceMul, Nat.reduceSub, Nat.reduceLeDiff, Nat.reduceEqDiff, Int.reduceToNat, Int.reduceLT, Int.reduceLE, Int.reduceAdd, Int.reduceSub, Int.reduceEq, reduceIte, Nat.reduceBNe, Int.reducePow, Nat.reducePow, Int.reduceMul, Int.reduceNeg, isB_i, isB_b, isB_y, isBv_i, isBv_b, eqCells_t, TT]
    refine ⟨by omega, ?_⟩
    refine call_frame (put2_spec 65535 (by omega)) [] rfl rfl trivial rfl rfl ?_
    rintro _ _ ⟨rfl, rfl⟩
    simp (maxSteps := 4000000) only [Try.results10, ids_bsC, ren_bsC, noRo_bsC, plain_bsC, lt_bsC, ids_byte, ren_byte, noRo_byte, plain_byte, lt_byte, XX, Nat.reduceBEq, Nat.reduceLT, Nat.reduceAdd, Nat.reduceMul, Nat.reduceSub, Nat.reduceLeDiff, Nat.reduceEqDiff, Int.reduceToNat, Int.reduceLT, Int.reduceLE, Int.reduceAdd, Int.reduceSub, Int.reduceEq, reduceIte, Nat.reduceBNe, Int.reducePow, Nat.reducePow, Int.reduceMul, Int.reduceNeg, isB_i, isB_b, isB_y, isBv_i, isBv_b, eqCells_t, TT]
    simp (maxSteps := 4000000) only [Try.results10, m8, XX, Nat.reduceBEq, Nat.reduceLT, Nat.reduceAdd, Nat.reduceMul, Nat.reduceSub, Nat.reduceLeDiff, Nat.reduceEqDiff, Int.reduceToNat, Int.reduceLT, Int.reduceLE, Int.reduceAdd, Int.reduceSub, Int.reduceEq, reduceIte, Nat.reduceBNe, Int.reducePow, Nat.reducePow, Int.reduceMul, Int.reduceNeg, isB_i, isB_b, isB_y, isBv_i, isBv_b, eqCells_t, TT]
    exact ⟨1, [], true, by simp only [slB, nR, List.length_nil, Nat.add_zero], ⟨by rw [List.append_nil]; exact congrArg (fun z => some (⟨true, 5, z⟩ : SB)) (fin 65535 (by omega) hu).symm, fun _ => rfl⟩⟩
  · have q7 : decide ((x : Int) = 0) = false := by simp only [decide_eq_false_iff_not]; omega
    have e4 : IntKind.u64.wrap (x : Int) = (x : Int) := by rw [wu64] <;> omega
    rw [if_neg h] at hu
    simp (maxSteps := 4000000) only [Try.results10, q7, XX, Nat.reduceBEq, Nat.reduceLT, Nat.reduceAdd, Nat.reduceMul, Nat.reduceSub, Nat.reduceLeDiff, Nat.reduceEqDiff, Int.reduceToNat, Int.reduceLT, Int.reduceLE, Int.reduceAdd, Int.reduceSub, Int.reduceEq, reduceIte, Nat.reduceBNe, Int.reducePow, Nat.reducePow, Int.reduceMul, Int.reduceNeg, isB_i, isB_b, isB_y, isBv_i, isBv_b, eqCells_t, TT]
    refine draw_of cx_ok (by kernel_rfl) 400 [0] [(0, true), (1, true), (2, true), (3, true), (4, false), (5, false)] (by kernel_rfl) rfl ?_
    simp (maxSteps := 4000000) only [Try.results10, m7, e4, XX, Nat.reduceBEq, Nat.reduceLT, Nat.reduceAdd, Nat.reduceMul, Nat.reduceSub, Nat.reduceLeDiff, Nat.reduceEqDiff, Int.reduceToNat, Int.reduceLT, Int.reduceLE, Int.reduceAdd, Int.reduceSub, Int.reduceEq, reduceIte, Nat.reduceBNe, Int.reducePow, Nat.reducePow, Int.reduceMul, Int.reduceNeg, isB_i, isB_b, isB_y, isBv_i, isBv_b, eqCells_t, TT]
    refine ⟨by omega, ?_⟩
    refine call_frame (put2_spec x (by omega)) [] rfl rfl trivial rfl rfl ?_
    rintro _ _ ⟨rfl, rfl⟩
    simp (maxSteps := 4000000) only [Try.results10, ids_bsC, ren_bsC, noRo_bsC, plain_bsC, lt_bsC, ids_byte, ren_byte, noRo_byte, plain_byte, lt_byte, XX, Nat.reduceBEq, Nat.reduceLT, Nat.reduceAdd, Nat.reduceMul, Nat.reduceSub, Nat.reduceLeDiff, Nat.reduceEqDiff, Int.reduceToNat, Int.reduceLT, Int.reduceLE, Int.reduceAdd, Int.reduceSub, Int.reduceEq, reduceIte, Nat.reduceBNe, Int.reducePow, Nat.reducePow, Int.reduceMul, Int.reduceNeg, isB_i, isB_b, isB_y, isBv_i, isBv_b, eqCells_t, TT]
    simp (maxSteps := 4000000) only [Try.results10, m8, XX, Nat.reduceBEq, Nat.reduceLT, Nat.reduceAdd, Nat.reduceMul, Nat.reduceSub, Nat.reduceLeDiff, Nat.reduceEqDiff, Int.reduceToNat, Int.reduceLT, Int.reduceLE, Int.reduceAdd, Int.reduceSub, Int.reduceEq, reduceIte, Nat.reduceBNe, Int.reducePow, Nat.reducePow, Int.reduceMul, Int.reduceNeg, isB_i, isB_b, isB_y, isBv_i, isBv_b, eqCells_t, TT]
    exact ⟨1, [], true, by simp only [slB, nR, List.length_nil, Nat.add_zero], ⟨by rw [List.append_nil]; exact congrArg (fun z => some (⟨true, 5, z⟩ : SB)) (fin x (by omega) hu).symm, fun _ => rfl⟩⟩

theorem uencAll_spec (src dst : Nat) (s d : Int) (l sp : List UInt8) (c : Nat) (hsrc : src < 4294967296) (hdst : dst < 4294967296) : Spec cx.P 10 [.c (i32 src), .c (i32 dst), .agg (udpC s d (roB l sp c))] [] (resB (uencR src dst s d l).1 (uencR src dst s d l).2) := by
  unfold uencR
  by_cases h : s < 0 ∨ 65535 < s ∨ d < 0 ∨ 65535 < d
  · rw [if_pos h]; exact resB_nil (uencA_spec src dst s d _ h)
  rw [if_neg h]
  obtain ⟨a, rfl⟩ : ∃ a : Nat, s = a := ⟨s.toNat, by omega⟩
  obtain ⟨b, rfl⟩ : ∃ b : Nat, d = b := ⟨d.toNat, by omega⟩
  by_cases h0 : (b : Int) = 0
  · rw [if_pos h0]; exact resB_nil (uencZ_spec src dst a b (by omega) (by omega) _ (by omega))
  rw [if_neg h0]
  by_cases hl : 1472 < l.length
  · rw [if_pos hl]; exact resB_nil (uencL_spec src dst a b (by omega) (by omega) l sp c (by omega) hl)
  rw [if_neg hl]
  exact uenc_spec src dst a b (by omega) (by omega) l sp c hsrc hdst (by omega) (by omega)

theorem ruencAll_spec (src dst : Nat) (s d : Int) (l sp : List UInt8) (c : Nat) (hsrc : src < 4294967296) (hdst : dst < 4294967296) : Spec cx.P 8 [.c (i32 src), .c (i32 dst), .agg (udpC s d (roB l sp c))] [] (resB (uencR src dst s d l).1 (uencR src dst s d l).2) := by
  unfold uencR
  by_cases h : s < 0 ∨ 65535 < s ∨ d < 0 ∨ 65535 < d
  · rw [if_pos h]; exact resB_nil (ruencA_spec src dst s d _ h)
  rw [if_neg h]
  obtain ⟨a, rfl⟩ : ∃ a : Nat, s = a := ⟨s.toNat, by omega⟩
  obtain ⟨b, rfl⟩ : ∃ b : Nat, d = b := ⟨d.toNat, by omega⟩
  by_cases h0 : (b : Int) = 0
  · rw [if_pos h0]; exact resB_nil (ruencZ_spec src dst a b (by omega) (by omega) _ (by omega))
  rw [if_neg h0]
  by_cases hl : 1472 < l.length
  · rw [if_pos hl]; exact resB_nil (ruencL_spec src dst a b (by omega) (by omega) l sp c (by omega) hl)
  rw [if_neg hl]
  exact ruenc_spec src dst a b (by omega) (by omega) l sp c hsrc hdst (by omega) (by omega)

theorem uencR_len (src dst : Nat) (s d : Int) (l : List UInt8) : (uencR src dst s d l).1.length ≤ 1600 := by
  unfold uencR
  split
  · simp
  · split
    · simp
    · split
      · simp
      · rw [udpL_len]; omega

end Go.Proofs.Ytiefbdddjhigdaa.Sx
