/- The symbolic executor, at work: datagrams, the reference's. No condition. -/
import Derived.Test.YtiefbdddjhigdaaSm
import Derived.Test.YtiefbdddjhigdaaPt
namespace Go.Proofs.Ytiefbdddjhigdaa.Sx
open Go
set_option linter.unusedSimpArgs false
set_option linter.unusedVariables false
set_option maxRecDepth 10000
set_option maxHeartbeats 1000000

/-- What the sum goes over. -/
def overL (src dst : Nat) (l : List UInt8) : List UInt8 := be4 src ++ be4 dst ++ [0, 17] ++ be2 l.length ++ l
theorem overL_len (src dst : Nat) (l : List UInt8) : (overL src dst l).length = 12 + l.length := by simp [overL]; omega

theorem rusum_spec (src dst : Nat) (l sp : List UInt8) (c : Nat) (hs : src < 4294967296) (hd : dst < 4294967296) (hl : l.length ≤ 70368744177664) : Spec cx.P 18 [.c (i32 src), .c (i32 dst), .c (roB l sp c)] [] fun s _ => s.plain = true ∧ s = .c (u16 (isum (overL src dst l))) := by
  have eO : overL src dst l = be4 src ++ be4 dst ++ [0, 17] ++ be2 l.length ++ l := rfl
  have nO := overL_len src dst l
  have p1 := rput4_spec src (by omega)
  have p2 := rput4_spec dst (by omega)
  have p3 := rput2_spec l.length (by omega)
  have l1 : (be4 src).length = 4 := rfl
  have l2 : (be4 dst).length = 4 := rfl
  have l3 : (be2 l.length).length = 2 := rfl
  generalize be4 src = A at p1 l1 eO
  generalize be4 dst = B at p2 l2 eO
  generalize be2 l.length = C at p3 l3 eO
  generalize overL src dst l = O at eO nO ⊢
  have e1 : IntKind.u64.wrap (src : Int) = (src : Int) := by rw [wu64] <;> omega
  have e2 : IntKind.u64.wrap (dst : Int) = (dst : Int) := by rw [wu64] <;> omega
  have e3 : IntKind.u64.wrap (l.length : Int) = (l.length : Int) := by rw [wu64] <;> omega
  refine spec_of_X cx_ok Try.func18 rfl (by kernel_rfl) (by kernel_rfl) (Nat.le_of_ble_eq_true rfl) 400 11 ?_
  simp (maxSteps := 4000000) only [Try.results18, XX, Nat.reduceBEq, Nat.reduceLT, Nat.reduceAdd, Nat.reduceMul, Nat.reduceSub, Nat.reduceLeDiff, Nat.reduceEqDiff, Int.reduceToNat, Int.reduceLT, Int.reduceLE, Int.reduceAdd, Int.reduceSub, Int.reduceEq, reduceIte, Nat.reduceBNe, Int.reducePow, Nat.reducePow, Int.reduceMul, Int.reduceNeg, isB_i, isB_b, isB_y, isBv_i, isBv_b, eqCells_t, TT]
  simp (maxSteps := 4000000) only [Try.results18, e1, XX, Nat.reduceBEq, Nat.reduceLT, Nat.reduceAdd, Nat.reduceMul, Nat.reduceSub, Nat.reduceLeDiff, Nat.reduceEqDiff, Int.reduceToNat, Int.reduceLT, Int.reduceLE, Int.reduceAdd, Int.reduceSub, Int.reduceEq, reduceIte, Nat.reduceBNe, Int.reducePow, Nat.reducePow, Int.reduceMul, Int.reduceNeg, isB_i, isB_b, isB_y, isBv_i, isBv_b, eqCells_t, TT]
  refine call_frame (p1) [] rfl rfl trivial rfl rfl ?_
  rintro _ _ ⟨rfl, rfl⟩
  simp (maxSteps := 4000000) only [Try.results18, ids_bsC, ren_bsC, noRo_bsC, plain_bsC, lt_bsC, ids_byte, ren_byte, noRo_byte, plain_byte, lt_byte, XX, Nat.reduceBEq, Nat.reduceLT, Nat.reduceAdd, Nat.reduceMul, Nat.reduceSub, Nat.reduceLeDiff, Nat.reduceEqDiff, Int.reduceToNat, Int.reduceLT, Int.reduceLE, Int.reduceAdd, Int.reduceSub, Int.reduceEq, reduceIte, Nat.reduceBNe, Int.reducePow, Nat.reducePow, Int.reduceMul, Int.reduceNeg, isB_i, isB_b, isB_y, isBv_i, isBv_b, eqCells_t, TT]
  simp (maxSteps := 4000000) only [Try.results18, e2, XX, Nat.reduceBEq, Nat.reduceLT, Nat.reduceAdd, Nat.reduceMul, Nat.reduceSub, Nat.reduceLeDiff, Nat.reduceEqDiff, Int.reduceToNat, Int.reduceLT, Int.reduceLE, Int.reduceAdd, Int.reduceSub, Int.reduceEq, reduceIte, Nat.reduceBNe, Int.reducePow, Nat.reducePow, Int.reduceMul, Int.reduceNeg, isB_i, isB_b, isB_y, isBv_i, isBv_b, eqCells_t, TT]
  refine call_frame (p2) [] rfl rfl trivial rfl rfl ?_
  rintro _ _ ⟨rfl, rfl⟩
  simp (maxSteps := 4000000) only [Try.results18, ids_bsC, ren_bsC, noRo_bsC, plain_bsC, lt_bsC, ids_byte, ren_byte, noRo_byte, plain_byte, lt_byte, XX, Nat.reduceBEq, Nat.reduceLT, Nat.reduceAdd, Nat.reduceMul, Nat.reduceSub, Nat.reduceLeDiff, Nat.reduceEqDiff, Int.reduceToNat, Int.reduceLT, Int.reduceLE, Int.reduceAdd, Int.reduceSub, Int.reduceEq, reduceIte, Nat.reduceBNe, Int.reducePow, Nat.reducePow, Int.reduceMul, Int.reduceNeg, isB_i, isB_b, isB_y, isBv_i, isBv_b, eqCells_t, TT]
  simp (maxSteps := 4000000) only [Try.results18, e3, XX, Nat.reduceBEq, Nat.reduceLT, Nat.reduceAdd, Nat.reduceMul, Nat.reduceSub, Nat.reduceLeDiff, Nat.reduceEqDiff, Int.reduceToNat, Int.reduceLT, Int.reduceLE, Int.reduceAdd, Int.reduceSub, Int.reduceEq, reduceIte, Nat.reduceBNe, Int.reducePow, Nat.reducePow, Int.reduceMul, Int.reduceNeg, isB_i, isB_b, isB_y, isBv_i, isBv_b, eqCells_t, TT]
  have t1 : (bsC A).take 4 = bsC A := List.take_of_length_le (by simp; omega)
  have t2 : (bsC B).take 4 = bsC B := List.take_of_length_le (by simp; omega)
  have t3 : (bsC C).take 2 = bsC C := List.take_of_length_le (by simp; omega)
  have m1 : (bsC A).length = 4 := by simp [l1]
  have m2 : (bsC B).length = 4 := by simp [l2]
  have m3 : (bsC C).length = 2 := by simp [l3]
  refine call_frame (p3) [] rfl rfl trivial rfl rfl ?_
  rintro _ _ ⟨rfl, rfl⟩
  simp (maxSteps := 4000000) only [Try.results18, ids_bsC, ren_bsC, noRo_bsC, plain_bsC, lt_bsC, ids_byte, ren_byte, noRo_byte, plain_byte, lt_byte, XX, Nat.reduceBEq, Nat.reduceLT, Nat.reduceAdd, Nat.reduceMul, Nat.reduceSub, Nat.reduceLeDiff, Nat.reduceEqDiff, Int.reduceToNat, Int.reduceLT, Int.reduceLE, Int.reduceAdd, Int.reduceSub, Int.reduceEq, reduceIte, Nat.reduceBNe, Int.reducePow, Nat.reducePow, Int.reduceMul, Int.reduceNeg, isB_i, isB_b, isB_y, isBv_i, isBv_b, eqCells_t, TT]
  simp (maxSteps := 4000000) only [Try.results18, t1, rep_flat, XX, Nat.reduceBEq, Nat.reduceLT, Nat.reduceAdd, Nat.reduceMul, Nat.reduceSub, Nat.reduceLeDiff, Nat.reduceEqDiff, Int.reduceToNat, Int.reduceLT, Int.reduceLE, Int.reduceAdd, Int.reduceSub, Int.reduceEq, reduceIte, Nat.reduceBNe, Int.reducePow, Nat.reducePow, Int.reduceMul, Int.reduceNeg, isB_i, isB_b, isB_y, isBv_i, isBv_b, eqCells_t, TT]
  refine ⟨⟨by unfold maxLen; omega, by omega⟩, ?_⟩
  refine xapp_first (H := [wB true A, wB true B, wB true C]) (t := []) l1 (by omega) rfl fun H w z b1 g1 g2 g3 => ?_
  have w1 : H[1]? = some (wB true B) := g2 1 (by simp)
  have w2 : H[2]? = some (wB true C) := g2 2 (by simp)
  have n1 : w ≠ 1 := by rintro rfl; simp at g3
  have n2 : w ≠ 2 := by rintro rfl; simp at g3
  clear g1 g2 g3
  simp only [slB, l1]
  simp (maxSteps := 4000000) only [Try.results18, b1.at_, lt_of b1.at_, w1, w2, lt_of w1, lt_of w2, t2, m2, List.append_assoc, List.getElem?_append_left, List.getElem?_append_right, List.length_append, List.length_set, List.set_append_left, gset, List.getElem?_set_ne, Nat.add_sub_cancel_left, Nat.sub_self, Nat.le_refl, Nat.le_add_right, List.replicate_one, List.flatten_cons, List.flatten_nil, rep_flat, XX, Nat.reduceBEq, Nat.reduceLT, Nat.reduceAdd, Nat.reduceMul, Nat.reduceSub, Nat.reduceLeDiff, Nat.reduceEqDiff, Int.reduceToNat, Int.reduceLT, Int.reduceLE, Int.reduceAdd, Int.reduceSub, Int.reduceEq, reduceIte, Nat.reduceBNe, Int.reducePow, Nat.reducePow, Int.reduceMul, Int.reduceNeg, isB_i, isB_b, isB_y, isBv_i, isBv_b, eqCells_t, TT]
  refine ⟨⟨by unfold maxLen; omega, by simp; omega, fun h => by simp; omega⟩, ?_⟩
  have l12 : (A ++ B).length = 8 := by simp; omega
  refine xapp_more0 b1 l1 l2 rfl rfl (by omega) fun H' w' z' b2 g1 g2 g3 => ?_
  have w2' : H'[2]? = some (wB true C) := (g2 2 (lt_of w2) n2.symm).trans w2
  have n2' : w' ≠ 2 := by have := lt_of w2; omega
  clear g1 g2 g3 w1 w2 b1
  generalize A ++ B = AB at b2 l12 eO
  simp only [slB, l12]
  have b0 : SC.v (.int .u8 0) = byteC 0 := rfl
  have b17 : SC.v (.int .u8 17) = byteC 17 := rfl
  simp (maxSteps := 4000000) only [Try.results18, b2.at_, lt_of b2.at_, w2', lt_of w2', b0, b17, List.replicate_succ, List.replicate_zero, List.append_assoc, List.getElem?_append_left, List.getElem?_append_right, List.length_append, List.length_set, List.set_append_left, gset, List.getElem?_set_ne, Nat.add_sub_cancel_left, Nat.sub_self, Nat.le_refl, Nat.le_add_right, List.replicate_one, List.flatten_cons, List.flatten_nil, rep_flat, XX, Nat.reduceBEq, Nat.reduceLT, Nat.reduceAdd, Nat.reduceMul, Nat.reduceSub, Nat.reduceLeDiff, Nat.reduceEqDiff, Int.reduceToNat, Int.reduceLT, Int.reduceLE, Int.reduceAdd, Int.reduceSub, Int.reduceEq, reduceIte, Nat.reduceBNe, Int.reducePow, Nat.reducePow, Int.reduceMul, Int.reduceNeg, isB_i, isB_b, isB_y, isBv_i, isBv_b, eqCells_t, TT]
  refine ⟨⟨by unfold maxLen; omega, by simp; omega, fun h => by simp; omega⟩, ?_⟩
  have l3' : (AB ++ [0, 17]).length = 10 := by simp; omega
  refine xapp_more (news := [0, 17]) b2 l12 rfl rfl rfl (by omega) fun H w z b1 g1 g2 g3 => ?_
  have w2 : H[2]? = some (wB true C) := (g2 2 (lt_of w2') n2'.symm).trans w2'
  have n2 : w ≠ 2 := by have := lt_of w2'; omega
  clear g1 g2 g3 w2' b2
  generalize AB ++ [0, 17] = AZ at b1 l3' eO
  simp only [slB, l3']
  simp (maxSteps := 4000000) only [Try.results18, b1.at_, lt_of b1.at_, w2, lt_of w2, t3, m3, List.append_assoc, List.getElem?_append_left, List.getElem?_append_right, List.length_append, List.length_set, List.set_append_left, gset, List.getElem?_set_ne, Nat.add_sub_cancel_left, Nat.sub_self, Nat.le_refl, Nat.le_add_right, List.replicate_one, List.flatten_cons, List.flatten_nil, rep_flat, XX, Nat.reduceBEq, Nat.reduceLT, Nat.reduceAdd, Nat.reduceMul, Nat.reduceSub, Nat.reduceLeDiff, Nat.reduceEqDiff, Int.reduceToNat, Int.reduceLT, Int.reduceLE, Int.reduceAdd, Int.reduceSub, Int.reduceEq, reduceIte, Nat.reduceBNe, Int.reducePow, Nat.reducePow, Int.reduceMul, Int.reduceNeg, isB_i, isB_b, isB_y, isBv_i, isBv_b, eqCells_t, TT]
  refine ⟨⟨by unfold maxLen; omega, by simp; omega, fun h => by simp; omega⟩, ?_⟩
  have l4 : (AZ ++ C).length = 12 := by simp; omega
  refine xapp_more0 b1 l3' l3 rfl rfl (by omega) fun H' w' z' b2 g1 g2 g3 => ?_
  clear g1 g2 g3 w2 b1
  generalize AZ ++ C = AC at b2 l4 eO
  simp only [slB, l4]
  have m9 : (bsR (l ++ sp)).take l.length = bsR l := by rw [rs_take, List.take_left' rfl]
  have m10 : (bsR l).map RC.toSC = bsC l := bsR_toSC l
  simp (maxSteps := 4000000) only [Try.results18, b2.at_, lt_of b2.at_, m9, m10, bsC_len, List.append_assoc, List.getElem?_append_left, List.getElem?_append_right, List.length_append, List.length_set, List.set_append_left, gset, List.getElem?_set_ne, Nat.add_sub_cancel_left, Nat.sub_self, Nat.le_refl, Nat.le_add_right, List.replicate_one, List.flatten_cons, List.flatten_nil, rep_flat, XX, Nat.reduceBEq, Nat.reduceLT, Nat.reduceAdd, Nat.reduceMul, Nat.reduceSub, Nat.reduceLeDiff, Nat.reduceEqDiff, Int.reduceToNat, Int.reduceLT, Int.reduceLE, Int.reduceAdd, Int.reduceSub, Int.reduceEq, reduceIte, Nat.reduceBNe, Int.reducePow, Nat.reducePow, Int.reduceMul, Int.reduceNeg, isB_i, isB_b, isB_y, isBv_i, isBv_b, eqCells_t, TT]
  refine ⟨⟨⟨by omega, by unfold maxLen; omega, by omega, fun h => by omega⟩, by simp⟩, ?_⟩
  have l5 : (AC ++ l).length = 12 + l.length := by simp; omega
  refine xapp_more0 b2 l4 rfl rfl rfl (by omega) fun H w z b1 g1 g2 g3 => ?_
  rw [← eO] at b1 l5 ⊢
  simp (maxSteps := 4000000) only [Try.results18, XX, Nat.reduceBEq, Nat.reduceLT, Nat.reduceAdd, Nat.reduceMul, Nat.reduceSub, Nat.reduceLeDiff, Nat.reduceEqDiff, Int.reduceToNat, Int.reduceLT, Int.reduceLE, Int.reduceAdd, Int.reduceSub, Int.reduceEq, reduceIte, Nat.reduceBNe, Int.reducePow, Nat.reducePow, Int.reduceMul, Int.reduceNeg, isB_i, isB_b, isB_y, isBv_i, isBv_b, eqCells_t, TT]
  refine call_pureF [.c (roB O z (O.length + z.length))] (rsumOf_spec O z _ (by omega)) ⟨fz_c (fz_sl b1.at_ rfl rfl), trivial⟩ ?_
  rintro _ rfl
  simp (maxSteps := 4000000) only [Try.results18, XX, Nat.reduceBEq, Nat.reduceLT, Nat.reduceAdd, Nat.reduceMul, Nat.reduceSub, Nat.reduceLeDiff, Nat.reduceEqDiff, Int.reduceToNat, Int.reduceLT, Int.reduceLE, Int.reduceAdd, Int.reduceSub, Int.reduceEq, reduceIte, Nat.reduceBNe, Int.reducePow, Nat.reducePow, Int.reduceMul, Int.reduceNeg, isB_i, isB_b, isB_y, isBv_i, isBv_b, eqCells_t, TT]

/-- A datagram's bytes. -/
def udpL (s d : Nat) (l : List UInt8) (sum : Nat) : List UInt8 := be2 s ++ be2 d ++ be2 (8 + l.length) ++ be2 sum ++ l
theorem udpL_len (s d : Nat) (l : List UInt8) (sum : Nat) : (udpL s d l sum).length = 8 + l.length := by simp [udpL]; omega
abbrev udpC (s d : Int) (x : SC) : List SC := [i64 s, i64 d, x]

theorem rlaid_spec (s d : Nat) (l sp : List UInt8) (c sum : Nat) (hs : s < 65536) (hd : d < 65536) (hsum : sum < 65536) (hl : l.length ≤ 1472) :
    Spec cx.P 17 [.agg (udpC s d (roB l sp c)), .c (i64 sum)] [] fun t h' => ∃ z o, t = .c (slB 0 (udpL s d l sum) z) ∧ h' = [wB o (udpL s d l sum ++ z)] ∧ o = true := by
  have key : Spec cx.P 17 [.agg (udpC s d (roB l sp c)), .c (i64 sum)] [] fun t h' => ∃ w z, t = .c (slB w (udpL s d l sum) z) ∧ Buf h' w true (udpL s d l sum) z := by
    have eO : udpL s d l sum = be2 s ++ be2 d ++ be2 (8 + l.length) ++ be2 sum ++ l := rfl
    have nO := udpL_len s d l sum
    have p1 := rput2_spec s (by omega)
    have p2 := rput2_spec d (by omega)
    have p3 := rput2_spec (8 + l.length) (by omega)
    have p4 := rput2_spec sum (by omega)
    have l1 : (be2 s).length = 2 := rfl
    have l2 : (be2 d).length = 2 := rfl
    have l3 : (be2 (8 + l.length)).length = 2 := rfl
    have l4 : (be2 sum).length = 2 := rfl
    generalize be2 s = A at p1 l1 eO
    generalize be2 d = B at p2 l2 eO
    generalize be2 (8 + l.length) = C at p3 l3 eO
    generalize be2 sum = D at p4 l4 eO
    generalize udpL s d l sum = O at eO nO ⊢
    have e0 : IntKind.i64.wrap (8 + (l.length : Int)) = ((8 + l.length : Nat) : Int) := by rw [w64] <;> omega
    have e1 : IntKind.u64.wrap (s : Int) = (s : Int) := by rw [wu64] <;> omega
    have e2 : IntKind.u64.wrap (d : Int) = (d : Int) := by rw [wu64] <;> omega
    have e3 : IntKind.u64.wrap ((8 + l.length : Nat) : Int) = ((8 + l.length : Nat) : Int) := by rw [wu64] <;> omega
    have e4 : IntKind.u64.wrap (sum : Int) = (sum : Int) := by rw [wu64] <;> omega
    have t1 : (bsC A).take 2 = bsC A := List.take_of_length_le (by simp; omega)
    have t2 : (bsC B).take 2 = bsC B := List.take_of_length_le (by simp; omega)
    have t3 : (bsC C).take 2 = bsC C := List.take_of_length_le (by simp; omega)
    have t4 : (bsC D).take 2 = bsC D := List.take_of_length_le (by simp; omega)
    have m1 : (bsC A).length = 2 := by simp [l1]
    have m2 : (bsC B).length = 2 := by simp [l2]
    have m3 : (bsC C).length = 2 := by simp [l3]
    have m4 : (bsC D).length = 2 := by simp [l4]
    refine spec_of_X cx_ok Try.func17 rfl (by kernel_rfl) (by kernel_rfl) (Nat.le_of_ble_eq_true rfl) 400 9 ?_
    simp (maxSteps := 4000000) only [Try.results17, XX, Nat.reduceBEq, Nat.reduceLT, Nat.reduceAdd, Nat.reduceMul, Nat.reduceSub, Nat.reduceLeDiff, Nat.reduceEqDiff, Int.reduceToNat, Int.reduceLT, Int.reduceLE, Int.reduceAdd, Int.reduceSub, Int.reduceEq, reduceIte, Nat.reduceBNe, Int.reducePow, Nat.reducePow, Int.reduceMul, Int.reduceNeg, isB_i, isB_b, isB_y, isBv_i, isBv_b, eqCells_t, TT]
    simp (maxSteps := 4000000) only [Try.results17, e0, List.replicate_succ, List.replicate_zero, List.flatten_cons, List.flatten_nil, XX, Nat.reduceBEq, Nat.reduceLT, Nat.reduceAdd, Nat.reduceMul, Nat.reduceSub, Nat.reduceLeDiff, Nat.reduceEqDiff, Int.reduceToNat, Int.reduceLT, Int.reduceLE, Int.reduceAdd, Int.reduceSub, Int.reduceEq, reduceIte, Nat.reduceBNe, Int.reducePow, Nat.reducePow, Int.reduceMul, Int.reduceNeg, isB_i, isB_b, isB_y, isBv_i, isBv_b, eqCells_t, TT]
    refine loop_rounds cx_ok 400 5 ?_
    simp (maxSteps := 4000000) only [Try.results17, e1, XX, Nat.reduceBEq, Nat.reduceLT, Nat.reduceAdd, Nat.reduceMul, Nat.reduceSub, Nat.reduceLeDiff, Nat.reduceEqDiff, Int.reduceToNat, Int.reduceLT, Int.reduceLE, Int.reduceAdd, Int.reduceSub, Int.reduceEq, reduceIte, Nat.reduceBNe, Int.reducePow, Nat.reducePow, Int.reduceMul, Int.reduceNeg, isB_i, isB_b, isB_y, isBv_i, isBv_b, eqCells_t, TT]
    refine call_frame (p1) [] rfl rfl trivial rfl rfl ?_
    rintro _ _ ⟨rfl, rfl⟩
    simp (maxSteps := 4000000) only [Try.results17, ids_bsC, ren_bsC, noRo_bsC, plain_bsC, lt_bsC, ids_byte, ren_byte, noRo_byte, plain_byte, lt_byte, XX, Nat.reduceBEq, Nat.reduceLT, Nat.reduceAdd, Nat.reduceMul, Nat.reduceSub, Nat.reduceLeDiff, Nat.reduceEqDiff, Int.reduceToNat, Int.reduceLT, Int.reduceLE, Int.reduceAdd, Int.reduceSub, Int.reduceEq, reduceIte, Nat.reduceBNe, Int.reducePow, Nat.reducePow, Int.reduceMul, Int.reduceNeg, isB_i, isB_b, isB_y, isBv_i, isBv_b, eqCells_t, TT]
    simp (maxSteps := 4000000) only [Try.results17, t1, rep_flat, XX, Nat.reduceBEq, Nat.reduceLT, Nat.reduceAdd, Nat.reduceMul, Nat.reduceSub, Nat.reduceLeDiff, Nat.reduceEqDiff, Int.reduceToNat, Int.reduceLT, Int.reduceLE, Int.reduceAdd, Int.reduceSub, Int.reduceEq, reduceIte, Nat.reduceBNe, Int.reducePow, Nat.reducePow, Int.reduceMul, Int.reduceNeg, isB_i, isB_b, isB_y, isBv_i, isBv_b, eqCells_t, TT]
    refine ⟨⟨by unfold maxLen; omega, by omega⟩, ?_⟩
    refine xapp_first (H := [⟨true, 26, udpC s d (roB l sp c)⟩, ⟨true, 3, [i64 s, i64 d, i64 (8 + l.length : Nat), i64 sum]⟩, wB true A]) (t := []) l1 (by omega) rfl fun H w z b1 g1 g2 g3 => ?_
    have w0 : H[0]? = some ⟨true, 26, udpC s d (roB l sp c)⟩ := g2 0 (by simp)
    have w1 : H[1]? = some ⟨true, 3, [i64 s, i64 d, i64 (8 + l.length : Nat), i64 sum]⟩ := g2 1 (by simp)
    have n0 : w ≠ 0 := by rintro rfl; simp at g3
    have n1 : w ≠ 1 := by rintro rfl; simp at g3
    clear g1 g2 g3
    simp only [slB, l1]
    have q : A.length = 2 := l1
    simp (maxSteps := 4000000) only [Try.results17, w1, e2, w64, XX, Nat.reduceBEq, Nat.reduceLT, Nat.reduceAdd, Nat.reduceMul, Nat.reduceSub, Nat.reduceLeDiff, Nat.reduceEqDiff, Int.reduceToNat, Int.reduceLT, Int.reduceLE, Int.reduceAdd, Int.reduceSub, Int.reduceEq, reduceIte, Nat.reduceBNe, Int.reducePow, Nat.reducePow, Int.reduceMul, Int.reduceNeg, isB_i, isB_b, isB_y, isBv_i, isBv_b, eqCells_t, TT]
    refine call_frame (p2) [] rfl rfl trivial rfl rfl ?_
    rintro _ _ ⟨rfl, rfl⟩
    simp (maxSteps := 4000000) only [Try.results17, ids_bsC, ren_bsC, noRo_bsC, plain_bsC, lt_bsC, ids_byte, ren_byte, noRo_byte, plain_byte, lt_byte, XX, Nat.reduceBEq, Nat.reduceLT, Nat.reduceAdd, Nat.reduceMul, Nat.reduceSub, Nat.reduceLeDiff, Nat.reduceEqDiff, Int.reduceToNat, Int.reduceLT, Int.reduceLE, Int.reduceAdd, Int.reduceSub, Int.reduceEq, reduceIte, Nat.reduceBNe, Int.reducePow, Nat.reducePow, Int.reduceMul, Int.reduceNeg, isB_i, isB_b, isB_y, isBv_i, isBv_b, eqCells_t, TT]
    simp (maxSteps := 4000000) only [Try.results17, b1.at_, lt_of b1.at_, t2, m2, List.append_assoc, List.getElem?_append_left, List.getElem?_append_right, List.length_append, List.length_set, List.set_append_left, gset, List.getElem?_set_ne, Nat.add_sub_cancel_left, Nat.sub_self, Nat.le_refl, Nat.le_add_right, List.replicate_one, List.flatten_cons, List.flatten_nil, rep_flat, XX, Nat.reduceBEq, Nat.reduceLT, Nat.reduceAdd, Nat.reduceMul, Nat.reduceSub, Nat.reduceLeDiff, Nat.reduceEqDiff, Int.reduceToNat, Int.reduceLT, Int.reduceLE, Int.reduceAdd, Int.reduceSub, Int.reduceEq, reduceIte, Nat.reduceBNe, Int.reducePow, Nat.reducePow, Int.reduceMul, Int.reduceNeg, isB_i, isB_b, isB_y, isBv_i, isBv_b, eqCells_t, TT]
    refine ⟨⟨by unfold maxLen; omega, by simp; omega, fun h => by simp; omega⟩, ?_⟩
    refine xapp_more b1 l1 l2 rfl rfl (by omega) fun H' w' z' b1' g1 g2 g3 => ?_
    have w0' := (g2 0 (lt_of w0) n0.symm).trans w0
    have w1' := (g2 1 (lt_of w1) n1.symm).trans w1
    have n0' : w' ≠ 0 := by have := lt_of w0; omega
    have n1' : w' ≠ 1 := by have := lt_of w1; omega
    clear g1 g2 g3 w0 w1 n0 n1 b1
    have k2 : (A ++ B).length = 4 := by simp; omega
    generalize A ++ B = AB at b1' k2 eO
    simp only [slB, k2]
    simp (maxSteps := 4000000) only [Try.results17, w1', e3, w64, XX, Nat.reduceBEq, Nat.reduceLT, Nat.reduceAdd, Nat.reduceMul, Nat.reduceSub, Nat.reduceLeDiff, Nat.reduceEqDiff, Int.reduceToNat, Int.reduceLT, Int.reduceLE, Int.reduceAdd, Int.reduceSub, Int.reduceEq, reduceIte, Nat.reduceBNe, Int.reducePow, Nat.reducePow, Int.reduceMul, Int.reduceNeg, isB_i, isB_b, isB_y, isBv_i, isBv_b, eqCells_t, TT]
    refine call_frame (p3) [] rfl rfl trivial rfl rfl ?_
    rintro _ _ ⟨rfl, rfl⟩
    simp (maxSteps := 4000000) only [Try.results17, ids_bsC, ren_bsC, noRo_bsC, plain_bsC, lt_bsC, ids_byte, ren_byte, noRo_byte, plain_byte, lt_byte, XX, Nat.reduceBEq, Nat.reduceLT, Nat.reduceAdd, Nat.reduceMul, Nat.reduceSub, Nat.reduceLeDiff, Nat.reduceEqDiff, Int.reduceToNat, Int.reduceLT, Int.reduceLE, Int.reduceAdd, Int.reduceSub, Int.reduceEq, reduceIte, Nat.reduceBNe, Int.reducePow, Nat.reducePow, Int.reduceMul, Int.reduceNeg, isB_i, isB_b, isB_y, isBv_i, isBv_b, eqCells_t, TT]
    simp (maxSteps := 4000000) only [Try.results17, b1'.at_, lt_of b1'.at_, t3, m3, List.append_assoc, List.getElem?_append_left, List.getElem?_append_right, List.length_append, List.length_set, List.set_append_left, gset, List.getElem?_set_ne, Nat.add_sub_cancel_left, Nat.sub_self, Nat.le_refl, Nat.le_add_right, List.replicate_one, List.flatten_cons, List.flatten_nil, rep_flat, XX, Nat.reduceBEq, Nat.reduceLT, Nat.reduceAdd, Nat.reduceMul, Nat.reduceSub, Nat.reduceLeDiff, Nat.reduceEqDiff, Int.reduceToNat, Int.reduceLT, Int.reduceLE, Int.reduceAdd, Int.reduceSub, Int.reduceEq, reduceIte, Nat.reduceBNe, Int.reducePow, Nat.reducePow, Int.reduceMul, Int.reduceNeg, isB_i, isB_b, isB_y, isBv_i, isBv_b, eqCells_t, TT]
    refine ⟨⟨by unfold maxLen; omega, by simp; omega, fun h => by simp; omega⟩, ?_⟩
    refine xapp_more b1' k2 l3 rfl rfl (by omega) fun H'' w'' z'' b1'' g1 g2 g3 => ?_
    have w0'' := (g2 0 (lt_of w0') n0'.symm).trans w0'
    have w1'' := (g2 1 (lt_of w1') n1'.symm).trans w1'
    have n0'' : w'' ≠ 0 := by have := lt_of w0'; omega
    have n1'' : w'' ≠ 1 := by have := lt_of w1'; omega
    clear g1 g2 g3 w0' w1' n0' n1' b1'
    have k4 : (AB ++ C).length = 6 := by simp; omega
    generalize AB ++ C = ABC at b1'' k4 eO
    simp only [slB, k4]
    simp (maxSteps := 4000000) only [Try.results17, w1'', e4, w64, XX, Nat.reduceBEq, Nat.reduceLT, Nat.reduceAdd, Nat.reduceMul, Nat.reduceSub, Nat.reduceLeDiff, Nat.reduceEqDiff, Int.reduceToNat, Int.reduceLT, Int.reduceLE, Int.reduceAdd, Int.reduceSub, Int.reduceEq, reduceIte, Nat.reduceBNe, Int.reducePow, Nat.reducePow, Int.reduceMul, Int.reduceNeg, isB_i, isB_b, isB_y, isBv_i, isBv_b, eqCells_t, TT]
    refine call_frame (p4) [] rfl rfl trivial rfl rfl ?_
    rintro _ _ ⟨rfl, rfl⟩
    simp (maxSteps := 4000000) only [Try.results17, ids_bsC, ren_bsC, noRo_bsC, plain_bsC, lt_bsC, ids_byte, ren_byte, noRo_byte, plain_byte, lt_byte, XX, Nat.reduceBEq, Nat.reduceLT, Nat.reduceAdd, Nat.reduceMul, Nat.reduceSub, Nat.reduceLeDiff, Nat.reduceEqDiff, Int.reduceToNat, Int.reduceLT, Int.reduceLE, Int.reduceAdd, Int.reduceSub, Int.reduceEq, reduceIte, Nat.reduceBNe, Int.reducePow, Nat.reducePow, Int.reduceMul, Int.reduceNeg, isB_i, isB_b, isB_y, isBv_i, isBv_b, eqCells_t, TT]
    simp (maxSteps := 4000000) only [Try.results17, b1''.at_, lt_of b1''.at_, t4, m4, List.append_assoc, List.getElem?_append_left, List.getElem?_append_right, List.length_append, List.length_set, List.set_append_left, gset, List.getElem?_set_ne, Nat.add_sub_cancel_left, Nat.sub_self, Nat.le_refl, Nat.le_add_right, List.replicate_one, List.flatten_cons, List.flatten_nil, rep_flat, XX, Nat.reduceBEq, Nat.reduceLT, Nat.reduceAdd, Nat.reduceMul, Nat.reduceSub, Nat.reduceLeDiff, Nat.reduceEqDiff, Int.reduceToNat, Int.reduceLT, Int.reduceLE, Int.reduceAdd, Int.reduceSub, Int.reduceEq, reduceIte, Nat.reduceBNe, Int.reducePow, Nat.reducePow, Int.reduceMul, Int.reduceNeg, isB_i, isB_b, isB_y, isBv_i, isBv_b, eqCells_t, TT]
    refine ⟨⟨by unfold maxLen; omega, by simp; omega, fun h => by simp; omega⟩, ?_⟩
    refine xapp_more b1'' k4 l4 rfl rfl (by omega) fun H''' w''' z''' b1''' g1 g2 g3 => ?_
    have w0''' := (g2 0 (lt_of w0'') n0''.symm).trans w0''
    have w1''' := (g2 1 (lt_of w1'') n1''.symm).trans w1''
    have n0''' : w''' ≠ 0 := by have := lt_of w0''; omega
    have n1''' : w''' ≠ 1 := by have := lt_of w1''; omega
    clear g1 g2 g3 w0'' w1'' n0'' n1'' b1''
    have k6 : (ABC ++ D).length = 8 := by simp; omega
    generalize ABC ++ D = ABCD at b1''' k6 eO
    simp only [slB, k6]
    have m9 : (bsR (l ++ sp)).take l.length = bsR l := by rw [rs_take, List.take_left' rfl]
    have m10 : (bsR l).map RC.toSC = bsC l := bsR_toSC l
    simp (maxSteps := 4000000) only [Try.results17, b1'''.at_, lt_of b1'''.at_, w0''', m9, m10, bsC_len, w64, List.append_assoc, List.getElem?_append_left, List.getElem?_append_right, List.length_append, List.length_set, List.set_append_left, gset, List.getElem?_set_ne, Nat.add_sub_cancel_left, Nat.sub_self, Nat.le_refl, Nat.le_add_right, List.replicate_one, List.flatten_cons, List.flatten_nil, rep_flat, XX, Nat.reduceBEq, Nat.reduceLT, Nat.reduceAdd, Nat.reduceMul, Nat.reduceSub, Nat.reduceLeDiff, Nat.reduceEqDiff, Int.reduceToNat, Int.reduceLT, Int.reduceLE, Int.reduceAdd, Int.reduceSub, Int.reduceEq, reduceIte, Nat.reduceBNe, Int.reducePow, Nat.reducePow, Int.reduceMul, Int.reduceNeg, isB_i, isB_b, isB_y, isBv_i, isBv_b, eqCells_t, TT]
    refine ⟨⟨⟨by omega, by unfold maxLen; omega, by omega, fun h => by omega⟩, by simp⟩, ?_⟩
    refine xapp_more0 b1''' k6 rfl rfl rfl (by omega) fun H2 w2 z2 b2 g1 g2 g3 => ?_
    rw [← eO] at b2 ⊢
    simp (maxSteps := 4000000) only [Try.results17, XX, Nat.reduceBEq, Nat.reduceLT, Nat.reduceAdd, Nat.reduceMul, Nat.reduceSub, Nat.reduceLeDiff, Nat.reduceEqDiff, Int.reduceToNat, Int.reduceLT, Int.reduceLE, Int.reduceAdd, Int.reduceSub, Int.reduceEq, reduceIte, Nat.reduceBNe, Int.reducePow, Nat.reducePow, Int.reduceMul, Int.reduceNeg, isB_i, isB_b, isB_y, isBv_i, isBv_b, eqCells_t, TT]
    exact ⟨w2, z2, rfl, b2⟩
  exact key.wk fun t h' ⟨w, z, h1, b⟩ => ⟨.c (slB 0 (udpL s d l sum) z), [wB true (udpL s d l sum ++ z)], [some w], rfl, by simp only [XX, Nat.reduceBEq, Nat.reduceLT, Nat.reduceAdd, Nat.reduceMul, Nat.reduceSub, Nat.reduceLeDiff, Nat.reduceEqDiff, Int.reduceToNat, Int.reduceLT, Int.reduceLE, Int.reduceAdd, Int.reduceSub, Int.reduceEq, reduceIte, Nat.reduceBNe, Int.reducePow, Nat.reducePow, Int.reduceMul, Int.reduceNeg, isB_i, isB_b, isB_y, isBv_i, isBv_b, eqCells_t, TT, ids_bsC, ren_bsC, noRo_bsC, plain_bsC, lt_bsC, ids_byte, ren_byte, noRo_byte, plain_byte, lt_byte, b.at_], by subst h1; simp only [XX, Nat.reduceBEq, Nat.reduceLT, Nat.reduceAdd, Nat.reduceMul, Nat.reduceSub, Nat.reduceLeDiff, Nat.reduceEqDiff, Int.reduceToNat, Int.reduceLT, Int.reduceLE, Int.reduceAdd, Int.reduceSub, Int.reduceEq, reduceIte, Nat.reduceBNe, Int.reducePow, Nat.reducePow, Int.reduceMul, Int.reduceNeg, isB_i, isB_b, isB_y, isBv_i, isBv_b, eqCells_t, TT, ids_bsC, ren_bsC, noRo_bsC, plain_bsC, lt_bsC, ids_byte, ren_byte, noRo_byte, plain_byte, lt_byte], z, true, rfl, rfl, rfl⟩

end Go.Proofs.Ytiefbdddjhigdaa.Sx
