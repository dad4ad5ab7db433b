/- The symbolic executor, at work: messages of the net, as the reference forms them. No condition. -/
import Derived.Test.YtfpjabhlfjkhfaaI4a
import Derived.Test.YtfpjabhlfjkhfaaPt
namespace Go.Proofs.Ytfpjabhlfjkhfaa.Sx
open Go
set_option linter.unusedSimpArgs false
set_option linter.unusedVariables false
set_option maxRecDepth 10000
set_option maxHeartbeats 2000000

abbrev icC (k c : Int) (r : Nat) (x : SC) : List SC := [i64 k, i64 c, i32 r, x]
/-- A message's bytes. -/
def icL (k c r : Nat) (l : List UInt8) (sum : Nat) : List UInt8 := [UInt8.ofNat k, UInt8.ofNat c] ++ be2 sum ++ (be4 r ++ l)
theorem icL_len (k c r : Nat) (l : List UInt8) (sum : Nat) : (icL k c r l sum).length = 8 + l.length := by simp [icL]; omega
theorem isum_le (l : List UInt8) : isum l ≤ 65535 := by unfold isum; omega

theorem form_spec (k c r : Nat) (l sp : List UInt8) (cp : Nat) (hk : k < 256) (hc : c < 256) (hr : r < 4294967296) (hl : l.length ≤ 70368744177000) : Spec cx.P 27 [.agg (icC k c r (roB l sp cp))] [] (resS (icL k c r l (isum (icL k c r l 0)))) := by
  refine resS_of ?_
  have e1 : IntKind.u64.wrap (r : Int) = (r : Int) := by rw [wu64] <;> omega
  have p1 := rput4_spec r (by omega)
  have l1 : (be4 r).length = 4 := rfl
  have eA : [UInt8.ofNat k, UInt8.ofNat c] ++ [0, 0] ++ (be4 r ++ l) = icL k c r l 0 := rfl
  have eB : ∀ s, [UInt8.ofNat k, UInt8.ofNat c] ++ be2 s ++ (be4 r ++ l) = icL k c r l s := fun _ => rfl
  have nA := icL_len k c r l 0
  generalize be4 r = R4 at p1 l1 eA eB
  have lKC : [UInt8.ofNat k, UInt8.ofNat c].length = 2 := rfl
  have bKC : [byteC (UInt8.ofNat k), byteC (UInt8.ofNat c)] = bsC [UInt8.ofNat k, UInt8.ofNat c] := rfl
  generalize hKC : [UInt8.ofNat k, UInt8.ofNat c] = KC at eA eB lKC bKC
  refine spec_of_X cx_ok Try.func27 rfl (by kernel_rfl) (by kernel_rfl) (Nat.le_of_ble_eq_true rfl) 400 7 ?_
  simp (maxSteps := 4000000) only [Try.results27, XX, Nat.reduceBEq, Nat.reduceLT, Nat.reduceAdd, Nat.reduceMul, Nat.reduceSub, Nat.reduceLeDiff, Nat.reduceEqDiff, Int.reduceToNat, Int.reduceLT, Int.reduceLE, Int.reduceAdd, Int.reduceSub, Int.reduceEq, reduceIte, Nat.reduceBNe, Int.reducePow, Nat.reducePow, Int.reduceMul, Int.reduceNeg, isB_i, isB_b, isB_y, isBv_i, isBv_b, eqCells_t, TT]
  simp (maxSteps := 4000000) only [Try.results27, byteC_n, List.replicate_succ, List.replicate_zero, List.flatten_cons, List.flatten_nil, bKC, XX, Nat.reduceBEq, Nat.reduceLT, Nat.reduceAdd, Nat.reduceMul, Nat.reduceSub, Nat.reduceLeDiff, Nat.reduceEqDiff, Int.reduceToNat, Int.reduceLT, Int.reduceLE, Int.reduceAdd, Int.reduceSub, Int.reduceEq, reduceIte, Nat.reduceBNe, Int.reducePow, Nat.reducePow, Int.reduceMul, Int.reduceNeg, isB_i, isB_b, isB_y, isBv_i, isBv_b, eqCells_t, TT]
  refine draw_of cx_ok (by kernel_rfl) 400 [0] [(0, true), (1, true), (2, true), (4, true), (5, true), (3, false), (6, false), (7, true)] (by kernel_rfl) rfl ?_
  simp (maxSteps := 4000000) only [Try.results27, e1, XX, Nat.reduceBEq, Nat.reduceLT, Nat.reduceAdd, Nat.reduceMul, Nat.reduceSub, Nat.reduceLeDiff, Nat.reduceEqDiff, Int.reduceToNat, Int.reduceLT, Int.reduceLE, Int.reduceAdd, Int.reduceSub, Int.reduceEq, reduceIte, Nat.reduceBNe, Int.reducePow, Nat.reducePow, Int.reduceMul, Int.reduceNeg, isB_i, isB_b, isB_y, isBv_i, isBv_b, eqCells_t, TT]
  refine call_frame (p1) [] rfl rfl trivial rfl rfl ?_
  rintro _ _ ⟨rfl, rfl⟩
  simp (maxSteps := 4000000) only [Try.results27, ids_bsC, ren_bsC, noRo_bsC, plain_bsC, lt_bsC, ids_byte, ren_byte, noRo_byte, plain_byte, lt_byte, XX, Nat.reduceBEq, Nat.reduceLT, Nat.reduceAdd, Nat.reduceMul, Nat.reduceSub, Nat.reduceLeDiff, Nat.reduceEqDiff, Int.reduceToNat, Int.reduceLT, Int.reduceLE, Int.reduceAdd, Int.reduceSub, Int.reduceEq, reduceIte, Nat.reduceBNe, Int.reducePow, Nat.reducePow, Int.reduceMul, Int.reduceNeg, isB_i, isB_b, isB_y, isBv_i, isBv_b, eqCells_t, TT]
  refine call_is (addWR' [_, _, wB true R4] 2 true R4 [] ⟨by rw [List.append_nil]; rfl, fun _ => rfl⟩ 4 4 l1 rfl l sp cp (by omega)) ?_
  rintro _ H1 ⟨w1, z1, o1, rfl, B1, g1, g2, g3⟩
  have a0 := g2 0 (by simp) (by decide)
  have a1 := g2 1 (by simp) (by decide)
  have n1 : w1 ≠ 1 ∧ w1 ≠ 0 := by simp at g3; omega
  simp (maxSteps := 4000000) only [Try.results27, XX, Nat.reduceBEq, Nat.reduceLT, Nat.reduceAdd, Nat.reduceMul, Nat.reduceSub, Nat.reduceLeDiff, Nat.reduceEqDiff, Int.reduceToNat, Int.reduceLT, Int.reduceLE, Int.reduceAdd, Int.reduceSub, Int.reduceEq, reduceIte, Nat.reduceBNe, Int.reducePow, Nat.reducePow, Int.reduceMul, Int.reduceNeg, isB_i, isB_b, isB_y, isBv_i, isBv_b, eqCells_t, TT]
  generalize hH : unL [0] 0 _ H1 = H
  have b0 : H[0]? = some ⟨true, 26, icC k c r (roB l sp cp)⟩ := by rw [← hH]; exact unL_kept a0 rfl rfl
  have b1 : H[1]? = some (wB true KC) := by rw [← hH]; exact unL_old a1 rfl rfl
  have B1' : Buf H w1 o1 (R4 ++ l) z1 := ⟨by rw [← hH]; exact unL_new B1.at_ (by simp at g3 ⊢; omega), B1.own⟩
  clear hH g1 g2 g3 a0 a1 B1
  have z00 : [SC.v (.int .u8 0), SC.v (.int .u8 0)] = bsC [0, 0] := rfl
  have lR : (R4 ++ l).length = 4 + l.length := by simp; omega
  generalize hBH : R4 ++ l = BH at B1' lR eA eB
  simp (maxSteps := 4000000) only [Try.results27, List.replicate_succ, List.replicate_zero, List.flatten_cons, List.flatten_nil, z00, XX, Nat.reduceBEq, Nat.reduceLT, Nat.reduceAdd, Nat.reduceMul, Nat.reduceSub, Nat.reduceLeDiff, Nat.reduceEqDiff, Int.reduceToNat, Int.reduceLT, Int.reduceLE, Int.reduceAdd, Int.reduceSub, Int.reduceEq, reduceIte, Nat.reduceBNe, Int.reducePow, Nat.reducePow, Int.reduceMul, Int.reduceNeg, isB_i, isB_b, isB_y, isBv_i, isBv_b, eqCells_t, TT]
  have ltH := lt_of B1'.at_
  refine call_is (addWW' (H ++ [wB true [0, 0]]) 1 true KC [] ⟨by rw [List.append_nil, List.getElem?_append_left (lt_of b1)]; exact b1, fun _ => rfl⟩ 2 2 lKC rfl H.length true [0, 0] [] ⟨by rw [List.getElem?_append_right (Nat.le_refl _), Nat.sub_self]; rfl, fun _ => rfl⟩ 2 2 rfl rfl (by have := lt_of b1; omega) (by simp [lKC])) ?_
  rintro _ H2 ⟨w2, z2, o2, rfl, C2, g1, g2, g3⟩
  have lt0 := lt_of b0
  have lt1 := lt_of b1
  have q0 : H2[0]? = H[0]? := (g2 0 (by simp) (by decide)).trans (List.getElem?_append_left lt0)
  have q1 : H2[w1]? = H[w1]? := (g2 w1 (by simp; omega) n1.1).trans (List.getElem?_append_left ltH)
  have n2 : w1 ≠ w2 ∧ w2 ≠ 0 := by simp at g3; omega
  have b0' := q0.trans b0
  have B2 := B1'.mono q1
  clear g1 g2 g3 q0 q1 b0 b1 B1'
  have lKZ : (KC ++ [0, 0]).length = 4 := by simp [lKC]
  generalize KC ++ [0, 0] = KZ at C2 lKZ eA
  simp (maxSteps := 4000000) only [Try.results27, XX, Nat.reduceBEq, Nat.reduceLT, Nat.reduceAdd, Nat.reduceMul, Nat.reduceSub, Nat.reduceLeDiff, Nat.reduceEqDiff, Int.reduceToNat, Int.reduceLT, Int.reduceLE, Int.reduceAdd, Int.reduceSub, Int.reduceEq, reduceIte, Nat.reduceBNe, Int.reducePow, Nat.reducePow, Int.reduceMul, Int.reduceNeg, isB_i, isB_b, isB_y, isBv_i, isBv_b, eqCells_t, TT]
  refine call_is (addWW H2 w2 o2 KZ z2 C2 w1 o1 BH z1 B2 n2.1 (by omega)) ?_
  rintro _ H3 ⟨w3, z3, o3, rfl, C3, g1, g2, g3⟩
  have b0 := (g2 0 (lt_of b0') n2.2.symm).trans b0'
  have B3 := B2.mono (g2 w1 (lt_of B2.at_) n2.1)
  have n3 : w1 ≠ w3 ∧ w3 ≠ 0 := by have := lt_of B2.at_; have := lt_of b0'; omega
  clear g1 g2 g3 b0' C2 B2 n2
  rw [eA] at C3 ⊢
  simp (maxSteps := 4000000) only [Try.results27, XX, Nat.reduceBEq, Nat.reduceLT, Nat.reduceAdd, Nat.reduceMul, Nat.reduceSub, Nat.reduceLeDiff, Nat.reduceEqDiff, Int.reduceToNat, Int.reduceLT, Int.reduceLE, Int.reduceAdd, Int.reduceSub, Int.reduceEq, reduceIte, Nat.reduceBNe, Int.reducePow, Nat.reducePow, Int.reduceMul, Int.reduceNeg, isB_i, isB_b, isB_y, isBv_i, isBv_b, eqCells_t, TT]
  refine call_pureF [.c (roB (icL k c r l 0) z3 ((icL k c r l 0).length + z3.length))] (rsumOf_spec _ z3 _ (by omega)) ⟨fz_c (fz_sl C3.at_ ?_ rfl), trivial⟩ ?_
  · rw [C3.own (by omega)]; rfl
  rintro _ rfl
  have hx := isum_le (icL k c r l 0)
  generalize isum (icL k c r l 0) = x at hx ⊢
  have e2 : IntKind.u64.wrap (x : Int) = (x : Int) := by rw [wu64] <;> omega
  have p2 := rput2_spec x (by omega)
  have l2 : (be2 x).length = 2 := rfl
  have eB := eB x
  generalize be2 x = S2 at p2 l2 eB
  simp (maxSteps := 4000000) only [Try.results27, e2, XX, Nat.reduceBEq, Nat.reduceLT, Nat.reduceAdd, Nat.reduceMul, Nat.reduceSub, Nat.reduceLeDiff, Nat.reduceEqDiff, Int.reduceToNat, Int.reduceLT, Int.reduceLE, Int.reduceAdd, Int.reduceSub, Int.reduceEq, reduceIte, Nat.reduceBNe, Int.reducePow, Nat.reducePow, Int.reduceMul, Int.reduceNeg, isB_i, isB_b, isB_y, isBv_i, isBv_b, eqCells_t, TT]
  refine call_frame (p2) [] rfl rfl trivial rfl rfl ?_
  rintro _ _ ⟨rfl, rfl⟩
  simp (maxSteps := 4000000) only [Try.results27, ids_bsC, ren_bsC, noRo_bsC, plain_bsC, lt_bsC, ids_byte, ren_byte, noRo_byte, plain_byte, lt_byte, XX, Nat.reduceBEq, Nat.reduceLT, Nat.reduceAdd, Nat.reduceMul, Nat.reduceSub, Nat.reduceLeDiff, Nat.reduceEqDiff, Int.reduceToNat, Int.reduceLT, Int.reduceLE, Int.reduceAdd, Int.reduceSub, Int.reduceEq, reduceIte, Nat.reduceBNe, Int.reducePow, Nat.reducePow, Int.reduceMul, Int.reduceNeg, isB_i, isB_b, isB_y, isBv_i, isBv_b, eqCells_t, TT]
  have bKC' : [byteC (UInt8.ofNat k), byteC (UInt8.ofNat c)] = bsC KC := by rw [← hKC]; rfl
  simp (maxSteps := 4000000) only [Try.results27, b0, lt_of b0, byteC_n, List.replicate_succ, List.replicate_zero, List.flatten_cons, List.flatten_nil, bKC', List.append_assoc, List.getElem?_append_left, List.getElem?_append_right, List.length_append, List.length_set, List.set_append_left, gset, List.getElem?_set_ne, Nat.add_sub_cancel_left, Nat.sub_self, Nat.le_refl, Nat.le_add_right, List.replicate_one, List.flatten_cons, List.flatten_nil, rep_flat, XX, Nat.reduceBEq, Nat.reduceLT, Nat.reduceAdd, Nat.reduceMul, Nat.reduceSub, Nat.reduceLeDiff, Nat.reduceEqDiff, Int.reduceToNat, Int.reduceLT, Int.reduceLE, Int.reduceAdd, Int.reduceSub, Int.reduceEq, reduceIte, Nat.reduceBNe, Int.reducePow, Nat.reducePow, Int.reduceMul, Int.reduceNeg, isB_i, isB_b, isB_y, isBv_i, isBv_b, eqCells_t, TT]
  refine call_is (addWW' (H3 ++ [wB true S2, wB true KC]) (H3.length + 1) true KC [] ⟨by rw [List.append_nil, List.getElem?_append_right (by omega), Nat.add_sub_cancel_left]; rfl, fun _ => rfl⟩ 2 2 lKC rfl H3.length true S2 [] ⟨by rw [List.append_nil, List.getElem?_append_right (Nat.le_refl _), Nat.sub_self]; rfl, fun _ => rfl⟩ 2 2 l2 rfl (by omega) (by omega)) ?_
  rintro _ H4 ⟨w4, z4, o4, rfl, C4, g1, g2, g3⟩
  have lt3 := lt_of B3.at_
  have B4 := B3.mono ((g2 w1 (by simp; omega) (by omega)).trans (List.getElem?_append_left lt3))
  have n4 : w1 ≠ w4 := by simp at g3; omega
  have lKS : (KC ++ S2).length = 4 := by simp; omega
  generalize KC ++ S2 = KS at C4 lKS eB
  simp (maxSteps := 4000000) only [Try.results27, XX, Nat.reduceBEq, Nat.reduceLT, Nat.reduceAdd, Nat.reduceMul, Nat.reduceSub, Nat.reduceLeDiff, Nat.reduceEqDiff, Int.reduceToNat, Int.reduceLT, Int.reduceLE, Int.reduceAdd, Int.reduceSub, Int.reduceEq, reduceIte, Nat.reduceBNe, Int.reducePow, Nat.reducePow, Int.reduceMul, Int.reduceNeg, isB_i, isB_b, isB_y, isBv_i, isBv_b, eqCells_t, TT]
  refine call_is (addWW H4 w4 o4 KS z4 C4 w1 o1 BH z1 B4 n4 (by omega)) ?_
  rintro _ H5 ⟨w5, z5, o5, rfl, C5, _⟩
  rw [eB] at C5 ⊢
  simp (maxSteps := 4000000) only [Try.results27, XX, Nat.reduceBEq, Nat.reduceLT, Nat.reduceAdd, Nat.reduceMul, Nat.reduceSub, Nat.reduceLeDiff, Nat.reduceEqDiff, Int.reduceToNat, Int.reduceLT, Int.reduceLE, Int.reduceAdd, Int.reduceSub, Int.reduceEq, reduceIte, Nat.reduceBNe, Int.reducePow, Nat.reducePow, Int.reduceMul, Int.reduceNeg, isB_i, isB_b, isB_y, isBv_i, isBv_b, eqCells_t, TT]
  exact ⟨w5, z5, o5, rfl, C5⟩

end Go.Proofs.Ytfpjabhlfjkhfaa.Sx
