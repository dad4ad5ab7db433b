/- The symbolic executor, at work: datagrams: what the sum goes over. No condition. -/
import Derived.Test.YtiefbdddjhigdaaU12b
namespace Go.Proofs.Ytiefbdddjhigdaa.Sx
open Go
set_option linter.unusedSimpArgs false
set_option linter.unusedVariables false
set_option maxRecDepth 10000
set_option maxHeartbeats 1000000

abbrev nilR : SC := .v (.slice none 0 0)
theorem ids_nilR (p : Nat → Bool) (n : Nat) : (List.replicate n nilR).all (SC.ids p) = true := by simp [SC.ids]
theorem ren_nilR (r : Nat → Nat) (n : Nat) : (List.replicate n nilR).map (SC.ren r) = List.replicate n nilR := by simp [SC.ren]
theorem noRo_nilR (n : Nat) : (List.replicate n nilR).all SC.noRo = true := by simp [SC.noRo]

theorem over_ro (src dst : Nat) (l sp : List UInt8) (n c : Nat) (hs : src < 4294967296) (hd : dst < 4294967296) (hl : n < 18446744073709551616)  :
    Spec cx.P 21 [.c (i32 src), .c (i32 dst), .c (.ro (bsR (l ++ sp)) n c)] [] fun t h' => ∃ r, t = .c (.sl 4 0 5 (5 + r)) ∧ h' = [wB true (be4 src), wB true (be4 dst), wB true [0, 17], wB true (be2 n), ⟨true, 24, .sl 0 0 4 4 :: .sl 1 0 4 4 :: .sl 2 0 2 2 :: .sl 3 0 2 2 :: .ro (bsR (l ++ sp)) n c :: List.replicate r nilR⟩] := by
  have p1 := put4_spec src (by omega)
  have p2 := put4_spec dst (by omega)
  have p3 := put2_spec n (by omega)
  generalize be4 src = A at p1 ⊢
  generalize be4 dst = B at p2 ⊢
  generalize be2 n = C at p3 ⊢
  have e1 : IntKind.u64.wrap (src : Int) = (src : Int) := by rw [wu64] <;> omega
  have e2 : IntKind.u64.wrap (dst : Int) = (dst : Int) := by rw [wu64] <;> omega
  have e3 : IntKind.u64.wrap (n : Int) = (n : Int) := by rw [wu64] <;> omega
  have b0 : [SC.v (.int .u8 0), SC.v (.int .u8 17)] = bsC [0, 17] := rfl
  have key : Spec cx.P 21 [.c (i32 src), .c (i32 dst), .c (.ro (bsR (l ++ sp)) n c)] [] fun t h' => ∃ r, (∃ g1 g2, t = .c (.sl 5 0 5 (5 + r)) ∧ h' = [wB true A, wB true B, wB true [0, 17], wB true C, g1, ⟨true, 24, .sl 0 0 4 4 :: .sl 1 0 4 4 :: .sl 2 0 2 2 :: .sl 3 0 2 2 :: .ro (bsR (l ++ sp)) n c :: List.replicate r nilR⟩, g2]) ∨
      (∃ g1 g2 g3, t = .c (.sl 7 0 5 (5 + r)) ∧ h' = [wB true A, wB true B, wB true [0, 17], wB true C, g1, g2, g3, ⟨true, 24, .sl 0 0 4 4 :: .sl 1 0 4 4 :: .sl 2 0 2 2 :: .sl 3 0 2 2 :: .ro (bsR (l ++ sp)) n c :: List.replicate r nilR⟩]) := by
    refine spec_of_X cx_ok Try.func21 rfl (by kernel_rfl) (by kernel_rfl) (Nat.le_of_ble_eq_true rfl) 400 8 ?_
    simp (maxSteps := 4000000) only [Try.results21, XX, Nat.reduceBEq, Nat.reduceLT, Nat.reduceAdd, Nat.reduceMul, Nat.reduceSub, Nat.reduceLeDiff, Nat.reduceEqDiff, Int.reduceToNat, Int.reduceLT, Int.reduceLE, Int.reduceAdd, Int.reduceSub, Int.reduceEq, reduceIte, Nat.reduceBNe, Int.reducePow, Nat.reducePow, Int.reduceMul, Int.reduceNeg, isB_i, isB_b, isB_y, isBv_i, isBv_b, eqCells_t, TT]
    simp (maxSteps := 4000000) only [Try.results21, e1, XX, Nat.reduceBEq, Nat.reduceLT, Nat.reduceAdd, Nat.reduceMul, Nat.reduceSub, Nat.reduceLeDiff, Nat.reduceEqDiff, Int.reduceToNat, Int.reduceLT, Int.reduceLE, Int.reduceAdd, Int.reduceSub, Int.reduceEq, reduceIte, Nat.reduceBNe, Int.reducePow, Nat.reducePow, Int.reduceMul, Int.reduceNeg, isB_i, isB_b, isB_y, isBv_i, isBv_b, eqCells_t, TT]
    refine call_frame (p1) [] rfl rfl trivial rfl rfl ?_
    rintro _ _ ⟨rfl, rfl⟩
    simp (maxSteps := 4000000) only [Try.results21, ids_bsC, ren_bsC, noRo_bsC, plain_bsC, lt_bsC, ids_byte, ren_byte, noRo_byte, plain_byte, lt_byte, XX, Nat.reduceBEq, Nat.reduceLT, Nat.reduceAdd, Nat.reduceMul, Nat.reduceSub, Nat.reduceLeDiff, Nat.reduceEqDiff, Int.reduceToNat, Int.reduceLT, Int.reduceLE, Int.reduceAdd, Int.reduceSub, Int.reduceEq, reduceIte, Nat.reduceBNe, Int.reducePow, Nat.reducePow, Int.reduceMul, Int.reduceNeg, isB_i, isB_b, isB_y, isBv_i, isBv_b, eqCells_t, TT]
    simp (maxSteps := 4000000) only [Try.results21, e2, XX, Nat.reduceBEq, Nat.reduceLT, Nat.reduceAdd, Nat.reduceMul, Nat.reduceSub, Nat.reduceLeDiff, Nat.reduceEqDiff, Int.reduceToNat, Int.reduceLT, Int.reduceLE, Int.reduceAdd, Int.reduceSub, Int.reduceEq, reduceIte, Nat.reduceBNe, Int.reducePow, Nat.reducePow, Int.reduceMul, Int.reduceNeg, isB_i, isB_b, isB_y, isBv_i, isBv_b, eqCells_t, TT]
    refine call_frame (p2) [] rfl rfl trivial rfl rfl ?_
    rintro _ _ ⟨rfl, rfl⟩
    simp (maxSteps := 4000000) only [Try.results21, ids_bsC, ren_bsC, noRo_bsC, plain_bsC, lt_bsC, ids_byte, ren_byte, noRo_byte, plain_byte, lt_byte, XX, Nat.reduceBEq, Nat.reduceLT, Nat.reduceAdd, Nat.reduceMul, Nat.reduceSub, Nat.reduceLeDiff, Nat.reduceEqDiff, Int.reduceToNat, Int.reduceLT, Int.reduceLE, Int.reduceAdd, Int.reduceSub, Int.reduceEq, reduceIte, Nat.reduceBNe, Int.reducePow, Nat.reducePow, Int.reduceMul, Int.reduceNeg, isB_i, isB_b, isB_y, isBv_i, isBv_b, eqCells_t, TT]
    simp (maxSteps := 4000000) only [Try.results21, e3, List.replicate_succ, List.replicate_zero, List.flatten_cons, List.flatten_nil, XX, Nat.reduceBEq, Nat.reduceLT, Nat.reduceAdd, Nat.reduceMul, Nat.reduceSub, Nat.reduceLeDiff, Nat.reduceEqDiff, Int.reduceToNat, Int.reduceLT, Int.reduceLE, Int.reduceAdd, Int.reduceSub, Int.reduceEq, reduceIte, Nat.reduceBNe, Int.reducePow, Nat.reducePow, Int.reduceMul, Int.reduceNeg, isB_i, isB_b, isB_y, isBv_i, isBv_b, eqCells_t, TT]
    refine call_frame (p3) [] rfl rfl trivial rfl rfl ?_
    rintro _ _ ⟨rfl, rfl⟩
    simp (maxSteps := 4000000) only [Try.results21, ids_bsC, ren_bsC, noRo_bsC, plain_bsC, lt_bsC, ids_byte, ren_byte, noRo_byte, plain_byte, lt_byte, XX, Nat.reduceBEq, Nat.reduceLT, Nat.reduceAdd, Nat.reduceMul, Nat.reduceSub, Nat.reduceLeDiff, Nat.reduceEqDiff, Int.reduceToNat, Int.reduceLT, Int.reduceLE, Int.reduceAdd, Int.reduceSub, Int.reduceEq, reduceIte, Nat.reduceBNe, Int.reducePow, Nat.reducePow, Int.reduceMul, Int.reduceNeg, isB_i, isB_b, isB_y, isBv_i, isBv_b, eqCells_t, TT]
    simp (maxSteps := 4000000) only [Try.results21, List.replicate_succ, List.replicate_zero, List.flatten_cons, List.flatten_nil, XX, Nat.reduceBEq, Nat.reduceLT, Nat.reduceAdd, Nat.reduceMul, Nat.reduceSub, Nat.reduceLeDiff, Nat.reduceEqDiff, Int.reduceToNat, Int.reduceLT, Int.reduceLE, Int.reduceAdd, Int.reduceSub, Int.reduceEq, reduceIte, Nat.reduceBNe, Int.reducePow, Nat.reducePow, Int.reduceMul, Int.reduceNeg, isB_i, isB_b, isB_y, isBv_i, isBv_b, eqCells_t, TT]
    refine ⟨by unfold maxLen; omega, xapp_grow (by omega) fun c1 hc1 _ => ?_⟩
    simp (maxSteps := 4000000) only [Try.results21, List.replicate_succ, List.replicate_zero, List.flatten_cons, List.flatten_nil, rep_flat, b0, XX, Nat.reduceBEq, Nat.reduceLT, Nat.reduceAdd, Nat.reduceMul, Nat.reduceSub, Nat.reduceLeDiff, Nat.reduceEqDiff, Int.reduceToNat, Int.reduceLT, Int.reduceLE, Int.reduceAdd, Int.reduceSub, Int.reduceEq, reduceIte, Nat.reduceBNe, Int.reducePow, Nat.reducePow, Int.reduceMul, Int.reduceNeg, isB_i, isB_b, isB_y, isBv_i, isBv_b, eqCells_t, TT]
    refine ⟨⟨by unfold maxLen; omega, fun h => by simp; omega⟩, xapp_both (fun hr => ?_) (fun hg c2 hc2 _ => ?_)⟩
    · obtain ⟨r, rfl⟩ := Nat.exists_eq_add_of_le hr
      have q : 5 + r - 4 - 1 = r := by omega
      simp (maxSteps := 4000000) only [Try.results21, List.drop_replicate, q, XX, Nat.reduceBEq, Nat.reduceLT, Nat.reduceAdd, Nat.reduceMul, Nat.reduceSub, Nat.reduceLeDiff, Nat.reduceEqDiff, Int.reduceToNat, Int.reduceLT, Int.reduceLE, Int.reduceAdd, Int.reduceSub, Int.reduceEq, reduceIte, Nat.reduceBNe, Int.reducePow, Nat.reducePow, Int.reduceMul, Int.reduceNeg, isB_i, isB_b, isB_y, isBv_i, isBv_b, eqCells_t, TT]
      exact ⟨r, .inl ⟨_, _, rfl, rfl⟩⟩
    · obtain ⟨r, rfl⟩ := Nat.exists_eq_add_of_le hc2
      simp (maxSteps := 4000000) only [Try.results21, Nat.add_sub_cancel_left, XX, Nat.reduceBEq, Nat.reduceLT, Nat.reduceAdd, Nat.reduceMul, Nat.reduceSub, Nat.reduceLeDiff, Nat.reduceEqDiff, Int.reduceToNat, Int.reduceLT, Int.reduceLE, Int.reduceAdd, Int.reduceSub, Int.reduceEq, reduceIte, Nat.reduceBNe, Int.reducePow, Nat.reducePow, Int.reduceMul, Int.reduceNeg, isB_i, isB_b, isB_y, isBv_i, isBv_b, eqCells_t, TT]
      exact ⟨r, .inr ⟨_, _, _, rfl, rfl⟩⟩
  refine key.wk fun t h' ⟨r, h⟩ => ?_
  rcases h with ⟨g1, g2, rfl, rfl⟩ | ⟨g1, g2, g3, rfl, rfl⟩
  · exact ⟨.c (.sl 4 0 5 (5 + r)), _, [some 0, some 1, some 2, some 3, some 5], rfl, by simp only [XX, Nat.reduceBEq, Nat.reduceLT, Nat.reduceAdd, Nat.reduceMul, Nat.reduceSub, Nat.reduceLeDiff, Nat.reduceEqDiff, Int.reduceToNat, Int.reduceLT, Int.reduceLE, Int.reduceAdd, Int.reduceSub, Int.reduceEq, reduceIte, Nat.reduceBNe, Int.reducePow, Nat.reducePow, Int.reduceMul, Int.reduceNeg, isB_i, isB_b, isB_y, isBv_i, isBv_b, eqCells_t, TT, ids_bsC, ren_bsC, noRo_bsC, plain_bsC, lt_bsC, ids_byte, ren_byte, noRo_byte, plain_byte, lt_byte, ids_nilR, ren_nilR], by simp only [XX, Nat.reduceBEq, Nat.reduceLT, Nat.reduceAdd, Nat.reduceMul, Nat.reduceSub, Nat.reduceLeDiff, Nat.reduceEqDiff, Int.reduceToNat, Int.reduceLT, Int.reduceLE, Int.reduceAdd, Int.reduceSub, Int.reduceEq, reduceIte, Nat.reduceBNe, Int.reducePow, Nat.reducePow, Int.reduceMul, Int.reduceNeg, isB_i, isB_b, isB_y, isBv_i, isBv_b, eqCells_t, TT, ids_bsC, ren_bsC, noRo_bsC, plain_bsC, lt_bsC, ids_byte, ren_byte, noRo_byte, plain_byte, lt_byte], r, rfl, rfl⟩
  · exact ⟨.c (.sl 4 0 5 (5 + r)), _, [some 0, some 1, some 2, some 3, some 7], rfl, by simp only [XX, Nat.reduceBEq, Nat.reduceLT, Nat.reduceAdd, Nat.reduceMul, Nat.reduceSub, Nat.reduceLeDiff, Nat.reduceEqDiff, Int.reduceToNat, Int.reduceLT, Int.reduceLE, Int.reduceAdd, Int.reduceSub, Int.reduceEq, reduceIte, Nat.reduceBNe, Int.reducePow, Nat.reducePow, Int.reduceMul, Int.reduceNeg, isB_i, isB_b, isB_y, isBv_i, isBv_b, eqCells_t, TT, ids_bsC, ren_bsC, noRo_bsC, plain_bsC, lt_bsC, ids_byte, ren_byte, noRo_byte, plain_byte, lt_byte, ids_nilR, ren_nilR], by simp only [XX, Nat.reduceBEq, Nat.reduceLT, Nat.reduceAdd, Nat.reduceMul, Nat.reduceSub, Nat.reduceLeDiff, Nat.reduceEqDiff, Int.reduceToNat, Int.reduceLT, Int.reduceLE, Int.reduceAdd, Int.reduceSub, Int.reduceEq, reduceIte, Nat.reduceBNe, Int.reducePow, Nat.reducePow, Int.reduceMul, Int.reduceNeg, isB_i, isB_b, isB_y, isBv_i, isBv_b, eqCells_t, TT, ids_bsC, ren_bsC, noRo_bsC, plain_bsC, lt_bsC, ids_byte, ren_byte, noRo_byte, plain_byte, lt_byte], r, rfl, rfl⟩

theorem over_win (src dst : Nat) (o : Bool) (M : List UInt8) (n c : Nat) (hs : src < 4294967296) (hd : dst < 4294967296) (hl : n < 18446744073709551616)  :
    Spec cx.P 21 [.c (i32 src), .c (i32 dst), .c (.sl 0 0 n c)] [wB o M] fun t h' => ∃ r, t = .c (.sl 5 0 5 (5 + r)) ∧ h' = [wB o M, wB true (be4 src), wB true (be4 dst), wB true [0, 17], wB true (be2 n), ⟨true, 24, .sl 1 0 4 4 :: .sl 2 0 4 4 :: .sl 3 0 2 2 :: .sl 4 0 2 2 :: .sl 0 0 n c :: List.replicate r nilR⟩] := by
  have p1 := put4_spec src (by omega)
  have p2 := put4_spec dst (by omega)
  have p3 := put2_spec n (by omega)
  generalize be4 src = A at p1 ⊢
  generalize be4 dst = B at p2 ⊢
  generalize be2 n = C at p3 ⊢
  have e1 : IntKind.u64.wrap (src : Int) = (src : Int) := by rw [wu64] <;> omega
  have e2 : IntKind.u64.wrap (dst : Int) = (dst : Int) := by rw [wu64] <;> omega
  have e3 : IntKind.u64.wrap (n : Int) = (n : Int) := by rw [wu64] <;> omega
  have b0 : [SC.v (.int .u8 0), SC.v (.int .u8 17)] = bsC [0, 17] := rfl
  have key : Spec cx.P 21 [.c (i32 src), .c (i32 dst), .c (.sl 0 0 n c)] [wB o M] fun t h' => ∃ r, (∃ g1 g2, t = .c (.sl 6 0 5 (5 + r)) ∧ h' = [wB o M, wB true A, wB true B, wB true [0, 17], wB true C, g1, ⟨true, 24, .sl 1 0 4 4 :: .sl 2 0 4 4 :: .sl 3 0 2 2 :: .sl 4 0 2 2 :: .sl 0 0 n c :: List.replicate r nilR⟩, g2]) ∨
      (∃ g1 g2 g3, t = .c (.sl 8 0 5 (5 + r)) ∧ h' = [wB o M, wB true A, wB true B, wB true [0, 17], wB true C, g1, g2, g3, ⟨true, 24, .sl 1 0 4 4 :: .sl 2 0 4 4 :: .sl 3 0 2 2 :: .sl 4 0 2 2 :: .sl 0 0 n c :: List.replicate r nilR⟩]) := by
    refine spec_of_X cx_ok Try.func21 rfl (by kernel_rfl) (by kernel_rfl) (Nat.le_of_ble_eq_true rfl) 400 8 ?_
    simp (maxSteps := 4000000) only [Try.results21, XX, Nat.reduceBEq, Nat.reduceLT, Nat.reduceAdd, Nat.reduceMul, Nat.reduceSub, Nat.reduceLeDiff, Nat.reduceEqDiff, Int.reduceToNat, Int.reduceLT, Int.reduceLE, Int.reduceAdd, Int.reduceSub, Int.reduceEq, reduceIte, Nat.reduceBNe, Int.reducePow, Nat.reducePow, Int.reduceMul, Int.reduceNeg, isB_i, isB_b, isB_y, isBv_i, isBv_b, eqCells_t, TT]
    simp (maxSteps := 4000000) only [Try.results21, e1, XX, Nat.reduceBEq, Nat.reduceLT, Nat.reduceAdd, Nat.reduceMul, Nat.reduceSub, Nat.reduceLeDiff, Nat.reduceEqDiff, Int.reduceToNat, Int.reduceLT, Int.reduceLE, Int.reduceAdd, Int.reduceSub, Int.reduceEq, reduceIte, Nat.reduceBNe, Int.reducePow, Nat.reducePow, Int.reduceMul, Int.reduceNeg, isB_i, isB_b, isB_y, isBv_i, isBv_b, eqCells_t, TT]
    refine call_frame (p1) [] rfl rfl trivial rfl rfl ?_
    rintro _ _ ⟨rfl, rfl⟩
    simp (maxSteps := 4000000) only [Try.results21, ids_bsC, ren_bsC, noRo_bsC, plain_bsC, lt_bsC, ids_byte, ren_byte, noRo_byte, plain_byte, lt_byte, XX, Nat.reduceBEq, Nat.reduceLT, Nat.reduceAdd, Nat.reduceMul, Nat.reduceSub, Nat.reduceLeDiff, Nat.reduceEqDiff, Int.reduceToNat, Int.reduceLT, Int.reduceLE, Int.reduceAdd, Int.reduceSub, Int.reduceEq, reduceIte, Nat.reduceBNe, Int.reducePow, Nat.reducePow, Int.reduceMul, Int.reduceNeg, isB_i, isB_b, isB_y, isBv_i, isBv_b, eqCells_t, TT]
    simp (maxSteps := 4000000) only [Try.results21, e2, XX, Nat.reduceBEq, Nat.reduceLT, Nat.reduceAdd, Nat.reduceMul, Nat.reduceSub, Nat.reduceLeDiff, Nat.reduceEqDiff, Int.reduceToNat, Int.reduceLT, Int.reduceLE, Int.reduceAdd, Int.reduceSub, Int.reduceEq, reduceIte, Nat.reduceBNe, Int.reducePow, Nat.reducePow, Int.reduceMul, Int.reduceNeg, isB_i, isB_b, isB_y, isBv_i, isBv_b, eqCells_t, TT]
    refine call_frame (p2) [] rfl rfl trivial rfl rfl ?_
    rintro _ _ ⟨rfl, rfl⟩
    simp (maxSteps := 4000000) only [Try.results21, ids_bsC, ren_bsC, noRo_bsC, plain_bsC, lt_bsC, ids_byte, ren_byte, noRo_byte, plain_byte, lt_byte, XX, Nat.reduceBEq, Nat.reduceLT, Nat.reduceAdd, Nat.reduceMul, Nat.reduceSub, Nat.reduceLeDiff, Nat.reduceEqDiff, Int.reduceToNat, Int.reduceLT, Int.reduceLE, Int.reduceAdd, Int.reduceSub, Int.reduceEq, reduceIte, Nat.reduceBNe, Int.reducePow, Nat.reducePow, Int.reduceMul, Int.reduceNeg, isB_i, isB_b, isB_y, isBv_i, isBv_b, eqCells_t, TT]
    simp (maxSteps := 4000000) only [Try.results21, e3, List.replicate_succ, List.replicate_zero, List.flatten_cons, List.flatten_nil, XX, Nat.reduceBEq, Nat.reduceLT, Nat.reduceAdd, Nat.reduceMul, Nat.reduceSub, Nat.reduceLeDiff, Nat.reduceEqDiff, Int.reduceToNat, Int.reduceLT, Int.reduceLE, Int.reduceAdd, Int.reduceSub, Int.reduceEq, reduceIte, Nat.reduceBNe, Int.reducePow, Nat.reducePow, Int.reduceMul, Int.reduceNeg, isB_i, isB_b, isB_y, isBv_i, isBv_b, eqCells_t, TT]
    refine call_frame (p3) [] rfl rfl trivial rfl rfl ?_
    rintro _ _ ⟨rfl, rfl⟩
    simp (maxSteps := 4000000) only [Try.results21, ids_bsC, ren_bsC, noRo_bsC, plain_bsC, lt_bsC, ids_byte, ren_byte, noRo_byte, plain_byte, lt_byte, XX, Nat.reduceBEq, Nat.reduceLT, Nat.reduceAdd, Nat.reduceMul, Nat.reduceSub, Nat.reduceLeDiff, Nat.reduceEqDiff, Int.reduceToNat, Int.reduceLT, Int.reduceLE, Int.reduceAdd, Int.reduceSub, Int.reduceEq, reduceIte, Nat.reduceBNe, Int.reducePow, Nat.reducePow, Int.reduceMul, Int.reduceNeg, isB_i, isB_b, isB_y, isBv_i, isBv_b, eqCells_t, TT]
    simp (maxSteps := 4000000) only [Try.results21, List.replicate_succ, List.replicate_zero, List.flatten_cons, List.flatten_nil, XX, Nat.reduceBEq, Nat.reduceLT, Nat.reduceAdd, Nat.reduceMul, Nat.reduceSub, Nat.reduceLeDiff, Nat.reduceEqDiff, Int.reduceToNat, Int.reduceLT, Int.reduceLE, Int.reduceAdd, Int.reduceSub, Int.reduceEq, reduceIte, Nat.reduceBNe, Int.reducePow, Nat.reducePow, Int.reduceMul, Int.reduceNeg, isB_i, isB_b, isB_y, isBv_i, isBv_b, eqCells_t, TT]
    refine ⟨by unfold maxLen; omega, xapp_grow (by omega) fun c1 hc1 _ => ?_⟩
    simp (maxSteps := 4000000) only [Try.results21, List.replicate_succ, List.replicate_zero, List.flatten_cons, List.flatten_nil, rep_flat, b0, XX, Nat.reduceBEq, Nat.reduceLT, Nat.reduceAdd, Nat.reduceMul, Nat.reduceSub, Nat.reduceLeDiff, Nat.reduceEqDiff, Int.reduceToNat, Int.reduceLT, Int.reduceLE, Int.reduceAdd, Int.reduceSub, Int.reduceEq, reduceIte, Nat.reduceBNe, Int.reducePow, Nat.reducePow, Int.reduceMul, Int.reduceNeg, isB_i, isB_b, isB_y, isBv_i, isBv_b, eqCells_t, TT]
    refine ⟨⟨by unfold maxLen; omega, fun h => by simp; omega⟩, xapp_both (fun hr => ?_) (fun hg c2 hc2 _ => ?_)⟩
    · obtain ⟨r, rfl⟩ := Nat.exists_eq_add_of_le hr
      have q : 5 + r - 4 - 1 = r := by omega
      simp (maxSteps := 4000000) only [Try.results21, List.drop_replicate, q, XX, Nat.reduceBEq, Nat.reduceLT, Nat.reduceAdd, Nat.reduceMul, Nat.reduceSub, Nat.reduceLeDiff, Nat.reduceEqDiff, Int.reduceToNat, Int.reduceLT, Int.reduceLE, Int.reduceAdd, Int.reduceSub, Int.reduceEq, reduceIte, Nat.reduceBNe, Int.reducePow, Nat.reducePow, Int.reduceMul, Int.reduceNeg, isB_i, isB_b, isB_y, isBv_i, isBv_b, eqCells_t, TT]
      exact ⟨r, .inl ⟨_, _, rfl, rfl⟩⟩
    · obtain ⟨r, rfl⟩ := Nat.exists_eq_add_of_le hc2
      simp (maxSteps := 4000000) only [Try.results21, Nat.add_sub_cancel_left, XX, Nat.reduceBEq, Nat.reduceLT, Nat.reduceAdd, Nat.reduceMul, Nat.reduceSub, Nat.reduceLeDiff, Nat.reduceEqDiff, Int.reduceToNat, Int.reduceLT, Int.reduceLE, Int.reduceAdd, Int.reduceSub, Int.reduceEq, reduceIte, Nat.reduceBNe, Int.reducePow, Nat.reducePow, Int.reduceMul, Int.reduceNeg, isB_i, isB_b, isB_y, isBv_i, isBv_b, eqCells_t, TT]
      exact ⟨r, .inr ⟨_, _, _, rfl, rfl⟩⟩
  refine key.wk fun t h' ⟨r, h⟩ => ?_
  rcases h with ⟨g1, g2, rfl, rfl⟩ | ⟨g1, g2, g3, rfl, rfl⟩
  · exact ⟨.c (.sl 5 0 5 (5 + r)), _, [some 0, some 1, some 2, some 3, some 4, some 6], rfl, by simp only [XX, Nat.reduceBEq, Nat.reduceLT, Nat.reduceAdd, Nat.reduceMul, Nat.reduceSub, Nat.reduceLeDiff, Nat.reduceEqDiff, Int.reduceToNat, Int.reduceLT, Int.reduceLE, Int.reduceAdd, Int.reduceSub, Int.reduceEq, reduceIte, Nat.reduceBNe, Int.reducePow, Nat.reducePow, Int.reduceMul, Int.reduceNeg, isB_i, isB_b, isB_y, isBv_i, isBv_b, eqCells_t, TT, ids_bsC, ren_bsC, noRo_bsC, plain_bsC, lt_bsC, ids_byte, ren_byte, noRo_byte, plain_byte, lt_byte, ids_nilR, ren_nilR], by simp only [XX, Nat.reduceBEq, Nat.reduceLT, Nat.reduceAdd, Nat.reduceMul, Nat.reduceSub, Nat.reduceLeDiff, Nat.reduceEqDiff, Int.reduceToNat, Int.reduceLT, Int.reduceLE, Int.reduceAdd, Int.reduceSub, Int.reduceEq, reduceIte, Nat.reduceBNe, Int.reducePow, Nat.reducePow, Int.reduceMul, Int.reduceNeg, isB_i, isB_b, isB_y, isBv_i, isBv_b, eqCells_t, TT, ids_bsC, ren_bsC, noRo_bsC, plain_bsC, lt_bsC, ids_byte, ren_byte, noRo_byte, plain_byte, lt_byte], r, rfl, rfl⟩
  · exact ⟨.c (.sl 5 0 5 (5 + r)), _, [some 0, some 1, some 2, some 3, some 4, some 8], rfl, by simp only [XX, Nat.reduceBEq, Nat.reduceLT, Nat.reduceAdd, Nat.reduceMul, Nat.reduceSub, Nat.reduceLeDiff, Nat.reduceEqDiff, Int.reduceToNat, Int.reduceLT, Int.reduceLE, Int.reduceAdd, Int.reduceSub, Int.reduceEq, reduceIte, Nat.reduceBNe, Int.reducePow, Nat.reducePow, Int.reduceMul, Int.reduceNeg, isB_i, isB_b, isB_y, isBv_i, isBv_b, eqCells_t, TT, ids_bsC, ren_bsC, noRo_bsC, plain_bsC, lt_bsC, ids_byte, ren_byte, noRo_byte, plain_byte, lt_byte, ids_nilR, ren_nilR], by simp only [XX, Nat.reduceBEq, Nat.reduceLT, Nat.reduceAdd, Nat.reduceMul, Nat.reduceSub, Nat.reduceLeDiff, Nat.reduceEqDiff, Int.reduceToNat, Int.reduceLT, Int.reduceLE, Int.reduceAdd, Int.reduceSub, Int.reduceEq, reduceIte, Nat.reduceBNe, Int.reducePow, Nat.reducePow, Int.reduceMul, Int.reduceNeg, isB_i, isB_b, isB_y, isBv_i, isBv_b, eqCells_t, TT, ids_bsC, ren_bsC, noRo_bsC, plain_bsC, lt_bsC, ids_byte, ren_byte, noRo_byte, plain_byte, lt_byte], r, rfl, rfl⟩

end Go.Proofs.Ytiefbdddjhigdaa.Sx
