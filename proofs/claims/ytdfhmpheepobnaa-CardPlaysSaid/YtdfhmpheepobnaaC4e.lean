/- The symbolic executor, at work: a few calls at a card. No condition. -/
import Derived.Test.YtdfhmpheepobnaaC4d
namespace Go.Proofs.Ytdfhmpheepobnaa.Sx
open Go
set_option linter.unusedSimpArgs false
set_option linter.unusedVariables false
set_option maxRecDepth 10000
set_option maxHeartbeats 2000000

theorem filled_spec (x : UInt8) (n : Nat) (hn : n ≤ 140737488355328) : Spec cx.P 20 [.c (.v (.int .u8 x.toNat)), .c (i64 n)] [] fun t h' => t = .c (.sl 0 0 n n) ∧ h' = [wB true (List.replicate n x)] := by
  refine spec_of_X cx_ok Try.func20 rfl (by kernel_rfl) (by kernel_rfl) (Nat.le_of_ble_eq_true rfl) 400 7 ?_
  simp (maxSteps := 4000000) only [Try.results20, XX, Nat.reduceBEq, Nat.reduceLT, Nat.reduceAdd, Nat.reduceMul, Nat.reduceSub, Nat.reduceLeDiff, Nat.reduceEqDiff, Int.reduceToNat, Int.reduceLT, Int.reduceLE, Int.reduceAdd, Int.reduceSub, Int.reduceEq, reduceIte, Nat.reduceBNe, Int.reducePow, Nat.reducePow, Int.reduceMul, Int.reduceNeg, isB_i, isB_b, isB_y, isBv_i, isBv_b, eqCells_t, TT]
  refine ⟨⟨by omega, by omega, by omega, by omega⟩, ?_⟩
  refine loop_of cx_ok 400 (fun μ σ => ∃ i, μ = n - i ∧ i ≤ n ∧
      σ = ⟨⟨7, 0⟩, [(0, .c (.v (.int .u8 x.toNat))), (1, .c (i64 n)), (4, .c (.v (.slice none 0 0))), (5, .c (.sl 0 0 n n)), (6, .c (i64 (i : Nat)))], [wB true (List.replicate i x ++ List.replicate (n - i) 0)]⟩) n ⟨⟨7, 0⟩, [(0, .c (.v (.int .u8 x.toNat))), (1, .c (i64 n)), (4, .c (.v (.slice none 0 0))), (5, .c (.sl 0 0 n n)), (6, .c (i64 (0 : Nat)))], [wB true (List.replicate 0 x ++ List.replicate (n - 0) 0)]⟩ ⟨0, by omega, Nat.zero_le _, rfl⟩ [some 0]
    ⟨rfl, rfl, by simp only [XX, Nat.reduceBEq, Nat.reduceLT, Nat.reduceAdd, Nat.reduceMul, Nat.reduceSub, Nat.reduceLeDiff, Nat.reduceEqDiff, Int.reduceToNat, Int.reduceLT, Int.reduceLE, Int.reduceAdd, Int.reduceSub, Int.reduceEq, reduceIte, Nat.reduceBNe, Int.reducePow, Nat.reducePow, Int.reduceMul, Int.reduceNeg, isB_i, isB_b, isB_y, isBv_i, isBv_b, eqCells_t, TT, ids_bsC, ren_bsC, noRo_bsC, plain_bsC, lt_bsC, ids_byte, ren_byte, noRo_byte, plain_byte, lt_byte, List.replicate_zero, List.nil_append, Nat.sub_zero, zeros_flat], by simp only [XX, Nat.reduceBEq, Nat.reduceLT, Nat.reduceAdd, Nat.reduceMul, Nat.reduceSub, Nat.reduceLeDiff, Nat.reduceEqDiff, Int.reduceToNat, Int.reduceLT, Int.reduceLE, Int.reduceAdd, Int.reduceSub, Int.reduceEq, reduceIte, Nat.reduceBNe, Int.reducePow, Nat.reducePow, Int.reduceMul, Int.reduceNeg, isB_i, isB_b, isB_y, isBv_i, isBv_b, eqCells_t, TT]⟩ ?_
  rintro μ σ ⟨i, rfl, hi, rfl⟩
  simp (maxSteps := 4000000) only [Try.results20, XX, Nat.reduceBEq, Nat.reduceLT, Nat.reduceAdd, Nat.reduceMul, Nat.reduceSub, Nat.reduceLeDiff, Nat.reduceEqDiff, Int.reduceToNat, Int.reduceLT, Int.reduceLE, Int.reduceAdd, Int.reduceSub, Int.reduceEq, reduceIte, Nat.reduceBNe, Int.reducePow, Nat.reducePow, Int.reduceMul, Int.reduceNeg, isB_i, isB_b, isB_y, isBv_i, isBv_b, eqCells_t, TT]
  by_cases hlt : i < n
  · have hd : decide ((i : Int) < (n : Int)) = true := by simp only [decide_eq_true_eq]; omega
    have e1 : IntKind.i64.wrap ((i : Int) + 1) = ((i + 1 : Nat) : Int) := by rw [w64] <;> omega
    have b3 : SC.v (.int .u8 x.toNat) = byteC x := rfl
    have st : (bsC (List.replicate i x ++ List.replicate (n - i) 0)).take i ++ [byteC x] ++ (bsC (List.replicate i x ++ List.replicate (n - i) 0)).drop (i + 1) = bsC (List.replicate (i + 1) x ++ List.replicate (n - (i + 1)) 0) := by
      rw [bs_take, bs_drop, List.take_left' (by simp), List.drop_append, List.drop_of_length_le (by simp), List.nil_append, List.length_replicate, show i + 1 - i = 1 by omega, List.drop_replicate, show n - i - 1 = n - (i + 1) by omega, List.replicate_succ', show [byteC x] = bsC [x] from rfl, bs_app, bs_app]
    simp (maxSteps := 4000000) only [Try.results20, hd, e1, b3, st, XX, Nat.reduceBEq, Nat.reduceLT, Nat.reduceAdd, Nat.reduceMul, Nat.reduceSub, Nat.reduceLeDiff, Nat.reduceEqDiff, Int.reduceToNat, Int.reduceLT, Int.reduceLE, Int.reduceAdd, Int.reduceSub, Int.reduceEq, reduceIte, Nat.reduceBNe, Int.reducePow, Nat.reducePow, Int.reduceMul, Int.reduceNeg, isB_i, isB_b, isB_y, isBv_i, isBv_b, eqCells_t, TT]
    refine ⟨⟨by omega, by omega⟩, by simp; omega, n - (i + 1), by omega, _, ⟨i + 1, rfl, by omega, rfl⟩, [some 0], ⟨rfl, rfl, ?_, ?_⟩⟩
    · simp only [XX, Nat.reduceBEq, Nat.reduceLT, Nat.reduceAdd, Nat.reduceMul, Nat.reduceSub, Nat.reduceLeDiff, Nat.reduceEqDiff, Int.reduceToNat, Int.reduceLT, Int.reduceLE, Int.reduceAdd, Int.reduceSub, Int.reduceEq, reduceIte, Nat.reduceBNe, Int.reducePow, Nat.reducePow, Int.reduceMul, Int.reduceNeg, isB_i, isB_b, isB_y, isBv_i, isBv_b, eqCells_t, TT, ids_bsC, ren_bsC, noRo_bsC, plain_bsC, lt_bsC, ids_byte, ren_byte, noRo_byte, plain_byte, lt_byte]
    · simp only [XX, Nat.reduceBEq, Nat.reduceLT, Nat.reduceAdd, Nat.reduceMul, Nat.reduceSub, Nat.reduceLeDiff, Nat.reduceEqDiff, Int.reduceToNat, Int.reduceLT, Int.reduceLE, Int.reduceAdd, Int.reduceSub, Int.reduceEq, reduceIte, Nat.reduceBNe, Int.reducePow, Nat.reducePow, Int.reduceMul, Int.reduceNeg, isB_i, isB_b, isB_y, isBv_i, isBv_b, eqCells_t, TT]
      exact .inl ⟨rfl, rfl⟩
  · have hd : decide ((i : Int) < (n : Int)) = false := by simp only [decide_eq_false_iff_not]; omega
    obtain rfl : i = n := by omega
    simp (maxSteps := 4000000) only [Try.results20, hd, XX, Nat.reduceBEq, Nat.reduceLT, Nat.reduceAdd, Nat.reduceMul, Nat.reduceSub, Nat.reduceLeDiff, Nat.reduceEqDiff, Int.reduceToNat, Int.reduceLT, Int.reduceLE, Int.reduceAdd, Int.reduceSub, Int.reduceEq, reduceIte, Nat.reduceBNe, Int.reducePow, Nat.reducePow, Int.reduceMul, Int.reduceNeg, isB_i, isB_b, isB_y, isBv_i, isBv_b, eqCells_t, TT]
    simp only [Nat.sub_self, List.replicate_zero, List.append_nil]

theorem fz_slo {ok : Nat → Bool} {r : Nat → Nat} {n : Nat} {h : List SB} {i o c m : Nat} {l sp : List UInt8} {b : SB} (hok : ok i = true) (hm : l.length = m) (hb : h[i]? = some b) (hv : b.void = false) (hc : b.cells.drop o = bsC (l ++ sp)) : frC true ok r n h (.sl i o m c) (roB l sp c) := by
  subst hm
  exact .inr ⟨rfl, .inl ⟨_, _, _, rfl, .inr (.inr ⟨i, o, rfl, .inr ⟨hok, b, hb, hv, by
    have := frL_bs (ok := ok) (h := h) [] (l ++ sp)
    rw [List.append_nil] at this
    rw [hc]; exact this⟩⟩)⟩⟩
theorem card_noRo (K : CK) : (K.h.all fun b => b.cells.all SC.noRo) = true := by
  simp only [XX, Nat.reduceBEq, Nat.reduceLT, Nat.reduceAdd, Nat.reduceMul, Nat.reduceSub, Nat.reduceLeDiff, Nat.reduceEqDiff, Int.reduceToNat, Int.reduceLT, Int.reduceLE, Int.reduceAdd, Int.reduceSub, Int.reduceEq, reduceIte, Nat.reduceBNe, Int.reducePow, Nat.reducePow, Int.reduceMul, Int.reduceNeg, isB_i, isB_b, isB_y, isBv_i, isBv_b, eqCells_t, TT, ids_bsC, ren_bsC, noRo_bsC, plain_bsC, lt_bsC, ids_byte, ren_byte, noRo_byte, plain_byte, lt_byte, slC_noRo]
theorem card_lt (K : CK) : (K.h.all fun b => b.cells.all (SC.lt K.h.length)) = true := by
  simp only [XX, Nat.reduceBEq, Nat.reduceLT, Nat.reduceAdd, Nat.reduceMul, Nat.reduceSub, Nat.reduceLeDiff, Nat.reduceEqDiff, Int.reduceToNat, Int.reduceLT, Int.reduceLE, Int.reduceAdd, Int.reduceSub, Int.reduceEq, reduceIte, Nat.reduceBNe, Int.reducePow, Nat.reducePow, Int.reduceMul, Int.reduceNeg, isB_i, isB_b, isB_y, isBv_i, isBv_b, eqCells_t, TT, ids_bsC, ren_bsC, noRo_bsC, plain_bsC, lt_bsC, ids_byte, ren_byte, noRo_byte, plain_byte, lt_byte, slC_lt]
  rfl

theorem live_spec : Spec cx.P 7 [] [] fun s _ => s.plain = true ∧ s = .c (bC true) := by
  have hN := new_spec 2 1 (by omega) (by omega) (by omega) (by omega)
  have ok0 := newK_ok (n := 2) (m := 1) (by omega) (by omega) (by omega) (by omega)
  rw [show newK 2 1 = ⟨[slT true, slT true], [slT false], 0, 0, 0, 0, 0⟩ from rfl] at hN ok0
  obtain ⟨A, hA, oA, kA⟩ : ∃ A, slT true = A ∧ A.own = true ∧ A.ok := ⟨_, rfl, rfl, rfl⟩
  obtain ⟨C, hC, oC, kC⟩ : ∃ A, slT false = A ∧ A.own = false ∧ A.ok := ⟨_, rfl, rfl, rfl⟩
  rw [hA, hC] at hN ok0
  clear hA hC
  have hL : (List.replicate 60 (1 : UInt8)).length = 60 := rfl
  have hF := filled_spec 1 60 (by omega)
  generalize List.replicate 60 (1 : UInt8) = F at *
  have a1 := fun sp c => arrive_spec _ ok0 A rfl oA [9] sp c (by decide) (by decide)
  obtain ⟨A1, hA1, oA1, dA1, kA1⟩ : ∃ s, (⟨false, [9], (A.d ++ A.j).drop ([9] : List UInt8).length⟩ : Sl) = s ∧ s.own = false ∧ s.d = [9] ∧ s.ok := ⟨_, rfl, rfl, rfl, by unfold Sl.ok at kA ⊢; simp; omega⟩
  dsimp only at a1
  rw [hA1] at a1
  have ok1 : (⟨[A1, A], [C], 1, 0, 1, 0, 0⟩ : CK).ok := ⟨by simp, by simp, by simp, by simp, by simp, by simp, by simp [kA, kA1], by simp [kC]⟩
  have a1 : ∀ sp c, Spec cx.P 12 [.c (.ptr 0 0), .c (roB [9] sp c)] (CK.h ⟨[A, A], [C], 0, 0, 0, 0, 0⟩) fun t h' => t = .c (bC true) ∧ h' = CK.h ⟨[A1, A], [C], 1, 0, 1, 0, 0⟩ := a1
  clear hA1
  have a2 := rx_spec _ ok1 0 A1 rfl
  have a3 := giveO_spec _ ok1 1 A rfl oA
  have a4 := fun sp c => lay_spec _ ok1 0 C rfl F sp c (by omega) (by omega) oC
  obtain ⟨C1, hC1, oC1, dC1, kC1⟩ : ∃ s, (⟨true, F, (C.d ++ C.j).drop F.length⟩ : Sl) = s ∧ s.own = true ∧ s.d = F ∧ s.ok := ⟨_, rfl, rfl, rfl, by unfold Sl.ok at kC ⊢; simp; omega⟩
  dsimp only at a4
  rw [hC1] at a4
  clear hC1
  have ok2 : (⟨[A1, A], [C1], 1, 0, 1, 0, 0⟩ : CK).ok := ⟨by simp, by simp, by simp, by simp, by simp, by simp, by simp [kA, kA1], by simp [kC1]⟩
  have a4 : ∀ sp c, Spec cx.P 15 [.c (.ptr 0 0), .c (i64 0), .c (roB F sp c)] (CK.h ⟨[A1, A], [C], 1, 0, 1, 0, 0⟩) fun t h' => t = .c (i64 0) ∧ h' = CK.h ⟨[A1, A], [C1], 1, 0, 1, 0, 0⟩ := a4
  have a5 := depart_spec _ ok2 C1 rfl oC1
  obtain ⟨C2, hC2, oC2, kC2⟩ : ∃ s, (⟨false, [], C1.d ++ C1.j⟩ : Sl) = s ∧ s.own = false ∧ s.ok := ⟨_, rfl, rfl, by unfold Sl.ok at kC1 ⊢; simp; omega⟩
  dsimp only at a5
  rw [hC2] at a5
  clear hC2
  have ok3 : (⟨[A1, A], [C2], 1, 0, 1, 0, 1⟩ : CK).ok := ⟨by simp, by simp, by simp, by simp, by simp, by simp, by simp [kA, kA1], by simp [kC2]⟩
  simp only [List.length_cons, List.length_nil, List.set_cons_zero, Nat.zero_add, Nat.mod_self] at a5
  have a5 : Spec cx.P 16 [.c (.ptr 0 0)] (CK.h ⟨[A1, A], [C1], 1, 0, 1, 0, 0⟩) fun t h' => t = .tup [(false, [.sl 3 0 C1.d.length C1.d.length]), (false, [bC true])] ∧ h' = CK.h ⟨[A1, A], [C2], 1, 0, 1, 0, 1⟩ ++ [wB true C1.d] := a5
  have a6 := departN_spec _ ok3 C2 rfl oC2
  have a7 := rings_spec ⟨[A1, A], [C2], 1, 0, 1, 0, 1⟩
  have a8 := counts_spec ⟨[A1, A], [C2], 1, 0, 1, 0, 1⟩
  rw [dA1] at a2
  rw [dC1] at a5
  refine spec_of_X cx_ok Try.func7 rfl (by kernel_rfl) (by kernel_rfl) (Nat.le_of_ble_eq_true rfl) 400 15 ?_
  simp (maxSteps := 4000000) only [Try.results7, XX, Nat.reduceBEq, Nat.reduceLT, Nat.reduceAdd, Nat.reduceMul, Nat.reduceSub, Nat.reduceLeDiff, Nat.reduceEqDiff, Int.reduceToNat, Int.reduceLT, Int.reduceLE, Int.reduceAdd, Int.reduceSub, Int.reduceEq, reduceIte, Nat.reduceBNe, Int.reducePow, Nat.reducePow, Int.reduceMul, Int.reduceNeg, isB_i, isB_b, isB_y, isBv_i, isBv_b, eqCells_t, TT]
  refine call_frame hN [] rfl rfl trivial rfl rfl ?_
  rintro _ _ ⟨rfl, rfl⟩
  simp (maxSteps := 4000000) only [Try.results7, ids_bsC, ren_bsC, noRo_bsC, plain_bsC, lt_bsC, ids_byte, ren_byte, noRo_byte, plain_byte, lt_byte, slC_ren, XX, Nat.reduceBEq, Nat.reduceLT, Nat.reduceAdd, Nat.reduceMul, Nat.reduceSub, Nat.reduceLeDiff, Nat.reduceEqDiff, Int.reduceToNat, Int.reduceLT, Int.reduceLE, Int.reduceAdd, Int.reduceSub, Int.reduceEq, reduceIte, Nat.reduceBNe, Int.reducePow, Nat.reducePow, Int.reduceMul, Int.reduceNeg, isB_i, isB_b, isB_y, isBv_i, isBv_b, eqCells_t, TT]
  refine call_fz [.c (.v (.int .u8 1)), .c (i64 60)] hF (fun t h' h => by obtain ⟨rfl, rfl⟩ := h; exact ⟨rfl, by simp only [XX, Nat.reduceBEq, Nat.reduceLT, Nat.reduceAdd, Nat.reduceMul, Nat.reduceSub, Nat.reduceLeDiff, Nat.reduceEqDiff, Int.reduceToNat, Int.reduceLT, Int.reduceLE, Int.reduceAdd, Int.reduceSub, Int.reduceEq, reduceIte, Nat.reduceBNe, Int.reducePow, Nat.reducePow, Int.reduceMul, Int.reduceNeg, isB_i, isB_b, isB_y, isBv_i, isBv_b, eqCells_t, TT, ids_bsC, ren_bsC, noRo_bsC, plain_bsC, lt_bsC, ids_byte, ren_byte, noRo_byte, plain_byte, lt_byte]⟩) ⟨.inl ⟨rfl, rfl⟩, .inl ⟨rfl, rfl⟩, trivial⟩ ?_
  rintro _ _ ⟨rfl, rfl⟩
  simp (maxSteps := 4000000) only [Try.results7, ids_bsC, ren_bsC, noRo_bsC, plain_bsC, lt_bsC, ids_byte, ren_byte, noRo_byte, plain_byte, lt_byte, XX, Nat.reduceBEq, Nat.reduceLT, Nat.reduceAdd, Nat.reduceMul, Nat.reduceSub, Nat.reduceLeDiff, Nat.reduceEqDiff, Int.reduceToNat, Int.reduceLT, Int.reduceLE, Int.reduceAdd, Int.reduceSub, Int.reduceEq, reduceIte, Nat.reduceBNe, Int.reducePow, Nat.reducePow, Int.reduceMul, Int.reduceNeg, isB_i, isB_b, isB_y, isBv_i, isBv_b, eqCells_t, TT]
  simp only [List.replicate_succ, List.replicate_zero, List.flatten_cons, List.flatten_nil, List.cons_append, List.nil_append, List.drop_succ_cons, List.drop_zero, List.length_cons, List.length_nil, Nat.reduceAdd, Nat.reduceLeDiff, reduceIte]
  simp (maxSteps := 4000000) only [Try.results7, XX, Nat.reduceBEq, Nat.reduceLT, Nat.reduceAdd, Nat.reduceMul, Nat.reduceSub, Nat.reduceLeDiff, Nat.reduceEqDiff, Int.reduceToNat, Int.reduceLT, Int.reduceLE, Int.reduceAdd, Int.reduceSub, Int.reduceEq, reduceIte, Nat.reduceBNe, Int.reducePow, Nat.reducePow, Int.reduceMul, Int.reduceNeg, isB_i, isB_b, isB_y, isBv_i, isBv_b, eqCells_t, TT]
  refine call_fr (a1 [] 1) true (fun _ t h' h => by obtain ⟨rfl, rfl⟩ := h; exact ⟨rfl, card_noRo _⟩) [0, 1, 2] ⟨.inl ⟨rfl, rfl⟩, fz_c (fz_slo (l := [9]) (sp := []) rfl rfl rfl rfl rfl), trivial⟩ rfl ?_ (card_lt _) ?_
  · simp only [XX, Nat.reduceBEq, Nat.reduceLT, Nat.reduceAdd, Nat.reduceMul, Nat.reduceSub, Nat.reduceLeDiff, Nat.reduceEqDiff, Int.reduceToNat, Int.reduceLT, Int.reduceLE, Int.reduceAdd, Int.reduceSub, Int.reduceEq, reduceIte, Nat.reduceBNe, Int.reducePow, Nat.reducePow, Int.reduceMul, Int.reduceNeg, isB_i, isB_b, isB_y, isBv_i, isBv_b, eqCells_t, TT, preOk, ids_bsC, ren_bsC, noRo_bsC, plain_bsC, lt_bsC, ids_byte, ren_byte, noRo_byte, plain_byte, lt_byte, slC_ren, List.length_cons, List.length_nil]
  rintro _ _ ⟨rfl, rfl⟩
  simp (maxSteps := 4000000) only [Try.results7, ids_bsC, ren_bsC, noRo_bsC, plain_bsC, lt_bsC, ids_byte, ren_byte, noRo_byte, plain_byte, lt_byte, slC_ren, XX, Nat.reduceBEq, Nat.reduceLT, Nat.reduceAdd, Nat.reduceMul, Nat.reduceSub, Nat.reduceLeDiff, Nat.reduceEqDiff, Int.reduceToNat, Int.reduceLT, Int.reduceLE, Int.reduceAdd, Int.reduceSub, Int.reduceEq, reduceIte, Nat.reduceBNe, Int.reducePow, Nat.reducePow, Int.reduceMul, Int.reduceNeg, isB_i, isB_b, isB_y, isBv_i, isBv_b, eqCells_t, TT]
  refine call_frame a2 [0, 1, 2] rfl rfl ?_ rfl (card_lt _) ?_
  · simp only [XX, Nat.reduceBEq, Nat.reduceLT, Nat.reduceAdd, Nat.reduceMul, Nat.reduceSub, Nat.reduceLeDiff, Nat.reduceEqDiff, Int.reduceToNat, Int.reduceLT, Int.reduceLE, Int.reduceAdd, Int.reduceSub, Int.reduceEq, reduceIte, Nat.reduceBNe, Int.reducePow, Nat.reducePow, Int.reduceMul, Int.reduceNeg, isB_i, isB_b, isB_y, isBv_i, isBv_b, eqCells_t, TT, preOk, ids_bsC, ren_bsC, noRo_bsC, plain_bsC, lt_bsC, ids_byte, ren_byte, noRo_byte, plain_byte, lt_byte, slC_ren, List.length_cons, List.length_nil]
  rintro _ _ ⟨rfl, rfl⟩
  simp (maxSteps := 4000000) only [Try.results7, ids_bsC, ren_bsC, noRo_bsC, plain_bsC, lt_bsC, ids_byte, ren_byte, noRo_byte, plain_byte, lt_byte, slC_ren, XX, Nat.reduceBEq, Nat.reduceLT, Nat.reduceAdd, Nat.reduceMul, Nat.reduceSub, Nat.reduceLeDiff, Nat.reduceEqDiff, Int.reduceToNat, Int.reduceLT, Int.reduceLE, Int.reduceAdd, Int.reduceSub, Int.reduceEq, reduceIte, Nat.reduceBNe, Int.reducePow, Nat.reducePow, Int.reduceMul, Int.reduceNeg, isB_i, isB_b, isB_y, isBv_i, isBv_b, eqCells_t, TT]
  refine call_frame a3 [0, 1, 2] rfl rfl ?_ rfl (card_lt _) ?_
  · simp only [XX, Nat.reduceBEq, Nat.reduceLT, Nat.reduceAdd, Nat.reduceMul, Nat.reduceSub, Nat.reduceLeDiff, Nat.reduceEqDiff, Int.reduceToNat, Int.reduceLT, Int.reduceLE, Int.reduceAdd, Int.reduceSub, Int.reduceEq, reduceIte, Nat.reduceBNe, Int.reducePow, Nat.reducePow, Int.reduceMul, Int.reduceNeg, isB_i, isB_b, isB_y, isBv_i, isBv_b, eqCells_t, TT, preOk, ids_bsC, ren_bsC, noRo_bsC, plain_bsC, lt_bsC, ids_byte, ren_byte, noRo_byte, plain_byte, lt_byte, slC_ren, List.length_cons, List.length_nil]
  rintro _ _ ⟨rfl, rfl⟩
  simp (maxSteps := 4000000) only [Try.results7, ids_bsC, ren_bsC, noRo_bsC, plain_bsC, lt_bsC, ids_byte, ren_byte, noRo_byte, plain_byte, lt_byte, slC_ren, XX, Nat.reduceBEq, Nat.reduceLT, Nat.reduceAdd, Nat.reduceMul, Nat.reduceSub, Nat.reduceLeDiff, Nat.reduceEqDiff, Int.reduceToNat, Int.reduceLT, Int.reduceLE, Int.reduceAdd, Int.reduceSub, Int.reduceEq, reduceIte, Nat.reduceBNe, Int.reducePow, Nat.reducePow, Int.reduceMul, Int.reduceNeg, isB_i, isB_b, isB_y, isBv_i, isBv_b, eqCells_t, TT]
  refine call_fr (a4 [] 60) true (fun _ t h' h => by obtain ⟨rfl, rfl⟩ := h; exact ⟨rfl, card_noRo _⟩) [0, 1, 2] ⟨.inl ⟨rfl, rfl⟩, .inl ⟨rfl, rfl⟩, fz_c (fz_slo (l := F) (sp := []) rfl hL rfl rfl (by rw [List.append_nil]; rfl)), trivial⟩ rfl ?_ (card_lt _) ?_
  · simp only [XX, Nat.reduceBEq, Nat.reduceLT, Nat.reduceAdd, Nat.reduceMul, Nat.reduceSub, Nat.reduceLeDiff, Nat.reduceEqDiff, Int.reduceToNat, Int.reduceLT, Int.reduceLE, Int.reduceAdd, Int.reduceSub, Int.reduceEq, reduceIte, Nat.reduceBNe, Int.reducePow, Nat.reducePow, Int.reduceMul, Int.reduceNeg, isB_i, isB_b, isB_y, isBv_i, isBv_b, eqCells_t, TT, preOk, ids_bsC, ren_bsC, noRo_bsC, plain_bsC, lt_bsC, ids_byte, ren_byte, noRo_byte, plain_byte, lt_byte, slC_ren, List.length_cons, List.length_nil]
  rintro _ _ ⟨rfl, rfl⟩
  simp (maxSteps := 4000000) only [Try.results7, ids_bsC, ren_bsC, noRo_bsC, plain_bsC, lt_bsC, ids_byte, ren_byte, noRo_byte, plain_byte, lt_byte, slC_ren, XX, Nat.reduceBEq, Nat.reduceLT, Nat.reduceAdd, Nat.reduceMul, Nat.reduceSub, Nat.reduceLeDiff, Nat.reduceEqDiff, Int.reduceToNat, Int.reduceLT, Int.reduceLE, Int.reduceAdd, Int.reduceSub, Int.reduceEq, reduceIte, Nat.reduceBNe, Int.reducePow, Nat.reducePow, Int.reduceMul, Int.reduceNeg, isB_i, isB_b, isB_y, isBv_i, isBv_b, eqCells_t, TT]
  refine call_frame a5 [0, 1, 2] rfl rfl ?_ rfl (card_lt _) ?_
  · simp only [XX, Nat.reduceBEq, Nat.reduceLT, Nat.reduceAdd, Nat.reduceMul, Nat.reduceSub, Nat.reduceLeDiff, Nat.reduceEqDiff, Int.reduceToNat, Int.reduceLT, Int.reduceLE, Int.reduceAdd, Int.reduceSub, Int.reduceEq, reduceIte, Nat.reduceBNe, Int.reducePow, Nat.reducePow, Int.reduceMul, Int.reduceNeg, isB_i, isB_b, isB_y, isBv_i, isBv_b, eqCells_t, TT, preOk, ids_bsC, ren_bsC, noRo_bsC, plain_bsC, lt_bsC, ids_byte, ren_byte, noRo_byte, plain_byte, lt_byte, slC_ren, List.length_cons, List.length_nil]
  rintro _ _ ⟨rfl, rfl⟩
  simp (maxSteps := 4000000) only [Try.results7, ids_bsC, ren_bsC, noRo_bsC, plain_bsC, lt_bsC, ids_byte, ren_byte, noRo_byte, plain_byte, lt_byte, slC_ren, XX, Nat.reduceBEq, Nat.reduceLT, Nat.reduceAdd, Nat.reduceMul, Nat.reduceSub, Nat.reduceLeDiff, Nat.reduceEqDiff, Int.reduceToNat, Int.reduceLT, Int.reduceLE, Int.reduceAdd, Int.reduceSub, Int.reduceEq, reduceIte, Nat.reduceBNe, Int.reducePow, Nat.reducePow, Int.reduceMul, Int.reduceNeg, isB_i, isB_b, isB_y, isBv_i, isBv_b, eqCells_t, TT]
  refine call_frame a6 [0, 1, 2] rfl rfl ?_ rfl (card_lt _) ?_
  · simp only [XX, Nat.reduceBEq, Nat.reduceLT, Nat.reduceAdd, Nat.reduceMul, Nat.reduceSub, Nat.reduceLeDiff, Nat.reduceEqDiff, Int.reduceToNat, Int.reduceLT, Int.reduceLE, Int.reduceAdd, Int.reduceSub, Int.reduceEq, reduceIte, Nat.reduceBNe, Int.reducePow, Nat.reducePow, Int.reduceMul, Int.reduceNeg, isB_i, isB_b, isB_y, isBv_i, isBv_b, eqCells_t, TT, preOk, ids_bsC, ren_bsC, noRo_bsC, plain_bsC, lt_bsC, ids_byte, ren_byte, noRo_byte, plain_byte, lt_byte, slC_ren, List.length_cons, List.length_nil]
  rintro _ _ ⟨rfl, rfl⟩
  simp (maxSteps := 4000000) only [Try.results7, ids_bsC, ren_bsC, noRo_bsC, plain_bsC, lt_bsC, ids_byte, ren_byte, noRo_byte, plain_byte, lt_byte, slC_ren, XX, Nat.reduceBEq, Nat.reduceLT, Nat.reduceAdd, Nat.reduceMul, Nat.reduceSub, Nat.reduceLeDiff, Nat.reduceEqDiff, Int.reduceToNat, Int.reduceLT, Int.reduceLE, Int.reduceAdd, Int.reduceSub, Int.reduceEq, reduceIte, Nat.reduceBNe, Int.reducePow, Nat.reducePow, Int.reduceMul, Int.reduceNeg, isB_i, isB_b, isB_y, isBv_i, isBv_b, eqCells_t, TT]
  refine call_frame a7 [0, 1, 2] rfl rfl ?_ rfl (card_lt _) ?_
  · simp only [XX, Nat.reduceBEq, Nat.reduceLT, Nat.reduceAdd, Nat.reduceMul, Nat.reduceSub, Nat.reduceLeDiff, Nat.reduceEqDiff, Int.reduceToNat, Int.reduceLT, Int.reduceLE, Int.reduceAdd, Int.reduceSub, Int.reduceEq, reduceIte, Nat.reduceBNe, Int.reducePow, Nat.reducePow, Int.reduceMul, Int.reduceNeg, isB_i, isB_b, isB_y, isBv_i, isBv_b, eqCells_t, TT, preOk, ids_bsC, ren_bsC, noRo_bsC, plain_bsC, lt_bsC, ids_byte, ren_byte, noRo_byte, plain_byte, lt_byte, slC_ren, List.length_cons, List.length_nil]
  rintro _ _ ⟨rfl, rfl⟩
  simp (maxSteps := 4000000) only [Try.results7, ids_bsC, ren_bsC, noRo_bsC, plain_bsC, lt_bsC, ids_byte, ren_byte, noRo_byte, plain_byte, lt_byte, slC_ren, XX, Nat.reduceBEq, Nat.reduceLT, Nat.reduceAdd, Nat.reduceMul, Nat.reduceSub, Nat.reduceLeDiff, Nat.reduceEqDiff, Int.reduceToNat, Int.reduceLT, Int.reduceLE, Int.reduceAdd, Int.reduceSub, Int.reduceEq, reduceIte, Nat.reduceBNe, Int.reducePow, Nat.reducePow, Int.reduceMul, Int.reduceNeg, isB_i, isB_b, isB_y, isBv_i, isBv_b, eqCells_t, TT]
  refine call_frame a8 [0, 1, 2] rfl rfl ?_ rfl (card_lt _) ?_
  · simp only [XX, Nat.reduceBEq, Nat.reduceLT, Nat.reduceAdd, Nat.reduceMul, Nat.reduceSub, Nat.reduceLeDiff, Nat.reduceEqDiff, Int.reduceToNat, Int.reduceLT, Int.reduceLE, Int.reduceAdd, Int.reduceSub, Int.reduceEq, reduceIte, Nat.reduceBNe, Int.reducePow, Nat.reducePow, Int.reduceMul, Int.reduceNeg, isB_i, isB_b, isB_y, isBv_i, isBv_b, eqCells_t, TT, preOk, ids_bsC, ren_bsC, noRo_bsC, plain_bsC, lt_bsC, ids_byte, ren_byte, noRo_byte, plain_byte, lt_byte, slC_ren, List.length_cons, List.length_nil]
  rintro _ _ ⟨rfl, rfl⟩
  have tF : (bsC F).take F.length = bsC F := List.take_of_length_le (by simp)
  have tF2 : (bsC F).take 60 = bsC F := List.take_of_length_le (by simp; omega)
  have b9 : byteC 9 = SC.v (.int .u8 9) := rfl
  simp (maxSteps := 4000000) only [Try.results7, ids_bsC, ren_bsC, noRo_bsC, plain_bsC, lt_bsC, ids_byte, ren_byte, noRo_byte, plain_byte, lt_byte, slC_ren, tF, tF2, strOf_bsC, str_eq, oA1, b9, hL, XX, Nat.reduceBEq, Nat.reduceLT, Nat.reduceAdd, Nat.reduceMul, Nat.reduceSub, Nat.reduceLeDiff, Nat.reduceEqDiff, Int.reduceToNat, Int.reduceLT, Int.reduceLE, Int.reduceAdd, Int.reduceSub, Int.reduceEq, reduceIte, Nat.reduceBNe, Int.reducePow, Nat.reducePow, Int.reduceMul, Int.reduceNeg, isB_i, isB_b, isB_y, isBv_i, isBv_b, eqCells_t, TT]
  exact ⟨by simp; omega, isByte_bsC F⟩

theorem cardNumbers_walk : ∀ css, RTyL (RTy T reachBytes DEPTH) [] css → Spec Try.prog 3 (svs T [] css) [] fun r _ => r = .c (.v (.bool true)) := by
  intro css h
  obtain rfl := RTyL_nil h
  simp only [svs]
  refine spec_of_X cx_ok Try.func3 rfl (by kernel_rfl) (by kernel_rfl) (Nat.le_of_ble_eq_true rfl) 400 2 ?_
  simp (maxSteps := 4000000) only [Try.results3, XX, Nat.reduceBEq, Nat.reduceLT, Nat.reduceAdd, Nat.reduceMul, Nat.reduceSub, Nat.reduceLeDiff, Nat.reduceEqDiff, Int.reduceToNat, Int.reduceLT, Int.reduceLE, Int.reduceAdd, Int.reduceSub, Int.reduceEq, reduceIte, Nat.reduceBNe, Int.reducePow, Nat.reducePow, Int.reduceMul, Int.reduceNeg, isB_i, isB_b, isB_y, isBv_i, isBv_b, eqCells_t, TT]
  refine call_plain (live_spec) rfl ?_
  rintro _ rfl
  simp (maxSteps := 4000000) only [Try.results3, XX, Nat.reduceBEq, Nat.reduceLT, Nat.reduceAdd, Nat.reduceMul, Nat.reduceSub, Nat.reduceLeDiff, Nat.reduceEqDiff, Int.reduceToNat, Int.reduceLT, Int.reduceLE, Int.reduceAdd, Int.reduceSub, Int.reduceEq, reduceIte, Nat.reduceBNe, Int.reducePow, Nat.reducePow, Int.reduceMul, Int.reduceNeg, isB_i, isB_b, isB_y, isBv_i, isBv_b, eqCells_t, TT]

end Go.Proofs.Ytdfhmpheepobnaa.Sx
