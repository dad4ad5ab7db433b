/- The symbolic executor, at work: questions for addresses, the first examples. No condition. -/
import Derived.Test.YtcihljikepielaaA8b
namespace Go.Proofs.Ytcihljikepielaa.Sx
open Go
set_option linter.unusedSimpArgs false
set_option linter.unusedVariables false
set_option maxRecDepth 10000
set_option maxHeartbeats 1000000

theorem enc_noRo {t : SV} {h' : List SB} {n : Nat} {l : List UInt8} (h : t = .tup [(false, [.sl 0 0 n n]), (false, [i64 0])] ∧ h' = [wB true l]) : t.noRo = true ∧ (h'.all fun b => b.cells.all SC.noRo) = true := by
  obtain ⟨rfl, rfl⟩ := h
  exact ⟨rfl, by simp only [XX, Nat.reduceBEq, Nat.reduceLT, Nat.reduceAdd, Nat.reduceMul, Nat.reduceSub, Nat.reduceLeDiff, Nat.reduceEqDiff, Int.reduceToNat, Int.reduceLT, Int.reduceLE, Int.reduceAdd, Int.reduceSub, Int.reduceEq, reduceIte, Nat.reduceBNe, Int.reducePow, Nat.reducePow, Int.reduceMul, Int.reduceNeg, isB_i, isB_b, isB_y, isBv_i, isBv_b, eqCells_t, TT, ids_bsC, ren_bsC, noRo_bsC, plain_bsC, lt_bsC, ids_byte, ren_byte, noRo_byte, plain_byte, lt_byte]⟩

theorem eqB {a b : UInt8} {xs ys : List SC} : eqCells (byteC a :: xs) (byteC b :: ys) = (eqCells xs ys).map (decide (a = b) && ·) := by
  have e : ((a.toNat : Int) = (b.toNat : Int)) ↔ a = b := by rw [Int.natCast_inj, UInt8.toNat_inj]
  simp only [eqCells, byteC, if_true, e]
theorem fz_nil {ok : Nat → Bool} {r : Nat → Nat} {n : Nat} {h : List SB} {sp : List UInt8} : frC true ok r n h (.v (.slice none 0 0)) (roB [] sp 0) :=
  .inr ⟨rfl, .inl ⟨_, _, _, rfl, .inr (.inl ⟨rfl, rfl, rfl⟩)⟩⟩

theorem live_spec : Spec cx.P 8 [] [] fun s _ => s.plain = true ∧ s = .c (bC true) := by
  refine spec_of_X cx_ok Try.func8 rfl (by kernel_rfl) (by kernel_rfl) (Nat.le_of_ble_eq_true rfl) 400 15 ?_
  simp (maxSteps := 4000000) only [Try.results8, XX, Nat.reduceBEq, Nat.reduceLT, Nat.reduceAdd, Nat.reduceMul, Nat.reduceSub, Nat.reduceLeDiff, Nat.reduceEqDiff, Int.reduceToNat, Int.reduceLT, Int.reduceLE, Int.reduceAdd, Int.reduceSub, Int.reduceEq, reduceIte, Nat.reduceBNe, Int.reducePow, Nat.reducePow, Int.reduceMul, Int.reduceNeg, isB_i, isB_b, isB_y, isBv_i, isBv_b, eqCells_t, TT]
  refine call_plain (ask_spec ⟨2, 0, 0, 0, 0, 10⟩ 167772170 167772161) rfl ?_
  rintro _ rfl
  simp (maxSteps := 4000000) only [Try.results8, XX, Nat.reduceBEq, Nat.reduceLT, Nat.reduceAdd, Nat.reduceMul, Nat.reduceSub, Nat.reduceLeDiff, Nat.reduceEqDiff, Int.reduceToNat, Int.reduceLT, Int.reduceLE, Int.reduceAdd, Int.reduceSub, Int.reduceEq, reduceIte, Nat.reduceBNe, Int.reducePow, Nat.reducePow, Int.reduceMul, Int.reduceNeg, isB_i, isB_b, isB_y, isBv_i, isBv_b, eqCells_t, TT]
  refine call_frame (enc_spec 1 1 ⟨2, 0, 0, 0, 0, 10⟩ 167772170 .nul 167772161 (.inl ⟨rfl, rfl⟩) (by omega) (by omega)) [] rfl rfl trivial rfl rfl ?_
  rintro _ _ ⟨rfl, rfl⟩
  simp (maxSteps := 4000000) only [Try.results8, ids_bsC, ren_bsC, noRo_bsC, plain_bsC, lt_bsC, ids_byte, ren_byte, noRo_byte, plain_byte, lt_byte, XX, Nat.reduceBEq, Nat.reduceLT, Nat.reduceAdd, Nat.reduceMul, Nat.reduceSub, Nat.reduceLeDiff, Nat.reduceEqDiff, Int.reduceToNat, Int.reduceLT, Int.reduceLE, Int.reduceAdd, Int.reduceSub, Int.reduceEq, reduceIte, Nat.reduceBNe, Int.reducePow, Nat.reducePow, Int.reduceMul, Int.reduceNeg, isB_i, isB_b, isB_y, isBv_i, isBv_b, eqCells_t, TT]
  generalize hL : arpL 1 ⟨2, 0, 0, 0, 0, 10⟩ 167772170 .nul 167772161 = L at *
  have n28 : L.length = 28 := by rw [← hL]; rfl
  have tk : (bsC L).take 28 = bsC L := List.take_of_length_le (by simp; omega)
  have z0 : SC.v (.int .u8 0) = byteC 0 := rfl
  have r2 : (List.replicate 2 [SC.v (.int .u8 0)]).flatten = [SC.v (.int .u8 0), SC.v (.int .u8 0)] := rfl
  simp (maxSteps := 4000000) only [Try.results8, r2, tk, XX, Nat.reduceBEq, Nat.reduceLT, Nat.reduceAdd, Nat.reduceMul, Nat.reduceSub, Nat.reduceLeDiff, Nat.reduceEqDiff, Int.reduceToNat, Int.reduceLT, Int.reduceLE, Int.reduceAdd, Int.reduceSub, Int.reduceEq, reduceIte, Nat.reduceBNe, Int.reducePow, Nat.reducePow, Int.reduceMul, Int.reduceNeg, isB_i, isB_b, isB_y, isBv_i, isBv_b, eqCells_t, TT]
  refine ⟨⟨by unfold maxLen; omega, by simp; omega⟩, xapp_grow (by omega) fun c' h1 _ => ?_⟩
  obtain ⟨r, rfl⟩ := Nat.exists_eq_add_of_le h1
  simp (maxSteps := 4000000) only [Try.results8, Nat.add_sub_cancel_left, zeros_flat, XX, Nat.reduceBEq, Nat.reduceLT, Nat.reduceAdd, Nat.reduceMul, Nat.reduceSub, Nat.reduceLeDiff, Nat.reduceEqDiff, Int.reduceToNat, Int.reduceLT, Int.reduceLE, Int.reduceAdd, Int.reduceSub, Int.reduceEq, reduceIte, Nat.reduceBNe, Int.reducePow, Nat.reducePow, Int.reduceMul, Int.reduceNeg, isB_i, isB_b, isB_y, isBv_i, isBv_b, eqCells_t, TT]
  refine call_pureF [.c (roB (L ++ [0, 0]) (List.replicate r 0) (30 + r))] (dec_spec ⟨⟨0, 1, 8, 0, 6, 4⟩, 0, 1, ⟨2, 0, 0, 0, 0, 10⟩, 10, 0, 0, 10, .nul, 10, 0, 0, 1⟩ [0, 0] (L ++ [0, 0]) (List.replicate r 0) (by rw [← hL]; rfl) (30 + r) (by simp; omega) (by simp; omega)) ?_ ?_
  · exact ⟨fz_c (fz_sl' (by simp; omega) rfl rfl (by simp [bsC, byteC])), trivial⟩
  rintro _ rfl
  have hres : A28.res ⟨⟨0, 1, 8, 0, 6, 4⟩, 0, 1, ⟨2, 0, 0, 0, 0, 10⟩, 10, 0, 0, 10, .nul, 10, 0, 0, 1⟩ = .tup [(true, arpC 1 ⟨2, 0, 0, 0, 0, 10⟩ 167772170 .nul 167772161), (false, [i64 0])] := rfl
  rw [hres]
  simp (maxSteps := 4000000) only [Try.results8, XX, Nat.reduceBEq, Nat.reduceLT, Nat.reduceAdd, Nat.reduceMul, Nat.reduceSub, Nat.reduceLeDiff, Nat.reduceEqDiff, Int.reduceToNat, Int.reduceLT, Int.reduceLE, Int.reduceAdd, Int.reduceSub, Int.reduceEq, reduceIte, Nat.reduceBNe, Int.reducePow, Nat.reducePow, Int.reduceMul, Int.reduceNeg, isB_i, isB_b, isB_y, isBv_i, isBv_b, eqCells_t, TT]
  refine call_plain (tell_spec ⟨2, 0, 0, 0, 0, 11⟩ 1 ⟨2, 0, 0, 0, 0, 10⟩ 167772170 .nul 167772161) rfl ?_
  rintro _ rfl
  simp (maxSteps := 4000000) only [Try.results8, XX, Nat.reduceBEq, Nat.reduceLT, Nat.reduceAdd, Nat.reduceMul, Nat.reduceSub, Nat.reduceLeDiff, Nat.reduceEqDiff, Int.reduceToNat, Int.reduceLT, Int.reduceLE, Int.reduceAdd, Int.reduceSub, Int.reduceEq, reduceIte, Nat.reduceBNe, Int.reducePow, Nat.reducePow, Int.reduceMul, Int.reduceNeg, isB_i, isB_b, isB_y, isBv_i, isBv_b, eqCells_t, TT]
  refine call_plain (enc_bad 3 .nul 0 .nul 0 (by decide) (by decide)) rfl ?_
  rintro _ rfl
  simp (maxSteps := 4000000) only [Try.results8, XX, Nat.reduceBEq, Nat.reduceLT, Nat.reduceAdd, Nat.reduceMul, Nat.reduceSub, Nat.reduceLeDiff, Nat.reduceEqDiff, Int.reduceToNat, Int.reduceLT, Int.reduceLE, Int.reduceAdd, Int.reduceSub, Int.reduceEq, reduceIte, Nat.reduceBNe, Int.reducePow, Nat.reducePow, Int.reduceMul, Int.reduceNeg, isB_i, isB_b, isB_y, isBv_i, isBv_b, eqCells_t, TT]
  refine call_pureF [.c (roB [] [] 0)] (dec_short [] [] 0 (by decide)) ⟨fz_c fz_nil, trivial⟩ ?_
  rintro _ rfl
  simp (maxSteps := 4000000) only [Try.results8, XX, Nat.reduceBEq, Nat.reduceLT, Nat.reduceAdd, Nat.reduceMul, Nat.reduceSub, Nat.reduceLeDiff, Nat.reduceEqDiff, Int.reduceToNat, Int.reduceLT, Int.reduceLE, Int.reduceAdd, Int.reduceSub, Int.reduceEq, reduceIte, Nat.reduceBNe, Int.reducePow, Nat.reducePow, Int.reduceMul, Int.reduceNeg, isB_i, isB_b, isB_y, isBv_i, isBv_b, eqCells_t, TT]
  refine draw_of cx_ok (by kernel_rfl) 400 [0, 1] [(0, true), (1, true), (2, false), (3, false), (4, true)] (by kernel_rfl) rfl ?_
  simp (maxSteps := 4000000) only [Try.results8, XX, Nat.reduceBEq, Nat.reduceLT, Nat.reduceAdd, Nat.reduceMul, Nat.reduceSub, Nat.reduceLeDiff, Nat.reduceEqDiff, Int.reduceToNat, Int.reduceLT, Int.reduceLE, Int.reduceAdd, Int.reduceSub, Int.reduceEq, reduceIte, Nat.reduceBNe, Int.reducePow, Nat.reducePow, Int.reduceMul, Int.reduceNeg, isB_i, isB_b, isB_y, isBv_i, isBv_b, eqCells_t, TT]
  refine call_plain (probe_spec ⟨2, 0, 0, 0, 0, 11⟩ 9) rfl ?_
  rintro _ rfl
  simp (maxSteps := 4000000) only [Try.results8, XX, Nat.reduceBEq, Nat.reduceLT, Nat.reduceAdd, Nat.reduceMul, Nat.reduceSub, Nat.reduceLeDiff, Nat.reduceEqDiff, Int.reduceToNat, Int.reduceLT, Int.reduceLE, Int.reduceAdd, Int.reduceSub, Int.reduceEq, reduceIte, Nat.reduceBNe, Int.reducePow, Nat.reducePow, Int.reduceMul, Int.reduceNeg, isB_i, isB_b, isB_y, isBv_i, isBv_b, eqCells_t, TT]
  refine call_plain (clash_spec ⟨2, 0, 0, 0, 0, 10⟩ 9 1 ⟨2, 0, 0, 0, 0, 11⟩ 0 .nul 9) rfl ?_
  rintro _ rfl
  have c1 : clashB ⟨2, 0, 0, 0, 0, 10⟩ 9 1 ⟨2, 0, 0, 0, 0, 11⟩ 0 9 = true := by decide
  simp (maxSteps := 4000000) only [Try.results8, c1, XX, Nat.reduceBEq, Nat.reduceLT, Nat.reduceAdd, Nat.reduceMul, Nat.reduceSub, Nat.reduceLeDiff, Nat.reduceEqDiff, Int.reduceToNat, Int.reduceLT, Int.reduceLE, Int.reduceAdd, Int.reduceSub, Int.reduceEq, reduceIte, Nat.reduceBNe, Int.reducePow, Nat.reducePow, Int.reduceMul, Int.reduceNeg, isB_i, isB_b, isB_y, isBv_i, isBv_b, eqCells_t, TT]
  refine draw_of cx_ok (by kernel_rfl) 400 [0] [(0, true), (1, true), (2, false), (3, false), (4, true)] (by kernel_rfl) rfl ?_
  simp (maxSteps := 4000000) only [Try.results8, XX, Nat.reduceBEq, Nat.reduceLT, Nat.reduceAdd, Nat.reduceMul, Nat.reduceSub, Nat.reduceLeDiff, Nat.reduceEqDiff, Int.reduceToNat, Int.reduceLT, Int.reduceLE, Int.reduceAdd, Int.reduceSub, Int.reduceEq, reduceIte, Nat.reduceBNe, Int.reducePow, Nat.reducePow, Int.reduceMul, Int.reduceNeg, isB_i, isB_b, isB_y, isBv_i, isBv_b, eqCells_t, TT]
  refine call_plain (probe_spec ⟨2, 0, 0, 0, 0, 10⟩ 9) rfl ?_
  rintro _ rfl
  simp (maxSteps := 4000000) only [Try.results8, XX, Nat.reduceBEq, Nat.reduceLT, Nat.reduceAdd, Nat.reduceMul, Nat.reduceSub, Nat.reduceLeDiff, Nat.reduceEqDiff, Int.reduceToNat, Int.reduceLT, Int.reduceLE, Int.reduceAdd, Int.reduceSub, Int.reduceEq, reduceIte, Nat.reduceBNe, Int.reducePow, Nat.reducePow, Int.reduceMul, Int.reduceNeg, isB_i, isB_b, isB_y, isBv_i, isBv_b, eqCells_t, TT]
  refine call_plain (clash_spec ⟨2, 0, 0, 0, 0, 10⟩ 9 1 ⟨2, 0, 0, 0, 0, 10⟩ 0 .nul 9) rfl ?_
  rintro _ rfl
  have c2 : clashB ⟨2, 0, 0, 0, 0, 10⟩ 9 1 ⟨2, 0, 0, 0, 0, 10⟩ 0 9 = false := by decide
  have b2 : SC.v (.int .u8 2) = byteC 2 := rfl
  have b10 : SC.v (.int .u8 10) = byteC 10 := rfl
  have b11 : SC.v (.int .u8 11) = byteC 11 := rfl
  simp (maxSteps := 4000000) only [Try.results8, c2, z0, b2, b10, b11, eqB, XX, Nat.reduceBEq, Nat.reduceLT, Nat.reduceAdd, Nat.reduceMul, Nat.reduceSub, Nat.reduceLeDiff, Nat.reduceEqDiff, Int.reduceToNat, Int.reduceLT, Int.reduceLE, Int.reduceAdd, Int.reduceSub, Int.reduceEq, reduceIte, Nat.reduceBNe, Int.reducePow, Nat.reducePow, Int.reduceMul, Int.reduceNeg, isB_i, isB_b, isB_y, isBv_i, isBv_b, eqCells_t, TT]

end Go.Proofs.Ytcihljikepielaa.Sx
