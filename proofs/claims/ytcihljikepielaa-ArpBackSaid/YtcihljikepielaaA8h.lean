/- The symbolic executor, at work: the laws of questions for addresses. No condition. -/
import Derived.Test.YtcihljikepielaaA8g
namespace Go.Proofs.Ytcihljikepielaa.Sx
open Go
set_option linter.unusedSimpArgs false
set_option linter.unusedVariables false
set_option maxRecDepth 10000
set_option maxHeartbeats 2000000

/-- What laying comes to. -/
def aencR (o : Int) (sm : M6) (si : Nat) (dm : M6) (di : Nat) : List UInt8 × Int :=
  if o = 1 then (arpL 1 sm si dm di, 0) else if o = 2 then (arpL 2 sm si dm di, 0) else ([], 80)
theorem aencR_len (o : Int) (sm : M6) (si : Nat) (dm : M6) (di : Nat) : (aencR o sm si dm di).1.length ≤ 28 := by
  unfold aencR
  repeat' split
  all_goals simp [be4]
theorem resB_l {l : List UInt8} {n : Nat} {e : Int} {s : SV} {h' : List SB} (hn : l.length = n) (h : s = .tup [(false, [.sl 0 0 n n]), (false, [i64 e])] ∧ h' = [wB true l]) : resB l e s h' := by
  subst hn
  obtain ⟨rfl, rfl⟩ := h
  exact ⟨[], true, rfl, by rw [List.append_nil], fun _ => rfl⟩

theorem aenc_spec (o : Int) (sm : M6) (si : Nat) (dm : M6) (di : Nat) (hs : si < 4294967296) (hd : di < 4294967296) : Spec cx.P 9 [.agg (arpC o sm si dm di)] [] (resB (aencR o sm si dm di).1 (aencR o sm si dm di).2) := by
  unfold aencR
  by_cases h1 : o = 1
  · rw [if_pos h1]
    exact (enc_spec o 1 sm si dm di (.inl ⟨h1, rfl⟩) hs hd).mono fun s h' h => resB_l (by simp [be4]) h
  rw [if_neg h1]
  by_cases h2 : o = 2
  · rw [if_pos h2]
    exact (enc_spec o 2 sm si dm di (.inr ⟨h2, rfl⟩) hs hd).mono fun s h' h => resB_l (by simp [be4]) h
  rw [if_neg h2]
  exact resB_nil (enc_bad o sm si dm di h1 h2)

theorem raenc_spec (o : Int) (sm : M6) (si : Nat) (dm : M6) (di : Nat) (hs : si < 4294967296) (hd : di < 4294967296) : Spec cx.P 10 [.agg (arpC o sm si dm di)] [] (resB (aencR o sm si dm di).1 (aencR o sm si dm di).2) := by
  unfold aencR
  by_cases h1 : o = 1
  · rw [if_pos h1]
    exact renc_spec o 1 sm si dm di (.inl ⟨h1, rfl⟩) hs hd
  rw [if_neg h1]
  by_cases h2 : o = 2
  · rw [if_pos h2]
    exact renc_spec o 2 sm si dm di (.inr ⟨h2, rfl⟩) hs hd
  rw [if_neg h2]
  exact resB_nil (renc_bad o sm si dm di h1 h2)

theorem resB_noRo {l : List UInt8} {e : Int} {t : SV} {h' : List SB} (h : resB l e t h') : t.noRo = true ∧ (h'.all fun b => b.cells.all SC.noRo) = true := by
  obtain ⟨sp, o, rfl, rfl, _⟩ := h
  exact ⟨rfl, by simp only [XX, Nat.reduceBEq, Nat.reduceLT, Nat.reduceAdd, Nat.reduceMul, Nat.reduceSub, Nat.reduceLeDiff, Nat.reduceEqDiff, Int.reduceToNat, Int.reduceLT, Int.reduceLE, Int.reduceAdd, Int.reduceSub, Int.reduceEq, reduceIte, Nat.reduceBNe, Int.reducePow, Nat.reducePow, Int.reduceMul, Int.reduceNeg, isB_i, isB_b, isB_y, isBv_i, isBv_b, eqCells_t, TT, ids_bsC, ren_bsC, noRo_bsC, plain_bsC, lt_bsC, ids_byte, ren_byte, noRo_byte, plain_byte, lt_byte]⟩

theorem arpEncodes_walk : ∀ css, RTyL (RTy T reachBytes DEPTH) [27, 27] css → Spec Try.prog 4 (svs T [27, 27] css) [] fun r _ => r = .c (.v (.bool true)) := by
  intro css h
  obtain ⟨x3, xs3, rfl, h3, g3⟩ := RTyL_cons h
  obtain ⟨x4, xs4, rfl, h4, g4⟩ := RTyL_cons g3
  obtain rfl := RTyL_nil g4
  obtain ⟨o, sm, si, dm, di, e3, hs, hd⟩ := RTy_arp h3
  obtain ⟨o', sm', si', dm', di', e4, hs', hd'⟩ := RTy_arp h4
  simp only [svs, e3, e4]
  clear h3 h4 g3 g4 h e3 e4
  refine spec_of_X cx_ok Try.func4 rfl (by kernel_rfl) (by kernel_rfl) (Nat.le_of_ble_eq_true rfl) 400 17 ?_
  simp (maxSteps := 4000000) only [Try.results4, XX, Nat.reduceBEq, Nat.reduceLT, Nat.reduceAdd, Nat.reduceMul, Nat.reduceSub, Nat.reduceLeDiff, Nat.reduceEqDiff, Int.reduceToNat, Int.reduceLT, Int.reduceLE, Int.reduceAdd, Int.reduceSub, Int.reduceEq, reduceIte, Nat.reduceBNe, Int.reducePow, Nat.reducePow, Int.reduceMul, Int.reduceNeg, isB_i, isB_b, isB_y, isBv_i, isBv_b, eqCells_t, TT]
  refine call_plain (live_spec) rfl ?_
  rintro _ rfl
  simp (maxSteps := 4000000) only [Try.results4, XX, Nat.reduceBEq, Nat.reduceLT, Nat.reduceAdd, Nat.reduceMul, Nat.reduceSub, Nat.reduceLeDiff, Nat.reduceEqDiff, Int.reduceToNat, Int.reduceLT, Int.reduceLE, Int.reduceAdd, Int.reduceSub, Int.reduceEq, reduceIte, Nat.reduceBNe, Int.reducePow, Nat.reducePow, Int.reduceMul, Int.reduceNeg, isB_i, isB_b, isB_y, isBv_i, isBv_b, eqCells_t, TT]
  have hF := raenc_spec o sm si dm di hs hd
  have hG := raenc_spec o' sm' si' dm' di' hs' hd'
  have hA := aenc_spec o sm si dm di hs hd
  have hB := aenc_spec o' sm' si' dm' di' hs' hd'
  have n1 := aencR_len o sm si dm di
  have n2 := aencR_len o' sm' si' dm' di'
  generalize (aencR o sm si dm di).1 = L at *
  generalize (aencR o sm si dm di).2 = E at *
  generalize (aencR o' sm' si' dm' di').1 = L' at *
  generalize (aencR o' sm' si' dm' di').2 = E' at *
  refine call_fz [.agg (arpC o sm si dm di)] hA (fun t h' h => resB_noRo h) ⟨.inl ⟨rfl, rfl⟩, trivial⟩ ?_
  rintro _ _ ⟨z3, o3, rfl, rfl, ho3⟩
  simp (maxSteps := 4000000) only [Try.results4, ids_bsC, ren_bsC, noRo_bsC, plain_bsC, lt_bsC, ids_byte, ren_byte, noRo_byte, plain_byte, lt_byte, XX, Nat.reduceBEq, Nat.reduceLT, Nat.reduceAdd, Nat.reduceMul, Nat.reduceSub, Nat.reduceLeDiff, Nat.reduceEqDiff, Int.reduceToNat, Int.reduceLT, Int.reduceLE, Int.reduceAdd, Int.reduceSub, Int.reduceEq, reduceIte, Nat.reduceBNe, Int.reducePow, Nat.reducePow, Int.reduceMul, Int.reduceNeg, isB_i, isB_b, isB_y, isBv_i, isBv_b, eqCells_t, TT]
  refine call_fz [.agg (arpC o' sm' si' dm' di')] hB (fun t h' h => resB_noRo h) ⟨.inl ⟨rfl, rfl⟩, trivial⟩ ?_
  rintro _ _ ⟨z4, o4, rfl, rfl, ho4⟩
  simp (maxSteps := 4000000) only [Try.results4, ids_bsC, ren_bsC, noRo_bsC, plain_bsC, lt_bsC, ids_byte, ren_byte, noRo_byte, plain_byte, lt_byte, XX, Nat.reduceBEq, Nat.reduceLT, Nat.reduceAdd, Nat.reduceMul, Nat.reduceSub, Nat.reduceLeDiff, Nat.reduceEqDiff, Int.reduceToNat, Int.reduceLT, Int.reduceLE, Int.reduceAdd, Int.reduceSub, Int.reduceEq, reduceIte, Nat.reduceBNe, Int.reducePow, Nat.reducePow, Int.reduceMul, Int.reduceNeg, isB_i, isB_b, isB_y, isBv_i, isBv_b, eqCells_t, TT]
  refine call_fz [.agg (arpC o sm si dm di)] hA (fun t h' h => resB_noRo h) ⟨.inl ⟨rfl, rfl⟩, trivial⟩ ?_
  rintro _ _ ⟨z5, o5, rfl, rfl, ho5⟩
  simp (maxSteps := 4000000) only [Try.results4, ids_bsC, ren_bsC, noRo_bsC, plain_bsC, lt_bsC, ids_byte, ren_byte, noRo_byte, plain_byte, lt_byte, XX, Nat.reduceBEq, Nat.reduceLT, Nat.reduceAdd, Nat.reduceMul, Nat.reduceSub, Nat.reduceLeDiff, Nat.reduceEqDiff, Int.reduceToNat, Int.reduceLT, Int.reduceLE, Int.reduceAdd, Int.reduceSub, Int.reduceEq, reduceIte, Nat.reduceBNe, Int.reducePow, Nat.reducePow, Int.reduceMul, Int.reduceNeg, isB_i, isB_b, isB_y, isBv_i, isBv_b, eqCells_t, TT]
  refine call_fz [.agg (arpC o sm si dm di)] hF (fun t h' h => resB_noRo h) ⟨.inl ⟨rfl, rfl⟩, trivial⟩ ?_
  rintro _ _ ⟨z1, o1, rfl, rfl, ho1⟩
  simp (maxSteps := 4000000) only [Try.results4, ids_bsC, ren_bsC, noRo_bsC, plain_bsC, lt_bsC, ids_byte, ren_byte, noRo_byte, plain_byte, lt_byte, XX, Nat.reduceBEq, Nat.reduceLT, Nat.reduceAdd, Nat.reduceMul, Nat.reduceSub, Nat.reduceLeDiff, Nat.reduceEqDiff, Int.reduceToNat, Int.reduceLT, Int.reduceLE, Int.reduceAdd, Int.reduceSub, Int.reduceEq, reduceIte, Nat.reduceBNe, Int.reducePow, Nat.reducePow, Int.reduceMul, Int.reduceNeg, isB_i, isB_b, isB_y, isBv_i, isBv_b, eqCells_t, TT]
  refine call_fz [.agg (arpC o' sm' si' dm' di')] hG (fun t h' h => resB_noRo h) ⟨.inl ⟨rfl, rfl⟩, trivial⟩ ?_
  rintro _ _ ⟨z2, o2, rfl, rfl, ho2⟩
  have tk : ∀ a b : List UInt8, (bsC (a ++ b)).take a.length = bsC a := fun a b => by rw [bs_take, List.take_left' rfl]
  simp (maxSteps := 4000000) only [Try.results4, ids_bsC, ren_bsC, noRo_bsC, plain_bsC, lt_bsC, ids_byte, ren_byte, noRo_byte, plain_byte, lt_byte, tk, strOf_bsC, str_eq, XX, Nat.reduceBEq, Nat.reduceLT, Nat.reduceAdd, Nat.reduceMul, Nat.reduceSub, Nat.reduceLeDiff, Nat.reduceEqDiff, Int.reduceToNat, Int.reduceLT, Int.reduceLE, Int.reduceAdd, Int.reduceSub, Int.reduceEq, reduceIte, Nat.reduceBNe, Int.reducePow, Nat.reducePow, Int.reduceMul, Int.reduceNeg, isB_i, isB_b, isB_y, isBv_i, isBv_b, eqCells_t, TT]
  have q : ∀ a b : List UInt8, a.length ≤ (bsC (a ++ b)).length ∧ ∀ c ∈ bsC a, isByte c = true := fun a b => ⟨by simp, isByte_bsC a⟩
  refine ⟨q _ _, q _ _, q _ _, q _ _, q _ _, q _ _, ?_⟩
  generalize hhp : ([_, _, _, _, _, _, _, _] : List SB) = hp
  have w1 : hp[2]? = some (wB o3 (L ++ z3)) := by rw [← hhp]; rfl
  have w2 : hp[3]? = some (wB o4 (L' ++ z4)) := by rw [← hhp]; rfl
  have w3 : hp[4]? = some (wB o5 (L ++ z5)) := by rw [← hhp]; rfl
  have wb : hp[7]? = some (bookB nilC nilC) := by rw [← hhp]; rfl
  clear hhp
  refine call_is (take0_spec hp 7 2 L z3 o3 _ (by omega) wb w1) ?_
  rintro _ h1 ⟨rfl, iL, cL, iW, cW, B1, b1, l1, m1⟩
  simp (maxSteps := 4000000) only [Try.results4, XX, Nat.reduceBEq, Nat.reduceLT, Nat.reduceAdd, Nat.reduceMul, Nat.reduceSub, Nat.reduceLeDiff, Nat.reduceEqDiff, Int.reduceToNat, Int.reduceLT, Int.reduceLE, Int.reduceAdd, Int.reduceSub, Int.reduceEq, reduceIte, Nat.reduceBNe, Int.reducePow, Nat.reducePow, Int.reduceMul, Int.reduceNeg, isB_i, isB_b, isB_y, isBv_i, isBv_b, eqCells_t, TT]
  have lt9 := lt_of w2
  have lt10 := lt_of w3
  refine call_is (take_spec h1 7 3 _ _ _ _ _ _ L' z4 o4 _ (by omega) B1 (by simp) ((b1.2 3 lt9 (by decide)).trans w2)) ?_
  rintro _ h2 ⟨rfl, iL2, cL2, iW2, cW2, B2, b2, l2, m2⟩
  simp (maxSteps := 4000000) only [Try.results4, XX, Nat.reduceBEq, Nat.reduceLT, Nat.reduceAdd, Nat.reduceMul, Nat.reduceSub, Nat.reduceLeDiff, Nat.reduceEqDiff, Int.reduceToNat, Int.reduceLT, Int.reduceLE, Int.reduceAdd, Int.reduceSub, Int.reduceEq, reduceIte, Nat.reduceBNe, Int.reducePow, Nat.reducePow, Int.reduceMul, Int.reduceNeg, isB_i, isB_b, isB_y, isBv_i, isBv_b, eqCells_t, TT]
  refine call_is (take_spec h2 7 4 _ _ _ _ _ _ L z5 o5 _ (by omega) B2 (by simp) (((b2.2 4 (by have := b1.1; omega) (by rintro (h | h | h) <;> omega)).trans (b1.2 4 lt10 (by decide))).trans w3)) ?_
  rintro _ h3 ⟨rfl, iL3, cL3, iW3, cW3, B3, b3, l3, m3⟩
  simp (maxSteps := 4000000) only [Try.results4, XX, Nat.reduceBEq, Nat.reduceLT, Nat.reduceAdd, Nat.reduceMul, Nat.reduceSub, Nat.reduceLeDiff, Nat.reduceEqDiff, Int.reduceToNat, Int.reduceLT, Int.reduceLE, Int.reduceAdd, Int.reduceSub, Int.reduceEq, reduceIte, Nat.reduceBNe, Int.reducePow, Nat.reducePow, Int.reduceMul, Int.reduceNeg, isB_i, isB_b, isB_y, isBv_i, isBv_b, eqCells_t, TT]
  refine call_is (owned_spec h3 7 [⟨2, L, z3, o3⟩, ⟨3, L', z4, o4⟩, ⟨4, L, z5, o5⟩] iL3 cL3 iW3 cW3 B3 (owns3 (lt_of wb) b1 l1 m1 b2 l2 m2 b3 w1 w2 w3 (by decide) (by decide) (by decide) ho3 ho4 ho5 (by omega) (by omega) (by omega) (by decide) (by decide) (by decide)) (by simp)) ?_
  rintro _ _ rfl
  simp (maxSteps := 4000000) only [Try.results4, XX, Nat.reduceBEq, Nat.reduceLT, Nat.reduceAdd, Nat.reduceMul, Nat.reduceSub, Nat.reduceLeDiff, Nat.reduceEqDiff, Int.reduceToNat, Int.reduceLT, Int.reduceLE, Int.reduceAdd, Int.reduceSub, Int.reduceEq, reduceIte, Nat.reduceBNe, Int.reducePow, Nat.reducePow, Int.reduceMul, Int.reduceNeg, isB_i, isB_b, isB_y, isBv_i, isBv_b, eqCells_t, TT]

end Go.Proofs.Ytcihljikepielaa.Sx
