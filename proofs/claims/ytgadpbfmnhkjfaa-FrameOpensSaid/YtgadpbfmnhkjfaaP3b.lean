/- The symbolic executor, at work: frames, read. No condition. -/
import Derived.Test.YtgadpbfmnhkjfaaP3
namespace Go.Proofs.Ytgadpbfmnhkjfaa.Sx
open Go
set_option linter.unusedSimpArgs false
set_option linter.unusedVariables false
set_option maxRecDepth 10000
set_option maxHeartbeats 1000000

abbrev M6.nul : M6 := ⟨0, 0, 0, 0, 0, 0⟩
abbrev noFr : List SC := fraC .nul .nul 0 noC
abbrev errFr (e : Int) : SV := .tup [(true, noFr), (false, [i64 e])]

theorem fopenS_spec (l sp : List UInt8) (c : Nat) (hl : l.length < 60) : Spec cx.P 16 [.c (roB l sp c)] [] fun s _ => s.plain = true ∧ s = errFr 5 := by
  have d0 : decide ((l.length : Int) < 60) = true := by simp only [decide_eq_true_eq]; omega
  refine spec_of_X cx_ok Try.func16 rfl (by kernel_rfl) (by kernel_rfl) (Nat.le_of_ble_eq_true rfl) 400 7 ?_
  simp (maxSteps := 4000000) only [Try.results16, XX, Nat.reduceBEq, Nat.reduceLT, Nat.reduceAdd, Nat.reduceMul, Nat.reduceSub, Nat.reduceLeDiff, Nat.reduceEqDiff, Int.reduceToNat, Int.reduceLT, Int.reduceLE, Int.reduceAdd, Int.reduceSub, Int.reduceEq, reduceIte, Nat.reduceBNe, Int.reducePow, Nat.reducePow, Int.reduceMul, Int.reduceNeg, isB_i, isB_b, isB_y, isBv_i, isBv_b, eqCells_t, TT]
  simp (maxSteps := 4000000) only [Try.results16, d0, XX, Nat.reduceBEq, Nat.reduceLT, Nat.reduceAdd, Nat.reduceMul, Nat.reduceSub, Nat.reduceLeDiff, Nat.reduceEqDiff, Int.reduceToNat, Int.reduceLT, Int.reduceLE, Int.reduceAdd, Int.reduceSub, Int.reduceEq, reduceIte, Nat.reduceBNe, Int.reducePow, Nat.reducePow, Int.reduceMul, Int.reduceNeg, isB_i, isB_b, isB_y, isBv_i, isBv_b, eqCells_t, TT]
  rfl

theorem fopenL_spec (l sp : List UInt8) (c : Nat) (hl : 1514 < l.length) : Spec cx.P 16 [.c (roB l sp c)] [] fun s _ => s.plain = true ∧ s = errFr 2 := by
  have d0 : decide ((l.length : Int) < 60) = false := by simp only [decide_eq_false_iff_not]; omega
  have d1 : decide (1514 < (l.length : Int)) = true := by simp only [decide_eq_true_eq]; omega
  refine spec_of_X cx_ok Try.func16 rfl (by kernel_rfl) (by kernel_rfl) (Nat.le_of_ble_eq_true rfl) 400 7 ?_
  simp (maxSteps := 4000000) only [Try.results16, XX, Nat.reduceBEq, Nat.reduceLT, Nat.reduceAdd, Nat.reduceMul, Nat.reduceSub, Nat.reduceLeDiff, Nat.reduceEqDiff, Int.reduceToNat, Int.reduceLT, Int.reduceLE, Int.reduceAdd, Int.reduceSub, Int.reduceEq, reduceIte, Nat.reduceBNe, Int.reducePow, Nat.reducePow, Int.reduceMul, Int.reduceNeg, isB_i, isB_b, isB_y, isBv_i, isBv_b, eqCells_t, TT]
  simp (maxSteps := 4000000) only [Try.results16, d0, d1, XX, Nat.reduceBEq, Nat.reduceLT, Nat.reduceAdd, Nat.reduceMul, Nat.reduceSub, Nat.reduceLeDiff, Nat.reduceEqDiff, Int.reduceToNat, Int.reduceLT, Int.reduceLE, Int.reduceAdd, Int.reduceSub, Int.reduceEq, reduceIte, Nat.reduceBNe, Int.reducePow, Nat.reducePow, Int.reduceMul, Int.reduceNeg, isB_i, isB_b, isB_y, isBv_i, isBv_b, eqCells_t, TT]
  rfl

/-- A frame's bytes, all told. -/
abbrev rawL (d s : M6) (k1 k0 : UInt8) (t : List UInt8) : List UInt8 := d.a :: d.b :: d.c :: d.d :: d.e :: d.f :: s.a :: s.b :: s.c :: s.d :: s.e :: s.f :: k1 :: k0 :: t

theorem raw_at {l : List UInt8} {d s : M6} {k1 k0 : UInt8} {t : List UInt8} (he : l = rawL d s k1 k0 t) : ((l.getD 12 0).toNat * 256 + (l.getD (12 + 1) 0).toNat : Nat) = k1.toNat * 256 + k0.toNat := by subst he; rfl

theorem fopenK_spec (d s : M6) (k1 k0 : UInt8) (t sp l : List UInt8) (he : l = rawL d s k1 k0 t) (c : Nat) (ht : 46 ≤ t.length) (ht' : t.length ≤ 1500) (hc : l.length ≤ c) (hk : k1.toNat * 256 + k0.toNat < 1536) : Spec cx.P 16 [.c (roB l sp c)] [] fun s _ => s.plain = true ∧ s = errFr 30 := by
  have hl : l.length = 14 + t.length := by rw [he]; simp; omega
  have d0 : decide ((l.length : Int) < 60) = false := by simp only [decide_eq_false_iff_not]; omega
  have d1 : decide (1514 < (l.length : Int)) = false := by simp only [decide_eq_false_iff_not]; omega
  have d2 : decide (((k1.toNat * 256 + k0.toNat : Nat) : Int) < 1536) = true := by simp only [decide_eq_true_eq]; omega
  refine spec_of_X cx_ok Try.func16 rfl (by kernel_rfl) (by kernel_rfl) (Nat.le_of_ble_eq_true rfl) 400 7 ?_
  simp (maxSteps := 4000000) only [Try.results16, XX, Nat.reduceBEq, Nat.reduceLT, Nat.reduceAdd, Nat.reduceMul, Nat.reduceSub, Nat.reduceLeDiff, Nat.reduceEqDiff, Int.reduceToNat, Int.reduceLT, Int.reduceLE, Int.reduceAdd, Int.reduceSub, Int.reduceEq, reduceIte, Nat.reduceBNe, Int.reducePow, Nat.reducePow, Int.reduceMul, Int.reduceNeg, isB_i, isB_b, isB_y, isBv_i, isBv_b, eqCells_t, TT]
  simp (maxSteps := 4000000) only [Try.results16, d0, d1, XX, Nat.reduceBEq, Nat.reduceLT, Nat.reduceAdd, Nat.reduceMul, Nat.reduceSub, Nat.reduceLeDiff, Nat.reduceEqDiff, Int.reduceToNat, Int.reduceLT, Int.reduceLE, Int.reduceAdd, Int.reduceSub, Int.reduceEq, reduceIte, Nat.reduceBNe, Int.reducePow, Nat.reducePow, Int.reduceMul, Int.reduceNeg, isB_i, isB_b, isB_y, isBv_i, isBv_b, eqCells_t, TT]
  refine call_frame (get2_spec l sp c 12 (by omega) hc (by omega)) [] rfl rfl trivial rfl rfl ?_
  rintro _ _ ⟨rfl, rfl⟩
  rw [raw_at he]
  simp (maxSteps := 4000000) only [Try.results16, d2, XX, Nat.reduceBEq, Nat.reduceLT, Nat.reduceAdd, Nat.reduceMul, Nat.reduceSub, Nat.reduceLeDiff, Nat.reduceEqDiff, Int.reduceToNat, Int.reduceLT, Int.reduceLE, Int.reduceAdd, Int.reduceSub, Int.reduceEq, reduceIte, Nat.reduceBNe, Int.reducePow, Nat.reducePow, Int.reduceMul, Int.reduceNeg, isB_i, isB_b, isB_y, isBv_i, isBv_b, eqCells_t, TT]
  rfl

theorem fopen_spec (d s : M6) (k1 k0 : UInt8) (t sp l : List UInt8) (he : l = rawL d s k1 k0 t) (c : Nat) (ht : 46 ≤ t.length) (ht' : t.length ≤ 1500) (hc : l.length ≤ c) (hk : 1536 ≤ k1.toNat * 256 + k0.toNat) : Spec cx.P 16 [.c (roB l sp c)] [] fun q h' => ∃ r, q = .tup [(true, fraC d s (k1.toNat * 256 + k0.toNat : Nat) (.sl 0 0 t.length (t.length + r))), (false, [i64 0])] ∧ h' = [wB true (t ++ List.replicate r 0)] := by
  have hl : l.length = 14 + t.length := by rw [he]; simp; omega
  have d0 : decide ((l.length : Int) < 60) = false := by simp only [decide_eq_false_iff_not]; omega
  have d1 : decide (1514 < (l.length : Int)) = false := by simp only [decide_eq_false_iff_not]; omega
  have d2 : decide (((k1.toNat * 256 + k0.toNat : Nat) : Int) < 1536) = false := by simp only [decide_eq_false_iff_not]; omega
  have key : Spec cx.P 16 [.c (roB l sp c)] [] fun q h' => ∃ r, q = .tup [(true, fraC d s (k1.toNat * 256 + k0.toNat : Nat) (.sl 1 0 t.length (t.length + r))), (false, [i64 0])] ∧ ∃ a b, h' = [a, wB true (t ++ List.replicate r 0), b] := by
    refine spec_of_X cx_ok Try.func16 rfl (by kernel_rfl) (by kernel_rfl) (Nat.le_of_ble_eq_true rfl) 400 7 ?_
    simp (maxSteps := 4000000) only [Try.results16, XX, Nat.reduceBEq, Nat.reduceLT, Nat.reduceAdd, Nat.reduceMul, Nat.reduceSub, Nat.reduceLeDiff, Nat.reduceEqDiff, Int.reduceToNat, Int.reduceLT, Int.reduceLE, Int.reduceAdd, Int.reduceSub, Int.reduceEq, reduceIte, Nat.reduceBNe, Int.reducePow, Nat.reducePow, Int.reduceMul, Int.reduceNeg, isB_i, isB_b, isB_y, isBv_i, isBv_b, eqCells_t, TT]
    simp (maxSteps := 4000000) only [Try.results16, d0, d1, XX, Nat.reduceBEq, Nat.reduceLT, Nat.reduceAdd, Nat.reduceMul, Nat.reduceSub, Nat.reduceLeDiff, Nat.reduceEqDiff, Int.reduceToNat, Int.reduceLT, Int.reduceLE, Int.reduceAdd, Int.reduceSub, Int.reduceEq, reduceIte, Nat.reduceBNe, Int.reducePow, Nat.reducePow, Int.reduceMul, Int.reduceNeg, isB_i, isB_b, isB_y, isBv_i, isBv_b, eqCells_t, TT]
    refine call_frame (get2_spec l sp c 12 (by omega) hc (by omega)) [] rfl rfl trivial rfl rfl ?_
    rintro _ _ ⟨rfl, rfl⟩
    rw [raw_at he]
    simp (maxSteps := 4000000) only [Try.results16, d2, XX, Nat.reduceBEq, Nat.reduceLT, Nat.reduceAdd, Nat.reduceMul, Nat.reduceSub, Nat.reduceLeDiff, Nat.reduceEqDiff, Int.reduceToNat, Int.reduceLT, Int.reduceLE, Int.reduceAdd, Int.reduceSub, Int.reduceEq, reduceIte, Nat.reduceBNe, Int.reducePow, Nat.reducePow, Int.reduceMul, Int.reduceNeg, isB_i, isB_b, isB_y, isBv_i, isBv_b, eqCells_t, TT]
    have e1 : (bsR (l ++ sp)).drop 14 = bsR (t ++ sp) := by subst he; rfl
    have e2 : l.length - 14 = t.length := by omega
    have e3 : IntKind.i64.wrap ((k1.toNat * 256 + k0.toNat : Nat) : Int) = ((k1.toNat * 256 + k0.toNat : Nat) : Int) := by
      have := k1.toNat_lt; have := k0.toNat_lt
      rw [w64] <;> omega
    have e4 : bsR (l ++ sp) = byteR d.a :: byteR d.b :: byteR d.c :: byteR d.d :: byteR d.e :: byteR d.f :: byteR s.a :: byteR s.b :: byteR s.c :: byteR s.d :: byteR s.e :: byteR s.f :: byteR k1 :: byteR k0 :: bsR (t ++ sp) := by subst he; rfl
    have e5 : ∀ b : UInt8, (byteR b).toSC = byteC b := fun _ => rfl
    rw [e1, e2, e3]
    refine ⟨by omega, ?_⟩
    refine call_frame (clone_spec t sp t.length (by omega) (by omega) (by omega)) [] rfl rfl trivial rfl rfl ?_
    rintro _ _ ⟨r, rfl, rfl⟩
    simp (maxSteps := 4000000) only [Try.results16, ids_bsC, ren_bsC, noRo_bsC, plain_bsC, lt_bsC, ids_byte, ren_byte, noRo_byte, plain_byte, lt_byte, XX, Nat.reduceBEq, Nat.reduceLT, Nat.reduceAdd, Nat.reduceMul, Nat.reduceSub, Nat.reduceLeDiff, Nat.reduceEqDiff, Int.reduceToNat, Int.reduceLT, Int.reduceLE, Int.reduceAdd, Int.reduceSub, Int.reduceEq, reduceIte, Nat.reduceBNe, Int.reducePow, Nat.reducePow, Int.reduceMul, Int.reduceNeg, isB_i, isB_b, isB_y, isBv_i, isBv_b, eqCells_t, TT]
    refine draw_of cx_ok (by kernel_rfl) 400 [1] [(0, true), (1, true), (2, true), (3, true), (4, false)] (by kernel_rfl) rfl ?_
    simp (maxSteps := 4000000) only [Try.results16, e4, e5, XX, Nat.reduceBEq, Nat.reduceLT, Nat.reduceAdd, Nat.reduceMul, Nat.reduceSub, Nat.reduceLeDiff, Nat.reduceEqDiff, Int.reduceToNat, Int.reduceLT, Int.reduceLE, Int.reduceAdd, Int.reduceSub, Int.reduceEq, reduceIte, Nat.reduceBNe, Int.reducePow, Nat.reducePow, Int.reduceMul, Int.reduceNeg, isB_i, isB_b, isB_y, isBv_i, isBv_b, eqCells_t, TT]
    refine ⟨by omega, ?_⟩
    refine draw_of cx_ok (by kernel_rfl) 400 [1] [(0, true), (1, true), (2, true), (3, true), (4, false)] (by kernel_rfl) rfl ?_
    simp (maxSteps := 4000000) only [Try.results16, e4, e5, XX, Nat.reduceBEq, Nat.reduceLT, Nat.reduceAdd, Nat.reduceMul, Nat.reduceSub, Nat.reduceLeDiff, Nat.reduceEqDiff, Int.reduceToNat, Int.reduceLT, Int.reduceLE, Int.reduceAdd, Int.reduceSub, Int.reduceEq, reduceIte, Nat.reduceBNe, Int.reducePow, Nat.reducePow, Int.reduceMul, Int.reduceNeg, isB_i, isB_b, isB_y, isBv_i, isBv_b, eqCells_t, TT]
    exact ⟨by omega, r, rfl, _, _, rfl⟩
  exact key.wk fun q h' ⟨r, h1, a, b, h2⟩ => ⟨.tup [(true, fraC d s (k1.toNat * 256 + k0.toNat : Nat) (.sl 0 0 t.length (t.length + r))), (false, [i64 0])], [wB true (t ++ List.replicate r 0)], [some 1], rfl, by subst h2; simp only [XX, Nat.reduceBEq, Nat.reduceLT, Nat.reduceAdd, Nat.reduceMul, Nat.reduceSub, Nat.reduceLeDiff, Nat.reduceEqDiff, Int.reduceToNat, Int.reduceLT, Int.reduceLE, Int.reduceAdd, Int.reduceSub, Int.reduceEq, reduceIte, Nat.reduceBNe, Int.reducePow, Nat.reducePow, Int.reduceMul, Int.reduceNeg, isB_i, isB_b, isB_y, isBv_i, isBv_b, eqCells_t, TT, ids_bsC, ren_bsC, noRo_bsC, plain_bsC, lt_bsC, ids_byte, ren_byte, noRo_byte, plain_byte, lt_byte], by subst h1; simp only [XX, Nat.reduceBEq, Nat.reduceLT, Nat.reduceAdd, Nat.reduceMul, Nat.reduceSub, Nat.reduceLeDiff, Nat.reduceEqDiff, Int.reduceToNat, Int.reduceLT, Int.reduceLE, Int.reduceAdd, Int.reduceSub, Int.reduceEq, reduceIte, Nat.reduceBNe, Int.reducePow, Nat.reducePow, Int.reduceMul, Int.reduceNeg, isB_i, isB_b, isB_y, isBv_i, isBv_b, eqCells_t, TT, ids_bsC, ren_bsC, noRo_bsC, plain_bsC, lt_bsC, ids_byte, ren_byte, noRo_byte, plain_byte, lt_byte], r, rfl, rfl⟩

end Go.Proofs.Ytgadpbfmnhkjfaa.Sx
