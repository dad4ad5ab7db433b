/- The symbolic executor, at work: questions for addresses, read by the reference. No condition. -/
import Derived.Test.YtcihljikepielaaA8b
import Derived.Test.YtcihljikepielaaRs
namespace Go.Proofs.Ytcihljikepielaa.Sx
open Go
set_option linter.unusedSimpArgs false
set_option linter.unusedVariables false
set_option maxRecDepth 10000
set_option maxHeartbeats 1000000

theorem rmac8_spec (a : A28) (t l sp : List UInt8) (he : l = a.l ++ t) (c : Nat) (hc : l.length ≤ c) : Spec cx.P 33 [.c (roB l sp c), .c (i64 8)] [] fun s _ => s.plain = true ∧ s = .agg (bsC a.sm.l) := by
  have hn : l.length = 28 + t.length := by rw [he]; simp; omega
  obtain ⟨R8, d8⟩ : ∃ R, List.drop 8 (bsR (l ++ sp)) = .v (.int .u8 a.sm.a.toNat) :: R := by subst he; exact ⟨_, rfl⟩
  obtain ⟨R9, d9⟩ : ∃ R, List.drop 9 (bsR (l ++ sp)) = .v (.int .u8 a.sm.b.toNat) :: R := by subst he; exact ⟨_, rfl⟩
  obtain ⟨R10, d10⟩ : ∃ R, List.drop 10 (bsR (l ++ sp)) = .v (.int .u8 a.sm.c.toNat) :: R := by subst he; exact ⟨_, rfl⟩
  obtain ⟨R11, d11⟩ : ∃ R, List.drop 11 (bsR (l ++ sp)) = .v (.int .u8 a.sm.d.toNat) :: R := by subst he; exact ⟨_, rfl⟩
  obtain ⟨R12, d12⟩ : ∃ R, List.drop 12 (bsR (l ++ sp)) = .v (.int .u8 a.sm.e.toNat) :: R := by subst he; exact ⟨_, rfl⟩
  obtain ⟨R13, d13⟩ : ∃ R, List.drop 13 (bsR (l ++ sp)) = .v (.int .u8 a.sm.f.toNat) :: R := by subst he; exact ⟨_, rfl⟩
  have v9 : IntKind.i64.wrap 9 = 9 := rfl
  have v10 : IntKind.i64.wrap 10 = 10 := rfl
  have v11 : IntKind.i64.wrap 11 = 11 := rfl
  have v12 : IntKind.i64.wrap 12 = 12 := rfl
  have v13 : IntKind.i64.wrap 13 = 13 := rfl
  refine spec_of_X cx_ok Try.func33 rfl (by kernel_rfl) (by kernel_rfl) (Nat.le_of_ble_eq_true rfl) 400 5 ?_
  simp (maxSteps := 4000000) only [Try.results33, XX, Nat.reduceBEq, Nat.reduceLT, Nat.reduceAdd, Nat.reduceMul, Nat.reduceSub, Nat.reduceLeDiff, Nat.reduceEqDiff, Int.reduceToNat, Int.reduceLT, Int.reduceLE, Int.reduceAdd, Int.reduceSub, Int.reduceEq, reduceIte, Nat.reduceBNe, Int.reducePow, Nat.reducePow, Int.reduceMul, Int.reduceNeg, isB_i, isB_b, isB_y, isBv_i, isBv_b, eqCells_t, TT]
  refine draw_of cx_ok (by kernel_rfl) 400 [] [(0, true), (1, true), (2, true), (3, true), (4, true), (5, true), (6, true), (7, true), (8, true), (9, true), (10, true), (11, true), (12, true), (13, true), (14, true), (15, true), (16, true), (17, true), (18, true), (19, true), (20, true), (21, true), (22, true), (23, true), (24, true), (25, true), (26, true), (27, true), (28, true), (29, true), (30, false)] (by kernel_rfl) rfl ?_
  simp (maxSteps := 4000000) only [Try.results33, d8, d9, d10, d11, d12, d13, v9, v10, v11, v12, v13, XX, Nat.reduceBEq, Nat.reduceLT, Nat.reduceAdd, Nat.reduceMul, Nat.reduceSub, Nat.reduceLeDiff, Nat.reduceEqDiff, Int.reduceToNat, Int.reduceLT, Int.reduceLE, Int.reduceAdd, Int.reduceSub, Int.reduceEq, reduceIte, Nat.reduceBNe, Int.reducePow, Nat.reducePow, Int.reduceMul, Int.reduceNeg, isB_i, isB_b, isB_y, isBv_i, isBv_b, eqCells_t, TT]
  exact ⟨by omega, by omega, by omega, by omega, by omega, by omega, by omega, by omega, by omega, by omega, by omega, by omega, rfl⟩
theorem rmac18_spec (a : A28) (t l sp : List UInt8) (he : l = a.l ++ t) (c : Nat) (hc : l.length ≤ c) : Spec cx.P 33 [.c (roB l sp c), .c (i64 18)] [] fun s _ => s.plain = true ∧ s = .agg (bsC a.dm.l) := by
  have hn : l.length = 28 + t.length := by rw [he]; simp; omega
  obtain ⟨R18, d18⟩ : ∃ R, List.drop 18 (bsR (l ++ sp)) = .v (.int .u8 a.dm.a.toNat) :: R := by subst he; exact ⟨_, rfl⟩
  obtain ⟨R19, d19⟩ : ∃ R, List.drop 19 (bsR (l ++ sp)) = .v (.int .u8 a.dm.b.toNat) :: R := by subst he; exact ⟨_, rfl⟩
  obtain ⟨R20, d20⟩ : ∃ R, List.drop 20 (bsR (l ++ sp)) = .v (.int .u8 a.dm.c.toNat) :: R := by subst he; exact ⟨_, rfl⟩
  obtain ⟨R21, d21⟩ : ∃ R, List.drop 21 (bsR (l ++ sp)) = .v (.int .u8 a.dm.d.toNat) :: R := by subst he; exact ⟨_, rfl⟩
  obtain ⟨R22, d22⟩ : ∃ R, List.drop 22 (bsR (l ++ sp)) = .v (.int .u8 a.dm.e.toNat) :: R := by subst he; exact ⟨_, rfl⟩
  obtain ⟨R23, d23⟩ : ∃ R, List.drop 23 (bsR (l ++ sp)) = .v (.int .u8 a.dm.f.toNat) :: R := by subst he; exact ⟨_, rfl⟩
  have v19 : IntKind.i64.wrap 19 = 19 := rfl
  have v20 : IntKind.i64.wrap 20 = 20 := rfl
  have v21 : IntKind.i64.wrap 21 = 21 := rfl
  have v22 : IntKind.i64.wrap 22 = 22 := rfl
  have v23 : IntKind.i64.wrap 23 = 23 := rfl
  refine spec_of_X cx_ok Try.func33 rfl (by kernel_rfl) (by kernel_rfl) (Nat.le_of_ble_eq_true rfl) 400 5 ?_
  simp (maxSteps := 4000000) only [Try.results33, XX, Nat.reduceBEq, Nat.reduceLT, Nat.reduceAdd, Nat.reduceMul, Nat.reduceSub, Nat.reduceLeDiff, Nat.reduceEqDiff, Int.reduceToNat, Int.reduceLT, Int.reduceLE, Int.reduceAdd, Int.reduceSub, Int.reduceEq, reduceIte, Nat.reduceBNe, Int.reducePow, Nat.reducePow, Int.reduceMul, Int.reduceNeg, isB_i, isB_b, isB_y, isBv_i, isBv_b, eqCells_t, TT]
  refine draw_of cx_ok (by kernel_rfl) 400 [] [(0, true), (1, true), (2, true), (3, true), (4, true), (5, true), (6, true), (7, true), (8, true), (9, true), (10, true), (11, true), (12, true), (13, true), (14, true), (15, true), (16, true), (17, true), (18, true), (19, true), (20, true), (21, true), (22, true), (23, true), (24, true), (25, true), (26, true), (27, true), (28, true), (29, true), (30, false)] (by kernel_rfl) rfl ?_
  simp (maxSteps := 4000000) only [Try.results33, d18, d19, d20, d21, d22, d23, v19, v20, v21, v22, v23, XX, Nat.reduceBEq, Nat.reduceLT, Nat.reduceAdd, Nat.reduceMul, Nat.reduceSub, Nat.reduceLeDiff, Nat.reduceEqDiff, Int.reduceToNat, Int.reduceLT, Int.reduceLE, Int.reduceAdd, Int.reduceSub, Int.reduceEq, reduceIte, Nat.reduceBNe, Int.reducePow, Nat.reducePow, Int.reduceMul, Int.reduceNeg, isB_i, isB_b, isB_y, isBv_i, isBv_b, eqCells_t, TT]
  exact ⟨by omega, by omega, by omega, by omega, by omega, by omega, by omega, by omega, by omega, by omega, by omega, by omega, rfl⟩

theorem ripAt_spec (l sp : List UInt8) (c at' : Nat) (hb : at' + 4 ≤ l.length) (hc : l.length ≤ c) (hl : l.length ≤ 140737488355328) : Spec cx.P 34 [.c (roB l sp c), .c (i64 at')] [] fun s _ => s.plain = true ∧ s = .c (i32 (get4 l at' : Nat)) := by
  refine spec_of_X cx_ok Try.func34 rfl (by kernel_rfl) (by kernel_rfl) (Nat.le_of_ble_eq_true rfl) 400 6 ?_
  simp (maxSteps := 4000000) only [Try.results34, XX, Nat.reduceBEq, Nat.reduceLT, Nat.reduceAdd, Nat.reduceMul, Nat.reduceSub, Nat.reduceLeDiff, Nat.reduceEqDiff, Int.reduceToNat, Int.reduceLT, Int.reduceLE, Int.reduceAdd, Int.reduceSub, Int.reduceEq, reduceIte, Nat.reduceBNe, Int.reducePow, Nat.reducePow, Int.reduceMul, Int.reduceNeg, isB_i, isB_b, isB_y, isBv_i, isBv_b, eqCells_t, TT]
  refine call_frame (rget4_spec l sp c at' hb hc hl) [] rfl rfl trivial rfl rfl ?_
  rintro _ _ ⟨rfl, rfl⟩
  simp (maxSteps := 4000000) only [Try.results34, XX, Nat.reduceBEq, Nat.reduceLT, Nat.reduceAdd, Nat.reduceMul, Nat.reduceSub, Nat.reduceLeDiff, Nat.reduceEqDiff, Int.reduceToNat, Int.reduceLT, Int.reduceLE, Int.reduceAdd, Int.reduceSub, Int.reduceEq, reduceIte, Nat.reduceBNe, Int.reducePow, Nat.reducePow, Int.reduceMul, Int.reduceNeg, isB_i, isB_b, isB_y, isBv_i, isBv_b, eqCells_t, TT]
  have q0 := (l.getD at' 0).toNat_lt
  have q1 := (l.getD (at' + 1) 0).toNat_lt
  have q2 := (l.getD (at' + 2) 0).toNat_lt
  have q3 := (l.getD (at' + 3) 0).toNat_lt
  rw [wu32 (by omega) (by unfold get4; omega)]

theorem rhead_spec : Spec cx.P 28 [] [] (resS [0, 1, 8, 0, 6, 4]) := by
  refine resS_of ?_
  refine spec_of_X cx_ok Try.func28 rfl (by kernel_rfl) (by kernel_rfl) (Nat.le_of_ble_eq_true rfl) 400 1 ?_
  simp (maxSteps := 4000000) only [Try.results28, XX, Nat.reduceBEq, Nat.reduceLT, Nat.reduceAdd, Nat.reduceMul, Nat.reduceSub, Nat.reduceLeDiff, Nat.reduceEqDiff, Int.reduceToNat, Int.reduceLT, Int.reduceLE, Int.reduceAdd, Int.reduceSub, Int.reduceEq, reduceIte, Nat.reduceBNe, Int.reducePow, Nat.reducePow, Int.reduceMul, Int.reduceNeg, isB_i, isB_b, isB_y, isBv_i, isBv_b, eqCells_t, TT]
  simp only [List.replicate_succ, List.replicate_zero, List.flatten_cons, List.flatten_nil, List.cons_append, List.nil_append, List.drop_succ_cons, List.drop_zero, List.length_cons, List.length_nil, Nat.reduceAdd, Nat.reduceLeDiff, reduceIte]
  simp (maxSteps := 4000000) only [Try.results28, XX, Nat.reduceBEq, Nat.reduceLT, Nat.reduceAdd, Nat.reduceMul, Nat.reduceSub, Nat.reduceLeDiff, Nat.reduceEqDiff, Int.reduceToNat, Int.reduceLT, Int.reduceLE, Int.reduceAdd, Int.reduceSub, Int.reduceEq, reduceIte, Nat.reduceBNe, Int.reducePow, Nat.reducePow, Int.reduceMul, Int.reduceNeg, isB_i, isB_b, isB_y, isBv_i, isBv_b, eqCells_t, TT]
  exact ⟨0, [], true, rfl, rfl, fun _ => rfl⟩

theorem rdec_short (l sp : List UInt8) (c : Nat) (hl : l.length < 28) : Spec cx.P 16 [.c (roB l sp c)] [] fun s _ => s.plain = true ∧ s = errArp 5 := by
  have d0 : decide ((l.length : Int) < 28) = true := by simp only [decide_eq_true_eq]; omega
  refine spec_of_X cx_ok Try.func16 rfl (by kernel_rfl) (by kernel_rfl) (Nat.le_of_ble_eq_true rfl) 400 4 ?_
  simp (maxSteps := 4000000) only [Try.results16, XX, Nat.reduceBEq, Nat.reduceLT, Nat.reduceAdd, Nat.reduceMul, Nat.reduceSub, Nat.reduceLeDiff, Nat.reduceEqDiff, Int.reduceToNat, Int.reduceLT, Int.reduceLE, Int.reduceAdd, Int.reduceSub, Int.reduceEq, reduceIte, Nat.reduceBNe, Int.reducePow, Nat.reducePow, Int.reduceMul, Int.reduceNeg, isB_i, isB_b, isB_y, isBv_i, isBv_b, eqCells_t, TT]
  simp (maxSteps := 4000000) only [Try.results16, d0, XX, Nat.reduceBEq, Nat.reduceLT, Nat.reduceAdd, Nat.reduceMul, Nat.reduceSub, Nat.reduceLeDiff, Nat.reduceEqDiff, Int.reduceToNat, Int.reduceLT, Int.reduceLE, Int.reduceAdd, Int.reduceSub, Int.reduceEq, reduceIte, Nat.reduceBNe, Int.reducePow, Nat.reducePow, Int.reduceMul, Int.reduceNeg, isB_i, isB_b, isB_y, isBv_i, isBv_b, eqCells_t, TT]
  rfl

theorem rdec_spec (a : A28) (t l sp : List UInt8) (he : l = a.l ++ t) (c : Nat) (hc : l.length ≤ c) (hl : l.length ≤ 140737488355328) : Spec cx.P 16 [.c (roB l sp c)] [] fun s _ => s.plain = true ∧ s = a.res := by
  have hn : l.length = 28 + t.length := by rw [he]; simp; omega
  have d0 : decide ((l.length : Int) < 28) = false := by simp only [decide_eq_false_iff_not]; omega
  obtain ⟨R6, d6⟩ : ∃ R, List.drop 6 (bsR (l ++ sp)) = .v (.int .u8 a.p1.toNat) :: R := by subst he; exact ⟨_, rfl⟩
  obtain ⟨R7, d7⟩ : ∃ R, List.drop 7 (bsR (l ++ sp)) = .v (.int .u8 a.p0.toNat) :: R := by subst he; exact ⟨_, rfl⟩
  have g14 : get4 l 14 = a.si := by subst he; rfl
  have g24 : get4 l 24 = a.di := by subst he; rfl
  have e6 : List.take 6 (bsR (l ++ sp)) = bsR a.h.l := by subst he; rfl
  obtain ⟨H, hH⟩ : ∃ H, H = a.h.l := ⟨_, rfl⟩
  rw [← hH] at e6
  refine spec_of_X cx_ok Try.func16 rfl (by kernel_rfl) (by kernel_rfl) (Nat.le_of_ble_eq_true rfl) 400 4 ?_
  simp (maxSteps := 4000000) only [Try.results16, XX, Nat.reduceBEq, Nat.reduceLT, Nat.reduceAdd, Nat.reduceMul, Nat.reduceSub, Nat.reduceLeDiff, Nat.reduceEqDiff, Int.reduceToNat, Int.reduceLT, Int.reduceLE, Int.reduceAdd, Int.reduceSub, Int.reduceEq, reduceIte, Nat.reduceBNe, Int.reducePow, Nat.reducePow, Int.reduceMul, Int.reduceNeg, isB_i, isB_b, isB_y, isBv_i, isBv_b, eqCells_t, TT]
  simp (maxSteps := 4000000) only [Try.results16, d0, XX, Nat.reduceBEq, Nat.reduceLT, Nat.reduceAdd, Nat.reduceMul, Nat.reduceSub, Nat.reduceLeDiff, Nat.reduceEqDiff, Int.reduceToNat, Int.reduceLT, Int.reduceLE, Int.reduceAdd, Int.reduceSub, Int.reduceEq, reduceIte, Nat.reduceBNe, Int.reducePow, Nat.reducePow, Int.reduceMul, Int.reduceNeg, isB_i, isB_b, isB_y, isBv_i, isBv_b, eqCells_t, TT]
  refine draw_of cx_ok (by kernel_rfl) 400 [0] [(0, true), (1, true), (2, true), (3, false), (4, false), (5, true), (6, true), (7, true), (8, true), (9, true), (10, true), (11, true), (12, true), (13, true), (14, true), (15, true), (16, true), (17, true), (18, true), (19, true), (20, true), (21, true), (22, true), (23, true)] (by kernel_rfl) rfl ?_
  simp (maxSteps := 4000000) only [Try.results16, e6, bsR_toSC, strOf_bsC, XX, Nat.reduceBEq, Nat.reduceLT, Nat.reduceAdd, Nat.reduceMul, Nat.reduceSub, Nat.reduceLeDiff, Nat.reduceEqDiff, Int.reduceToNat, Int.reduceLT, Int.reduceLE, Int.reduceAdd, Int.reduceSub, Int.reduceEq, reduceIte, Nat.reduceBNe, Int.reducePow, Nat.reducePow, Int.reduceMul, Int.reduceNeg, isB_i, isB_b, isB_y, isBv_i, isBv_b, eqCells_t, TT]
  refine ⟨by omega, ⟨by simp; omega, isByte_bsC H⟩, ?_⟩
  refine call_fz [] rhead_spec (fun t h' h => resS_noRo h) trivial ?_
  rintro _ _ ⟨z, o, rfl, rfl, ho⟩
  obtain ⟨H0, hH0⟩ : ∃ H0 : List UInt8, H0 = [0, 1, 8, 0, 6, 4] := ⟨_, rfl⟩
  rw [← hH0] at ho ⊢
  have tk : ∀ a b : List UInt8, (bsC (a ++ b)).take a.length = bsC a := fun a b => by rw [bs_take, List.take_left' rfl]
  have qq : ∀ a b : List UInt8, a.length ≤ (bsC (a ++ b)).length ∧ ∀ c ∈ bsC a, isByte c = true := fun a b => ⟨by simp, isByte_bsC a⟩
  have hgood : a.good = (decide (H = H0) && (decide ((a.p1.toNat : Int) = 0) && (!decide ((a.p0.toNat : Int) < 1) && !decide (2 < (a.p0.toNat : Int))))) := by
    have := a.p1.toNat_lt
    have := a.p0.toNat_lt
    have h1 : decide (a.h = ⟨0, 1, 8, 0, 6, 4⟩) = decide (H = H0) := by
      rw [decide_eq_decide, hH, hH0]
      obtain ⟨⟨_, _, _, _, _, _⟩, _⟩ := a
      simp
    rw [A28.good, h1, A28.op]
    congr 1
    rw [Bool.eq_iff_iff]
    simp
    omega
  have b6 : decide ((a.p1.toNat : Int) = 0) = true ∨ decide ((a.p1.toNat : Int) = 0) = false := by cases decide ((a.p1.toNat : Int) = 0) <;> simp
  cases e1 : decide (H = H0)
  · simp (maxSteps := 4000000) only [Try.results16, PXT_done, PXT_pair, ids_bsC, ren_bsC, noRo_bsC, plain_bsC, lt_bsC, ids_byte, ren_byte, noRo_byte, plain_byte, lt_byte, tk, strOf_bsC, str_eq, e1, d6, d7, XX, Nat.reduceBEq, Nat.reduceLT, Nat.reduceAdd, Nat.reduceMul, Nat.reduceSub, Nat.reduceLeDiff, Nat.reduceEqDiff, Int.reduceToNat, Int.reduceLT, Int.reduceLE, Int.reduceAdd, Int.reduceSub, Int.reduceEq, reduceIte, Nat.reduceBNe, Int.reducePow, Nat.reducePow, Int.reduceMul, Int.reduceNeg, isB_i, isB_b, isB_y, isBv_i, isBv_b, eqCells_t, TT]
    exact ⟨qq _ _, by rw [A28.res, hgood, e1]; rfl⟩
  cases e2 : decide ((a.p1.toNat : Int) = 0)
  · simp (maxSteps := 4000000) only [Try.results16, PXT_done, PXT_pair, ids_bsC, ren_bsC, noRo_bsC, plain_bsC, lt_bsC, ids_byte, ren_byte, noRo_byte, plain_byte, lt_byte, tk, strOf_bsC, str_eq, e1, d6, e2, d7, XX, Nat.reduceBEq, Nat.reduceLT, Nat.reduceAdd, Nat.reduceMul, Nat.reduceSub, Nat.reduceLeDiff, Nat.reduceEqDiff, Int.reduceToNat, Int.reduceLT, Int.reduceLE, Int.reduceAdd, Int.reduceSub, Int.reduceEq, reduceIte, Nat.reduceBNe, Int.reducePow, Nat.reducePow, Int.reduceMul, Int.reduceNeg, isB_i, isB_b, isB_y, isBv_i, isBv_b, eqCells_t, TT]
    exact ⟨qq _ _, by omega, by omega, by rw [A28.res, hgood, e1, e2]; rfl⟩
  cases e3 : decide ((a.p0.toNat : Int) < 1)
  · cases e4 : decide (2 < (a.p0.toNat : Int))
    · simp (maxSteps := 4000000) only [Try.results16, PXT_done, PXT_pair, ids_bsC, ren_bsC, noRo_bsC, plain_bsC, lt_bsC, ids_byte, ren_byte, noRo_byte, plain_byte, lt_byte, tk, strOf_bsC, str_eq, e1, d6, e2, d7, e3, e4, XX, Nat.reduceBEq, Nat.reduceLT, Nat.reduceAdd, Nat.reduceMul, Nat.reduceSub, Nat.reduceLeDiff, Nat.reduceEqDiff, Int.reduceToNat, Int.reduceLT, Int.reduceLE, Int.reduceAdd, Int.reduceSub, Int.reduceEq, reduceIte, Nat.reduceBNe, Int.reducePow, Nat.reducePow, Int.reduceMul, Int.reduceNeg, isB_i, isB_b, isB_y, isBv_i, isBv_b, eqCells_t, TT]
      refine ⟨qq _ _, by omega, by omega, by omega, by omega, by omega, by omega, ?_⟩
      have gd : a.good = true := by rw [hgood, e1, e2, e3, e4]; rfl
      have p1 := ripAt_spec l sp c 14 (by omega) hc hl
      have p2 := ripAt_spec l sp c 24 (by omega) hc hl
      rw [g14] at p1
      rw [g24] at p2
      have p3 := rmac8_spec a t l sp he c hc
      have p4 := rmac18_spec a t l sp he c hc
      have fz0 : frV true (fun _ => true) (fun i => 2 + i) 0 [⟨true, 27, arpC 0 .nul 0 .nul 0⟩, wB o (H0 ++ z)] (.c (roB l sp c)) (.c (roB l sp c)) := .inl ⟨rfl, rfl⟩
      refine draw_of cx_ok (by kernel_rfl) 400 [] [(0, true), (1, true), (2, true), (3, true), (4, true), (6, true), (8, true), (10, true), (5, false), (7, false), (9, false), (11, false), (12, true), (13, false), (14, true)] (by kernel_rfl) rfl ?_
      simp (maxSteps := 4000000) only [Try.results16, d7, XX, Nat.reduceBEq, Nat.reduceLT, Nat.reduceAdd, Nat.reduceMul, Nat.reduceSub, Nat.reduceLeDiff, Nat.reduceEqDiff, Int.reduceToNat, Int.reduceLT, Int.reduceLE, Int.reduceAdd, Int.reduceSub, Int.reduceEq, reduceIte, Nat.reduceBNe, Int.reducePow, Nat.reducePow, Int.reduceMul, Int.reduceNeg, isB_i, isB_b, isB_y, isBv_i, isBv_b, eqCells_t, TT]
      refine ⟨by omega, by omega, ?_⟩
      have w7 : IntKind.i64.wrap (a.p0.toNat : Int) = (a.p0.toNat : Int) := by have := a.p0.toNat_lt; rw [w64] <;> omega
      refine call_pureF [.c (roB l sp c), .c (i64 8)] p3 ⟨.inl ⟨rfl, rfl⟩, .inl ⟨rfl, rfl⟩, trivial⟩ ?_
      rintro _ rfl
      simp (maxSteps := 4000000) only [Try.results16, PXT_done, PXT_pair, ids_bsC, ren_bsC, noRo_bsC, plain_bsC, lt_bsC, ids_byte, ren_byte, noRo_byte, plain_byte, lt_byte, w7, XX, Nat.reduceBEq, Nat.reduceLT, Nat.reduceAdd, Nat.reduceMul, Nat.reduceSub, Nat.reduceLeDiff, Nat.reduceEqDiff, Int.reduceToNat, Int.reduceLT, Int.reduceLE, Int.reduceAdd, Int.reduceSub, Int.reduceEq, reduceIte, Nat.reduceBNe, Int.reducePow, Nat.reducePow, Int.reduceMul, Int.reduceNeg, isB_i, isB_b, isB_y, isBv_i, isBv_b, eqCells_t, TT]
      refine call_pureF [.c (roB l sp c), .c (i64 14)] p1 ⟨.inl ⟨rfl, rfl⟩, .inl ⟨rfl, rfl⟩, trivial⟩ ?_
      rintro _ rfl
      simp (maxSteps := 4000000) only [Try.results16, PXT_done, PXT_pair, ids_bsC, ren_bsC, noRo_bsC, plain_bsC, lt_bsC, ids_byte, ren_byte, noRo_byte, plain_byte, lt_byte, XX, Nat.reduceBEq, Nat.reduceLT, Nat.reduceAdd, Nat.reduceMul, Nat.reduceSub, Nat.reduceLeDiff, Nat.reduceEqDiff, Int.reduceToNat, Int.reduceLT, Int.reduceLE, Int.reduceAdd, Int.reduceSub, Int.reduceEq, reduceIte, Nat.reduceBNe, Int.reducePow, Nat.reducePow, Int.reduceMul, Int.reduceNeg, isB_i, isB_b, isB_y, isBv_i, isBv_b, eqCells_t, TT]
      refine call_pureF [.c (roB l sp c), .c (i64 18)] p4 ⟨.inl ⟨rfl, rfl⟩, .inl ⟨rfl, rfl⟩, trivial⟩ ?_
      rintro _ rfl
      simp (maxSteps := 4000000) only [Try.results16, PXT_done, PXT_pair, ids_bsC, ren_bsC, noRo_bsC, plain_bsC, lt_bsC, ids_byte, ren_byte, noRo_byte, plain_byte, lt_byte, XX, Nat.reduceBEq, Nat.reduceLT, Nat.reduceAdd, Nat.reduceMul, Nat.reduceSub, Nat.reduceLeDiff, Nat.reduceEqDiff, Int.reduceToNat, Int.reduceLT, Int.reduceLE, Int.reduceAdd, Int.reduceSub, Int.reduceEq, reduceIte, Nat.reduceBNe, Int.reducePow, Nat.reducePow, Int.reduceMul, Int.reduceNeg, isB_i, isB_b, isB_y, isBv_i, isBv_b, eqCells_t, TT]
      refine call_pureF [.c (roB l sp c), .c (i64 24)] p2 ⟨.inl ⟨rfl, rfl⟩, .inl ⟨rfl, rfl⟩, trivial⟩ ?_
      rintro _ rfl
      simp (maxSteps := 4000000) only [Try.results16, PXT_done, PXT_pair, ids_bsC, ren_bsC, noRo_bsC, plain_bsC, lt_bsC, ids_byte, ren_byte, noRo_byte, plain_byte, lt_byte, XX, Nat.reduceBEq, Nat.reduceLT, Nat.reduceAdd, Nat.reduceMul, Nat.reduceSub, Nat.reduceLeDiff, Nat.reduceEqDiff, Int.reduceToNat, Int.reduceLT, Int.reduceLE, Int.reduceAdd, Int.reduceSub, Int.reduceEq, reduceIte, Nat.reduceBNe, Int.reducePow, Nat.reducePow, Int.reduceMul, Int.reduceNeg, isB_i, isB_b, isB_y, isBv_i, isBv_b, eqCells_t, TT]
      have ho7 : ((a.p0.toNat : Nat) : Int) = (a.op : Int) := by simp only [decide_eq_true_eq] at e2; unfold A28.op; omega
      rw [A28.res, gd, ho7]
      rfl
    · simp (maxSteps := 4000000) only [Try.results16, PXT_done, PXT_pair, ids_bsC, ren_bsC, noRo_bsC, plain_bsC, lt_bsC, ids_byte, ren_byte, noRo_byte, plain_byte, lt_byte, tk, strOf_bsC, str_eq, e1, d6, e2, d7, e3, e4, XX, Nat.reduceBEq, Nat.reduceLT, Nat.reduceAdd, Nat.reduceMul, Nat.reduceSub, Nat.reduceLeDiff, Nat.reduceEqDiff, Int.reduceToNat, Int.reduceLT, Int.reduceLE, Int.reduceAdd, Int.reduceSub, Int.reduceEq, reduceIte, Nat.reduceBNe, Int.reducePow, Nat.reducePow, Int.reduceMul, Int.reduceNeg, isB_i, isB_b, isB_y, isBv_i, isBv_b, eqCells_t, TT]
      exact ⟨qq _ _, by omega, by omega, by omega, by omega, by omega, by omega, by rw [A28.res, hgood, e1, e2, e3, e4]; rfl⟩
  · simp (maxSteps := 4000000) only [Try.results16, PXT_done, PXT_pair, ids_bsC, ren_bsC, noRo_bsC, plain_bsC, lt_bsC, ids_byte, ren_byte, noRo_byte, plain_byte, lt_byte, tk, strOf_bsC, str_eq, e1, d6, e2, d7, e3, XX, Nat.reduceBEq, Nat.reduceLT, Nat.reduceAdd, Nat.reduceMul, Nat.reduceSub, Nat.reduceLeDiff, Nat.reduceEqDiff, Int.reduceToNat, Int.reduceLT, Int.reduceLE, Int.reduceAdd, Int.reduceSub, Int.reduceEq, reduceIte, Nat.reduceBNe, Int.reducePow, Nat.reducePow, Int.reduceMul, Int.reduceNeg, isB_i, isB_b, isB_y, isBv_i, isBv_b, eqCells_t, TT]
    exact ⟨qq _ _, by omega, by omega, by omega, by omega, by rw [A28.res, hgood, e1, e2, e3]; rfl⟩

end Go.Proofs.Ytcihljikepielaa.Sx
