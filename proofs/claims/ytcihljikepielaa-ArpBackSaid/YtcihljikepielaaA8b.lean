/- The symbolic executor, at work: questions for addresses, read. No condition. -/
import Derived.Test.YtcihljikepielaaA8
namespace Go.Proofs.Ytcihljikepielaa.Sx
open Go
set_option linter.unusedSimpArgs false
set_option linter.unusedVariables false
set_option maxRecDepth 10000
set_option maxHeartbeats 1000000

theorem address_spec (l sp : List UInt8) (c at' : Nat) (hb : at' + 4 ≤ l.length) (hc : l.length ≤ c) (hl : l.length ≤ 140737488355328) : Spec cx.P 32 [.c (roB l sp c), .c (i64 at')] [] fun s h' => s = .c (i32 (get4 l at' : Nat)) ∧ h' = [] := by
  refine spec_of_X cx_ok Try.func32 rfl (by kernel_rfl) (by kernel_rfl) (Nat.le_of_ble_eq_true rfl) 400 6 ?_
  simp (maxSteps := 4000000) only [Try.results32, XX, Nat.reduceBEq, Nat.reduceLT, Nat.reduceAdd, Nat.reduceMul, Nat.reduceSub, Nat.reduceLeDiff, Nat.reduceEqDiff, Int.reduceToNat, Int.reduceLT, Int.reduceLE, Int.reduceAdd, Int.reduceSub, Int.reduceEq, reduceIte, Nat.reduceBNe, Int.reducePow, Nat.reducePow, Int.reduceMul, Int.reduceNeg, isB_i, isB_b, isB_y, isBv_i, isBv_b, eqCells_t, TT]
  refine call_frame (get4_spec l sp c at' hb hc hl) [] rfl rfl trivial rfl rfl ?_
  rintro _ _ ⟨rfl, rfl⟩
  simp (maxSteps := 4000000) only [Try.results32, XX, Nat.reduceBEq, Nat.reduceLT, Nat.reduceAdd, Nat.reduceMul, Nat.reduceSub, Nat.reduceLeDiff, Nat.reduceEqDiff, Int.reduceToNat, Int.reduceLT, Int.reduceLE, Int.reduceAdd, Int.reduceSub, Int.reduceEq, reduceIte, Nat.reduceBNe, Int.reducePow, Nat.reducePow, Int.reduceMul, Int.reduceNeg, isB_i, isB_b, isB_y, isBv_i, isBv_b, eqCells_t, TT]
  have q0 := (l.getD at' 0).toNat_lt
  have q1 := (l.getD (at' + 1) 0).toNat_lt
  have q2 := (l.getD (at' + 2) 0).toNat_lt
  have q3 := (l.getD (at' + 3) 0).toNat_lt
  rw [wu32 (by omega) (by unfold get4; omega)]

abbrev noArp : List SC := arpC 0 .nul 0 .nul 0
abbrev errArp (e : Int) : SV := .tup [(true, noArp), (false, [i64 e])]

theorem dec_short (l sp : List UInt8) (c : Nat) (hl : l.length < 28) : Spec cx.P 14 [.c (roB l sp c)] [] fun s _ => s.plain = true ∧ s = errArp 5 := by
  have d0 : decide ((l.length : Int) < 28) = true := by simp only [decide_eq_true_eq]; omega
  refine spec_of_X cx_ok Try.func14 rfl (by kernel_rfl) (by kernel_rfl) (Nat.le_of_ble_eq_true rfl) 400 6 ?_
  simp (maxSteps := 4000000) only [Try.results14, XX, Nat.reduceBEq, Nat.reduceLT, Nat.reduceAdd, Nat.reduceMul, Nat.reduceSub, Nat.reduceLeDiff, Nat.reduceEqDiff, Int.reduceToNat, Int.reduceLT, Int.reduceLE, Int.reduceAdd, Int.reduceSub, Int.reduceEq, reduceIte, Nat.reduceBNe, Int.reducePow, Nat.reducePow, Int.reduceMul, Int.reduceNeg, isB_i, isB_b, isB_y, isBv_i, isBv_b, eqCells_t, TT]
  simp (maxSteps := 4000000) only [Try.results14, d0, XX, Nat.reduceBEq, Nat.reduceLT, Nat.reduceAdd, Nat.reduceMul, Nat.reduceSub, Nat.reduceLeDiff, Nat.reduceEqDiff, Int.reduceToNat, Int.reduceLT, Int.reduceLE, Int.reduceAdd, Int.reduceSub, Int.reduceEq, reduceIte, Nat.reduceBNe, Int.reducePow, Nat.reducePow, Int.reduceMul, Int.reduceNeg, isB_i, isB_b, isB_y, isBv_i, isBv_b, eqCells_t, TT]
  rfl

/-- A message's bytes, all told. -/
structure A28 where
  h : M6
  p1 : UInt8
  p0 : UInt8
  sm : M6
  i0 : UInt8
  i1 : UInt8
  i2 : UInt8
  i3 : UInt8
  dm : M6
  j0 : UInt8
  j1 : UInt8
  j2 : UInt8
  j3 : UInt8
abbrev A28.l (a : A28) : List UInt8 := [a.h.a, a.h.b, a.h.c, a.h.d, a.h.e, a.h.f, a.p1, a.p0, a.sm.a, a.sm.b, a.sm.c, a.sm.d, a.sm.e, a.sm.f, a.i0, a.i1, a.i2, a.i3, a.dm.a, a.dm.b, a.dm.c, a.dm.d, a.dm.e, a.dm.f, a.j0, a.j1, a.j2, a.j3]
abbrev A28.op (a : A28) : Nat := a.p1.toNat * 256 + a.p0.toNat
abbrev n4 (a b c d : UInt8) : Nat := ((a.toNat * 256 + b.toNat) * 256 + c.toNat) * 256 + d.toNat
abbrev A28.si (a : A28) : Nat := n4 a.i0 a.i1 a.i2 a.i3
abbrev A28.di (a : A28) : Nat := n4 a.j0 a.j1 a.j2 a.j3
def A28.good (a : A28) : Bool := decide (a.h = ⟨0, 1, 8, 0, 6, 4⟩) && (decide ((a.op : Int) = 1) || decide ((a.op : Int) = 2))
def A28.res (a : A28) : SV := bif a.good then .tup [(true, arpC a.op a.sm a.si a.dm a.di), (false, [i64 0])] else errArp 80

theorem dec_spec (a : A28) (t l sp : List UInt8) (he : l = a.l ++ t) (c : Nat) (hc : l.length ≤ c) (hl : l.length ≤ 140737488355328) : Spec cx.P 14 [.c (roB l sp c)] [] fun s _ => s.plain = true ∧ s = a.res := by
  have hn : l.length = 28 + t.length := by rw [he]; simp; omega
  have d0 : decide ((l.length : Int) < 28) = false := by simp only [decide_eq_false_iff_not]; omega
  have m1 : min 6 l.length = 6 := by omega
  have m2 : min l.length 6 = 6 := by omega
  have e6 : ((((bsR (l ++ sp)).take l.length).map RC.toSC).take 6) = [byteC a.h.a, byteC a.h.b, byteC a.h.c, byteC a.h.d, byteC a.h.e, byteC a.h.f] := by
    rw [rs_take, List.take_left' rfl, bsR_toSC, he]; rfl
  obtain ⟨R6, d6⟩ : ∃ R, List.drop 6 (bsR (l ++ sp)) = .v (.int .u8 a.p1.toNat) :: R := by subst he; exact ⟨_, rfl⟩
  obtain ⟨R7, d7⟩ : ∃ R, List.drop 7 (bsR (l ++ sp)) = .v (.int .u8 a.p0.toNat) :: R := by subst he; exact ⟨_, rfl⟩
  have g14 : get4 l 14 = a.si := by subst he; rfl
  have g24 : get4 l 24 = a.di := by subst he; rfl
  refine spec_of_X cx_ok Try.func14 rfl (by kernel_rfl) (by kernel_rfl) (Nat.le_of_ble_eq_true rfl) 400 6 ?_
  simp (maxSteps := 4000000) only [Try.results14, XX, Nat.reduceBEq, Nat.reduceLT, Nat.reduceAdd, Nat.reduceMul, Nat.reduceSub, Nat.reduceLeDiff, Nat.reduceEqDiff, Int.reduceToNat, Int.reduceLT, Int.reduceLE, Int.reduceAdd, Int.reduceSub, Int.reduceEq, reduceIte, Nat.reduceBNe, Int.reducePow, Nat.reducePow, Int.reduceMul, Int.reduceNeg, isB_i, isB_b, isB_y, isBv_i, isBv_b, eqCells_t, TT]
  simp (maxSteps := 4000000) only [Try.results14, d0, m1, m2, e6, XX, Nat.reduceBEq, Nat.reduceLT, Nat.reduceAdd, Nat.reduceMul, Nat.reduceSub, Nat.reduceLeDiff, Nat.reduceEqDiff, Int.reduceToNat, Int.reduceLT, Int.reduceLE, Int.reduceAdd, Int.reduceSub, Int.reduceEq, reduceIte, Nat.reduceBNe, Int.reducePow, Nat.reducePow, Int.reduceMul, Int.reduceNeg, isB_i, isB_b, isB_y, isBv_i, isBv_b, eqCells_t, TT]
  refine ⟨by simp, ?_⟩
  refine draw2_of cx_ok (by kernel_rfl) 400 [0] (.pair [(0, true), (1, true), (2, true), (3, true), (4, true), (5, true), (6, true), (7, true), (8, true), (9, true), (10, true), (12, true)] 11 15 (.pair [] 13 15 (.done [(14, true), (15, false), (16, false)]) (.done [(13, false), (14, true), (16, false)])) (.done [(11, false), (13, false), (14, true), (16, false)])) (by kernel_rfl) rfl ?_
  simp (maxSteps := 4000000) only [Try.results14, PXT_done, PXT_pair, d6, d7, XX, Nat.reduceBEq, Nat.reduceLT, Nat.reduceAdd, Nat.reduceMul, Nat.reduceSub, Nat.reduceLeDiff, Nat.reduceEqDiff, Int.reduceToNat, Int.reduceLT, Int.reduceLE, Int.reduceAdd, Int.reduceSub, Int.reduceEq, reduceIte, Nat.reduceBNe, Int.reducePow, Nat.reducePow, Int.reduceMul, Int.reduceNeg, isB_i, isB_b, isB_y, isBv_i, isBv_b, eqCells_t, TT]
  have p1l := a.p1.toNat_lt
  have p0l := a.p0.toNat_lt
  have or1 := or_two (a := a.p1.toNat) (b := a.p0.toNat) (by omega) (by omega)
  rw [or1]
  refine ⟨by omega, by omega, by omega, by omega, ?_⟩
  constructor
  all_goals
    refine call_frame (address_spec l sp c 14 (by omega) hc hl) [] rfl rfl trivial rfl rfl ?_
    rintro _ _ ⟨rfl, rfl⟩
    rw [g14]
    simp (maxSteps := 4000000) only [Try.results14, PXT_done, PXT_pair, XX, Nat.reduceBEq, Nat.reduceLT, Nat.reduceAdd, Nat.reduceMul, Nat.reduceSub, Nat.reduceLeDiff, Nat.reduceEqDiff, Int.reduceToNat, Int.reduceLT, Int.reduceLE, Int.reduceAdd, Int.reduceSub, Int.reduceEq, reduceIte, Nat.reduceBNe, Int.reducePow, Nat.reducePow, Int.reduceMul, Int.reduceNeg, isB_i, isB_b, isB_y, isBv_i, isBv_b, eqCells_t, TT]
  any_goals refine And.intro ?_ ?_
  all_goals
    refine call_frame (address_spec l sp c 24 (by omega) hc hl) [] rfl rfl trivial rfl rfl ?_
    rintro _ _ ⟨rfl, rfl⟩
    rw [g24]
    simp (maxSteps := 4000000) only [Try.results14, PXT_done, PXT_pair, XX, Nat.reduceBEq, Nat.reduceLT, Nat.reduceAdd, Nat.reduceMul, Nat.reduceSub, Nat.reduceLeDiff, Nat.reduceEqDiff, Int.reduceToNat, Int.reduceLT, Int.reduceLE, Int.reduceAdd, Int.reduceSub, Int.reduceEq, reduceIte, Nat.reduceBNe, Int.reducePow, Nat.reducePow, Int.reduceMul, Int.reduceNeg, isB_i, isB_b, isB_y, isBv_i, isBv_b, eqCells_t, TT]
  all_goals
    refine draw_of cx_ok (by kernel_rfl) 400 [0, 1, 2] [(0, true), (1, false), (2, true), (3, true), (4, true), (5, true), (6, true), (7, true), (8, true), (9, true), (10, true), (11, true), (12, true)] (by kernel_rfl) rfl ?_
    simp (maxSteps := 4000000) only [Try.results14, XX, Nat.reduceBEq, Nat.reduceLT, Nat.reduceAdd, Nat.reduceMul, Nat.reduceSub, Nat.reduceLeDiff, Nat.reduceEqDiff, Int.reduceToNat, Int.reduceLT, Int.reduceLE, Int.reduceAdd, Int.reduceSub, Int.reduceEq, reduceIte, Nat.reduceBNe, Int.reducePow, Nat.reducePow, Int.reduceMul, Int.reduceNeg, isB_i, isB_b, isB_y, isBv_i, isBv_b, eqCells_t, TT]
    refine call_plain head_spec rfl ?_
    rintro _ rfl
    cases e1 : decide (a.h = ⟨0, 1, 8, 0, 6, 4⟩)
    all_goals
      cases e2 : decide ((a.op : Int) = 1)
      all_goals
        cases e3 : decide ((a.op : Int) = 2)
        all_goals
          simp (maxSteps := 4000000) only [Try.results14, eqM a.h ⟨0, 1, 8, 0, 6, 4⟩, e1, e2, e3, XX, Nat.reduceBEq, Nat.reduceLT, Nat.reduceAdd, Nat.reduceMul, Nat.reduceSub, Nat.reduceLeDiff, Nat.reduceEqDiff, Int.reduceToNat, Int.reduceLT, Int.reduceLE, Int.reduceAdd, Int.reduceSub, Int.reduceEq, reduceIte, Nat.reduceBNe, Int.reducePow, Nat.reducePow, Int.reduceMul, Int.reduceNeg, isB_i, isB_b, isB_y, isBv_i, isBv_b, eqCells_t, TT]
  all_goals
    first
    | (have gd : a.good = false := by rw [A28.good, e1, e2, e3]; rfl
       rw [A28.res, gd]
       rfl)
    | skip
  all_goals
    have gd : a.good = true := by rw [A28.good, e1, e2, e3]; rfl
    have m3 : min 6 (l.length - 8) = 6 := by omega
    have m4 : min 6 (l.length - 18) = 6 := by omega
    have m5 : min (l.length - 8) 6 = 6 := by omega
    have m6 : min (l.length - 18) 6 = 6 := by omega
    have e8 : ((((bsR (l ++ sp)).drop 8).take (l.length - 8)).map RC.toSC).take 6 = [byteC a.sm.a, byteC a.sm.b, byteC a.sm.c, byteC a.sm.d, byteC a.sm.e, byteC a.sm.f] := by
      rw [rs_drop, rs_take, bsR_toSC, bs_take, List.take_take, m3, he]; rfl
    have e9 : ((((bsR (l ++ sp)).drop 18).take (l.length - 18)).map RC.toSC).take 6 = [byteC a.dm.a, byteC a.dm.b, byteC a.dm.c, byteC a.dm.d, byteC a.dm.e, byteC a.dm.f] := by
      rw [rs_drop, rs_take, bsR_toSC, bs_take, List.take_take, m4, he]; rfl
    refine draw_of cx_ok (by kernel_rfl) 400 [0, 1] [(0, true), (1, true), (2, true), (3, true), (4, false)] (by kernel_rfl) rfl ?_
    simp (maxSteps := 4000000) only [Try.results14, m3, m4, m5, m6, e8, XX, Nat.reduceBEq, Nat.reduceLT, Nat.reduceAdd, Nat.reduceMul, Nat.reduceSub, Nat.reduceLeDiff, Nat.reduceEqDiff, Int.reduceToNat, Int.reduceLT, Int.reduceLE, Int.reduceAdd, Int.reduceSub, Int.reduceEq, reduceIte, Nat.reduceBNe, Int.reducePow, Nat.reducePow, Int.reduceMul, Int.reduceNeg, isB_i, isB_b, isB_y, isBv_i, isBv_b, eqCells_t, TT]
    refine ⟨by omega, by simp; omega, ?_⟩
    refine draw_of cx_ok (by kernel_rfl) 400 [0, 1] [(0, true), (1, true), (2, true), (3, true), (4, false)] (by kernel_rfl) rfl ?_
    simp (maxSteps := 4000000) only [Try.results14, m3, m4, m5, m6, e9, XX, Nat.reduceBEq, Nat.reduceLT, Nat.reduceAdd, Nat.reduceMul, Nat.reduceSub, Nat.reduceLeDiff, Nat.reduceEqDiff, Int.reduceToNat, Int.reduceLT, Int.reduceLE, Int.reduceAdd, Int.reduceSub, Int.reduceEq, reduceIte, Nat.reduceBNe, Int.reducePow, Nat.reducePow, Int.reduceMul, Int.reduceNeg, isB_i, isB_b, isB_y, isBv_i, isBv_b, eqCells_t, TT]
    exact ⟨by omega, by simp; omega, rfl, by rw [A28.res, gd]; rfl⟩

end Go.Proofs.Ytcihljikepielaa.Sx
