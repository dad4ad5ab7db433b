/- The symbolic executor, at work: the law RoutePlays, walked. No condition. -/
import Derived.Test.YtfjapffakihphaaRtE
import Derived.Test.YtfjapffakihphaaSxOpen
namespace Go.Proofs.Ytfjapffakihphaa.Sx
open Go
set_option linter.unusedSimpArgs false
set_option linter.unusedVariables false
set_option maxRecDepth 10000
set_option maxHeartbeats 1000000

def opCells (o : Int × Int × Int × Int) : List RC := [.v (.int .i64 o.1), .v (.int .u32 o.2.1), .v (.int .u32 o.2.2.1), .v (.int .u32 o.2.2.2)]

theorem ops_form {l : List RC} (h : RTy T 7 31 l) : ∃ o, l = opCells o ∧ (W o.2.1 ∧ W o.2.2.1 ∧ W o.2.2.2) := by
  obtain ⟨parts, rfl, hp⟩ := RTy_struct T_31 h
  simp only [List.map_cons, List.map_nil] at hp
  obtain ⟨p0, _, rfl, q0, hp⟩ := RTyL_cons hp
  obtain ⟨p1, _, rfl, q1, hp⟩ := RTyL_cons hp
  obtain ⟨p2, _, rfl, q2, hp⟩ := RTyL_cons hp
  obtain ⟨p3, _, rfl, q3, hp⟩ := RTyL_cons hp
  obtain rfl := RTyL_nil hp
  obtain ⟨k, rfl, _⟩ := RTy_int T_3 q0
  obtain ⟨x, rfl, x1, x2⟩ := RTy_int T_29 q1
  obtain ⟨y, rfl, y1, y2⟩ := RTy_int T_29 q2
  obtain ⟨z, rfl, z1, z2⟩ := RTy_int T_29 q3
  exact ⟨(k, x, y, z), rfl, W_of x1 x2, W_of y1 y2, W_of z1 z2⟩

theorem ops_len {ops : List (Int × Int × Int × Int)} : ∀ x ∈ ops.map opCells, x.length = 4 := by
  intro x hx
  simp only [List.mem_map] at hx
  obtain ⟨o, _, rfl⟩ := hx
  rfl

theorem routePlays_walk : ∀ css, RTyL (RTy T DEPTH) [23] css → Spec cx.P 4 (svs T [23] css) [] fun r _ => r = .c (.v (.bool true)) := by
  intro css h
  match css, h with
  | [l0], ⟨h0, _⟩ =>
    obtain ⟨items, len, rfl, hlen, hmax, hit⟩ := RTy_slice T_23 h0
    obtain ⟨ops, rfl, hops⟩ := all_form fun x hx => ops_form (hit x hx)
    simp only [List.length_map] at hlen hmax ⊢
    simp only [svs, svOf, T_23, TD.agg, cond_false, RC.toSC]
    refine spec_of_X cx_ok Try.func4 rfl (by kernel_rfl) (by kernel_rfl) (Nat.le_of_ble_eq_true rfl) 400 14 ?_
    simp (maxSteps := 4000000) only [Try.results4, XX, Nat.reduceBEq, Nat.reduceLT, Nat.reduceAdd, Nat.reduceMul, Nat.reduceSub, Nat.reduceLeDiff, Nat.reduceEqDiff, Int.reduceToNat, Int.reduceLT, Int.reduceLE, Int.reduceAdd, Int.reduceSub, Int.reduceEq, reduceIte, Nat.reduceBNe, Int.reducePow, Nat.reducePow, Int.reduceMul, Int.reduceNeg, TT]
    refine call_plain (live_spec) rfl ?_
    rintro _ rfl
    simp (maxSteps := 4000000) only [Try.results4, XX, Nat.reduceBEq, Nat.reduceLT, Nat.reduceAdd, Nat.reduceMul, Nat.reduceSub, Nat.reduceLeDiff, Nat.reduceEqDiff, Int.reduceToNat, Int.reduceLT, Int.reduceLE, Int.reduceAdd, Int.reduceSub, Int.reduceEq, reduceIte, Nat.reduceBNe, Int.reducePow, Nat.reducePow, Int.reduceMul, Int.reduceNeg, TT]
    refine call_frame (new_spec) [] rfl rfl trivial rfl rfl ?_
    rintro _ _ ⟨rfl, rfl⟩
    simp (maxSteps := 4000000) only [Try.results4, XX, Nat.reduceBEq, Nat.reduceLT, Nat.reduceAdd, Nat.reduceMul, Nat.reduceSub, Nat.reduceLeDiff, Nat.reduceEqDiff, Int.reduceToNat, Int.reduceLT, Int.reduceLE, Int.reduceAdd, Int.reduceSub, Int.reduceEq, reduceIte, Nat.reduceBNe, Int.reducePow, Nat.reducePow, Int.reduceMul, Int.reduceNeg, TT]
    refine call_frame (new_spec) [] rfl rfl trivial rfl rfl ?_
    rintro _ _ ⟨rfl, rfl⟩
    simp (maxSteps := 4000000) only [Try.results4, XX, Nat.reduceBEq, Nat.reduceLT, Nat.reduceAdd, Nat.reduceMul, Nat.reduceSub, Nat.reduceLeDiff, Nat.reduceEqDiff, Int.reduceToNat, Int.reduceLT, Int.reduceLE, Int.reduceAdd, Int.reduceSub, Int.reduceEq, reduceIte, Nat.reduceBNe, Int.reducePow, Nat.reducePow, Int.reduceMul, Int.reduceNeg, TT]
    refine call_frame (refNew_spec) [] rfl rfl trivial rfl rfl ?_
    rintro _ _ ⟨rfl, rfl⟩
    simp (maxSteps := 4000000) only [Try.results4, XX, Nat.reduceBEq, Nat.reduceLT, Nat.reduceAdd, Nat.reduceMul, Nat.reduceSub, Nat.reduceLeDiff, Nat.reduceEqDiff, Int.reduceToNat, Int.reduceLT, Int.reduceLE, Int.reduceAdd, Int.reduceSub, Int.reduceEq, reduceIte, Nat.reduceBNe, Int.reducePow, Nat.reducePow, Int.reduceMul, Int.reduceNeg, TT]
    refine call_frame (refNew_spec) [] rfl rfl trivial rfl rfl ?_
    rintro _ _ ⟨rfl, rfl⟩
    simp (maxSteps := 4000000) only [Try.results4, XX, Nat.reduceBEq, Nat.reduceLT, Nat.reduceAdd, Nat.reduceMul, Nat.reduceSub, Nat.reduceLeDiff, Nat.reduceEqDiff, Int.reduceToNat, Int.reduceLT, Int.reduceLE, Int.reduceAdd, Int.reduceSub, Int.reduceEq, reduceIte, Nat.reduceBNe, Int.reducePow, Nat.reducePow, Int.reduceMul, Int.reduceNeg, TT]
    refine loop_of cx_ok 400 (fun μ σ => ∃ i a b c a' b' c', μ = len - i ∧ i ≤ len ∧ (W a ∧ W b ∧ W c) ∧ (W a' ∧ W b' ∧ W c') ∧
      σ = ⟨⟨14, 0⟩, [(0, SV.c (SC.ro (List.map opCells ops).flatten len ops.length)), (2, SV.c (SC.v (Value.bool false))), (3, SV.c (bC true)), (4, SV.c (SC.ptr 0 0)), (5, SV.c (SC.ptr 1 0)), (6, SV.c (SC.ptr 2 0)), (7, SV.c (SC.ptr 3 0)), (8, .c (i64 (i : Nat)))],
        [wT a b c, wT a' b' c', wX (nz a b c) a b c, wX (nz a' b' c') a' b' c']⟩) len _ ⟨0, 0, 0, 0, 0, 0, 0, rfl, Nat.zero_le _, by simp [W], by simp [W], rfl⟩ [some 0, some 1, some 2, some 3] ⟨rfl, rfl, by simp [XX, Nat.reduceBEq, Nat.reduceLT, Nat.reduceAdd, Nat.reduceMul, Nat.reduceSub, Nat.reduceLeDiff, Nat.reduceEqDiff, Int.reduceToNat, Int.reduceLT, Int.reduceLE, Int.reduceAdd, Int.reduceSub, Int.reduceEq, reduceIte, Nat.reduceBNe, Int.reducePow, Nat.reducePow, Int.reduceMul, Int.reduceNeg, TT]; rfl, by simp [XX, Nat.reduceBEq, Nat.reduceLT, Nat.reduceAdd, Nat.reduceMul, Nat.reduceSub, Nat.reduceLeDiff, Nat.reduceEqDiff, Int.reduceToNat, Int.reduceLT, Int.reduceLE, Int.reduceAdd, Int.reduceSub, Int.reduceEq, reduceIte, Nat.reduceBNe, Int.reducePow, Nat.reducePow, Int.reduceMul, Int.reduceNeg, TT]⟩ ?_
    rintro μ σ ⟨i, a, b, c, a', b', c', rfl, hi, ⟨ha, hb, hc⟩, ⟨ha', hb', hc'⟩, rfl⟩
    simp (maxSteps := 4000000) only [Try.results4, XX, Nat.reduceBEq, Nat.reduceLT, Nat.reduceAdd, Nat.reduceMul, Nat.reduceSub, Nat.reduceLeDiff, Nat.reduceEqDiff, Int.reduceToNat, Int.reduceLT, Int.reduceLE, Int.reduceAdd, Int.reduceSub, Int.reduceEq, reduceIte, Nat.reduceBNe, Int.reducePow, Nat.reducePow, Int.reduceMul, Int.reduceNeg, TT]
    by_cases hlt : i < len
    · have hl : decide ((i : Int) < (len : Int)) = true := by simpa using hlt
      simp (maxSteps := 4000000) only [Try.results4, hl, XX, Nat.reduceBEq, Nat.reduceLT, Nat.reduceAdd, Nat.reduceMul, Nat.reduceSub, Nat.reduceLeDiff, Nat.reduceEqDiff, Int.reduceToNat, Int.reduceLT, Int.reduceLE, Int.reduceAdd, Int.reduceSub, Int.reduceEq, reduceIte, Nat.reduceBNe, Int.reducePow, Nat.reducePow, Int.reduceMul, Int.reduceNeg, TT]
      have hfl := flat_len (ops_len (ops := ops))
      have hio : i < ops.length := by omega
      have hfa := flat_at (ops_len (ops := ops)) (i := i) (by simpa using hio)
      rw [List.getElem_map] at hfa
      have hw := hops ops[i] (List.getElem_mem hio)
      obtain ⟨k, x, y, z⟩ := ops[i]
      simp only [List.length_map] at hfl
      cases h4 : decide (((i : Nat) : Int).tmod 4 = 3)
      · simp (maxSteps := 4000000) only [Try.results4, XX, Nat.reduceBEq, Nat.reduceLT, Nat.reduceAdd, Nat.reduceMul, Nat.reduceSub, Nat.reduceLeDiff, Nat.reduceEqDiff, Int.reduceToNat, Int.reduceLT, Int.reduceLE, Int.reduceAdd, Int.reduceSub, Int.reduceEq, reduceIte, Nat.reduceBNe, Int.reducePow, Nat.reducePow, Int.reduceMul, Int.reduceNeg, TT]
        refine ⟨by omega, by rw [List.length_drop, hfl]; omega, ?_⟩
        simp (maxSteps := 4000000) only [Try.results4, hfa, opCells, XX, Nat.reduceBEq, Nat.reduceLT, Nat.reduceAdd, Nat.reduceMul, Nat.reduceSub, Nat.reduceLeDiff, Nat.reduceEqDiff, Int.reduceToNat, Int.reduceLT, Int.reduceLE, Int.reduceAdd, Int.reduceSub, Int.reduceEq, reduceIte, Nat.reduceBNe, Int.reducePow, Nat.reducePow, Int.reduceMul, Int.reduceNeg, TT]
        refine call_frame (step_spec ha hb hc hw.1 hw.2.1 hw.2.2) [0, 2] rfl rfl ⟨⟨rfl, fun _ => ⟨rfl, rfl⟩⟩, ⟨⟨rfl, fun _ => ⟨rfl, rfl⟩⟩, trivial⟩⟩ rfl rfl ?_
        rintro _ _ ⟨rfl, a, b, c, ⟨ha, hb, hc, rfl⟩⟩
        simp (maxSteps := 4000000) only [Try.results4, XX, Nat.reduceBEq, Nat.reduceLT, Nat.reduceAdd, Nat.reduceMul, Nat.reduceSub, Nat.reduceLeDiff, Nat.reduceEqDiff, Int.reduceToNat, Int.reduceLT, Int.reduceLE, Int.reduceAdd, Int.reduceSub, Int.reduceEq, reduceIte, Nat.reduceBNe, Int.reducePow, Nat.reducePow, Int.reduceMul, Int.reduceNeg, TT]
        refine ⟨len - (i + 1), by omega, _, ⟨i + 1, a, b, c, a', b', c', rfl, by omega, ⟨ha, hb, hc⟩, ⟨ha', hb', hc'⟩, rfl⟩, [some 0, some 1, some 2, some 3], ⟨rfl, rfl, by simp [XX, Nat.reduceBEq, Nat.reduceLT, Nat.reduceAdd, Nat.reduceMul, Nat.reduceSub, Nat.reduceLeDiff, Nat.reduceEqDiff, Int.reduceToNat, Int.reduceLT, Int.reduceLE, Int.reduceAdd, Int.reduceSub, Int.reduceEq, reduceIte, Nat.reduceBNe, Int.reducePow, Nat.reducePow, Int.reduceMul, Int.reduceNeg, TT], ?_⟩⟩
        simp [XX, Nat.reduceBEq, Nat.reduceLT, Nat.reduceAdd, Nat.reduceMul, Nat.reduceSub, Nat.reduceLeDiff, Nat.reduceEqDiff, Int.reduceToNat, Int.reduceLT, Int.reduceLE, Int.reduceAdd, Int.reduceSub, Int.reduceEq, reduceIte, Nat.reduceBNe, Int.reducePow, Nat.reducePow, Int.reduceMul, Int.reduceNeg, TT, wrap_i64]
        unfold maxLen at hmax
        omega
      · simp (maxSteps := 4000000) only [Try.results4, XX, Nat.reduceBEq, Nat.reduceLT, Nat.reduceAdd, Nat.reduceMul, Nat.reduceSub, Nat.reduceLeDiff, Nat.reduceEqDiff, Int.reduceToNat, Int.reduceLT, Int.reduceLE, Int.reduceAdd, Int.reduceSub, Int.reduceEq, reduceIte, Nat.reduceBNe, Int.reducePow, Nat.reducePow, Int.reduceMul, Int.reduceNeg, TT]
        refine ⟨by omega, by rw [List.length_drop, hfl]; omega, ?_⟩
        simp (maxSteps := 4000000) only [Try.results4, hfa, opCells, XX, Nat.reduceBEq, Nat.reduceLT, Nat.reduceAdd, Nat.reduceMul, Nat.reduceSub, Nat.reduceLeDiff, Nat.reduceEqDiff, Int.reduceToNat, Int.reduceLT, Int.reduceLE, Int.reduceAdd, Int.reduceSub, Int.reduceEq, reduceIte, Nat.reduceBNe, Int.reducePow, Nat.reducePow, Int.reduceMul, Int.reduceNeg, TT]
        refine call_frame (step_spec ha' hb' hc' hw.1 hw.2.1 hw.2.2) [1, 3] rfl rfl ⟨⟨rfl, fun _ => ⟨rfl, rfl⟩⟩, ⟨⟨rfl, fun _ => ⟨rfl, rfl⟩⟩, trivial⟩⟩ rfl rfl ?_
        rintro _ _ ⟨rfl, a', b', c', ⟨ha', hb', hc', rfl⟩⟩
        simp (maxSteps := 4000000) only [Try.results4, XX, Nat.reduceBEq, Nat.reduceLT, Nat.reduceAdd, Nat.reduceMul, Nat.reduceSub, Nat.reduceLeDiff, Nat.reduceEqDiff, Int.reduceToNat, Int.reduceLT, Int.reduceLE, Int.reduceAdd, Int.reduceSub, Int.reduceEq, reduceIte, Nat.reduceBNe, Int.reducePow, Nat.reducePow, Int.reduceMul, Int.reduceNeg, TT]
        refine ⟨len - (i + 1), by omega, _, ⟨i + 1, a, b, c, a', b', c', rfl, by omega, ⟨ha, hb, hc⟩, ⟨ha', hb', hc'⟩, rfl⟩, [some 0, some 1, some 2, some 3], ⟨rfl, rfl, by simp [XX, Nat.reduceBEq, Nat.reduceLT, Nat.reduceAdd, Nat.reduceMul, Nat.reduceSub, Nat.reduceLeDiff, Nat.reduceEqDiff, Int.reduceToNat, Int.reduceLT, Int.reduceLE, Int.reduceAdd, Int.reduceSub, Int.reduceEq, reduceIte, Nat.reduceBNe, Int.reducePow, Nat.reducePow, Int.reduceMul, Int.reduceNeg, TT], ?_⟩⟩
        simp [XX, Nat.reduceBEq, Nat.reduceLT, Nat.reduceAdd, Nat.reduceMul, Nat.reduceSub, Nat.reduceLeDiff, Nat.reduceEqDiff, Int.reduceToNat, Int.reduceLT, Int.reduceLE, Int.reduceAdd, Int.reduceSub, Int.reduceEq, reduceIte, Nat.reduceBNe, Int.reducePow, Nat.reducePow, Int.reduceMul, Int.reduceNeg, TT, wrap_i64]
        unfold maxLen at hmax
        omega
    · have hl : decide ((i : Int) < (len : Int)) = false := by simpa using hlt
      simp (maxSteps := 4000000) only [Try.results4, hl, XX, Nat.reduceBEq, Nat.reduceLT, Nat.reduceAdd, Nat.reduceMul, Nat.reduceSub, Nat.reduceLeDiff, Nat.reduceEqDiff, Int.reduceToNat, Int.reduceLT, Int.reduceLE, Int.reduceAdd, Int.reduceSub, Int.reduceEq, reduceIte, Nat.reduceBNe, Int.reducePow, Nat.reducePow, Int.reduceMul, Int.reduceNeg, TT]
      refine call_frame (step_spec (K := 5) ha hb hc (A := 0) (M := 0) (R := 0) (by simp [W]) (by simp [W]) (by simp [W])) [0, 2] rfl rfl ⟨⟨rfl, fun _ => ⟨rfl, rfl⟩⟩, ⟨⟨rfl, fun _ => ⟨rfl, rfl⟩⟩, trivial⟩⟩ rfl rfl ?_
      rintro _ _ ⟨rfl, a, b, c, ⟨ha, hb, hc, rfl⟩⟩
      simp (maxSteps := 4000000) only [Try.results4, XX, Nat.reduceBEq, Nat.reduceLT, Nat.reduceAdd, Nat.reduceMul, Nat.reduceSub, Nat.reduceLeDiff, Nat.reduceEqDiff, Int.reduceToNat, Int.reduceLT, Int.reduceLE, Int.reduceAdd, Int.reduceSub, Int.reduceEq, reduceIte, Nat.reduceBNe, Int.reducePow, Nat.reducePow, Int.reduceMul, Int.reduceNeg, TT]
      refine call_frame (step_spec (K := 5) ha' hb' hc' (A := 0) (M := 0) (R := 0) (by simp [W]) (by simp [W]) (by simp [W])) [1, 3] rfl rfl ⟨⟨rfl, fun _ => ⟨rfl, rfl⟩⟩, ⟨⟨rfl, fun _ => ⟨rfl, rfl⟩⟩, trivial⟩⟩ rfl rfl ?_
      rintro _ _ ⟨rfl, a', b', c', ⟨ha', hb', hc', rfl⟩⟩
      simp (maxSteps := 4000000) only [Try.results4, XX, Nat.reduceBEq, Nat.reduceLT, Nat.reduceAdd, Nat.reduceMul, Nat.reduceSub, Nat.reduceLeDiff, Nat.reduceEqDiff, Int.reduceToNat, Int.reduceLT, Int.reduceLE, Int.reduceAdd, Int.reduceSub, Int.reduceEq, reduceIte, Nat.reduceBNe, Int.reducePow, Nat.reducePow, Int.reduceMul, Int.reduceNeg, TT]
      refine call_frame (step_spec (K := 4) ha hb hc (A := 167772161) (M := 0) (R := 0) (by simp [W]) (by simp [W]) (by simp [W])) [0, 2] rfl rfl ⟨⟨rfl, fun _ => ⟨rfl, rfl⟩⟩, ⟨⟨rfl, fun _ => ⟨rfl, rfl⟩⟩, trivial⟩⟩ rfl rfl ?_
      rintro _ _ ⟨rfl, a, b, c, ⟨ha, hb, hc, rfl⟩⟩
      simp (maxSteps := 4000000) only [Try.results4, XX, Nat.reduceBEq, Nat.reduceLT, Nat.reduceAdd, Nat.reduceMul, Nat.reduceSub, Nat.reduceLeDiff, Nat.reduceEqDiff, Int.reduceToNat, Int.reduceLT, Int.reduceLE, Int.reduceAdd, Int.reduceSub, Int.reduceEq, reduceIte, Nat.reduceBNe, Int.reducePow, Nat.reducePow, Int.reduceMul, Int.reduceNeg, TT]
      refine call_frame (step_spec (K := 4) ha' hb' hc' (A := 167772161) (M := 0) (R := 0) (by simp [W]) (by simp [W]) (by simp [W])) [1, 3] rfl rfl ⟨⟨rfl, fun _ => ⟨rfl, rfl⟩⟩, ⟨⟨rfl, fun _ => ⟨rfl, rfl⟩⟩, trivial⟩⟩ rfl rfl ?_
      rintro _ _ ⟨rfl, a', b', c', ⟨ha', hb', hc', rfl⟩⟩
      simp (maxSteps := 4000000) only [Try.results4, XX, Nat.reduceBEq, Nat.reduceLT, Nat.reduceAdd, Nat.reduceMul, Nat.reduceSub, Nat.reduceLeDiff, Nat.reduceEqDiff, Int.reduceToNat, Int.reduceLT, Int.reduceLE, Int.reduceAdd, Int.reduceSub, Int.reduceEq, reduceIte, Nat.reduceBNe, Int.reducePow, Nat.reducePow, Int.reduceMul, Int.reduceNeg, TT]
end Go.Proofs.Ytfjapffakihphaa.Sx
