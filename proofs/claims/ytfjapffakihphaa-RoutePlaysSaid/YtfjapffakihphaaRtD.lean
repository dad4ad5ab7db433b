/- The symbolic executor, at work: the reference's Set; one call at both tables. No condition. -/
import Derived.Test.YtfjapffakihphaaRtC
namespace Go.Proofs.Ytfjapffakihphaa.Sx
open Go
set_option linter.unusedSimpArgs false
set_option linter.unusedVariables false
set_option maxRecDepth 10000
set_option maxHeartbeats 1000000

theorem isHost_zero : isHost 0 = false := by decide

theorem refSet_spec {has : Bool} {ip m r a b c : Int} (hip : W ip) (hm : W m) (hr : W r) :
    Spec cx.P 16 [.c (.ptr 0 0), .c (i32 ip), .c (i32 m), .c (i32 r)] [wX has a b c] fun s h' =>
      s = .c (i64 (setErr ip m r)) ∧ ((setErr ip m r = 0 ∧ h' = [wX true ip m r]) ∨ (setErr ip m r ≠ 0 ∧ h' = [wX has a b c])) := by
  refine spec_of_X cx_ok Try.func16 rfl (by kernel_rfl) (by kernel_rfl) (Nat.le_of_ble_eq_true rfl) 400 13 ?_
  simp (maxSteps := 4000000) only [Try.results16, XX, Nat.reduceBEq, Nat.reduceLT, Nat.reduceAdd, Nat.reduceMul, Nat.reduceSub, Nat.reduceLeDiff, Nat.reduceEqDiff, Int.reduceToNat, Int.reduceLT, Int.reduceLE, Int.reduceAdd, Int.reduceSub, Int.reduceEq, reduceIte, Nat.reduceBNe, Int.reducePow, Nat.reducePow, Int.reduceMul, Int.reduceNeg, TT]
  refine call_plain (refIsHost_spec ip hip.1 hip.2) rfl ?_
  rintro _ rfl
  cases e1 : isHost ip
  · simp (maxSteps := 4000000) only [Try.results16, XX, Nat.reduceBEq, Nat.reduceLT, Nat.reduceAdd, Nat.reduceMul, Nat.reduceSub, Nat.reduceLeDiff, Nat.reduceEqDiff, Int.reduceToNat, Int.reduceLT, Int.reduceLE, Int.reduceAdd, Int.reduceSub, Int.reduceEq, reduceIte, Nat.reduceBNe, Int.reducePow, Nat.reducePow, Int.reduceMul, Int.reduceNeg, TT]
    have : setErr ip m r = 101 := by simp [setErr, e1]
    simp [this]
  simp (maxSteps := 4000000) only [Try.results16, XX, Nat.reduceBEq, Nat.reduceLT, Nat.reduceAdd, Nat.reduceMul, Nat.reduceSub, Nat.reduceLeDiff, Nat.reduceEqDiff, Int.reduceToNat, Int.reduceLT, Int.reduceLE, Int.reduceAdd, Int.reduceSub, Int.reduceEq, reduceIte, Nat.reduceBNe, Int.reducePow, Nat.reducePow, Int.reduceMul, Int.reduceNeg, TT]
  refine call_plain (refIsMask_spec m hm.1 hm.2) rfl ?_
  rintro _ rfl
  cases e3 : decide (0 ≤ ones m)
  · simp (maxSteps := 4000000) only [Try.results16, XX, Nat.reduceBEq, Nat.reduceLT, Nat.reduceAdd, Nat.reduceMul, Nat.reduceSub, Nat.reduceLeDiff, Nat.reduceEqDiff, Int.reduceToNat, Int.reduceLT, Int.reduceLE, Int.reduceAdd, Int.reduceSub, Int.reduceEq, reduceIte, Nat.reduceBNe, Int.reducePow, Nat.reducePow, Int.reduceMul, Int.reduceNeg, TT]
    have : setErr ip m r = 100 := by cases e2 : decide (m = 0) <;> simp [setErr, e1, e2, e3]
    simp [this]
  cases e2 : decide (m = 0)
  case true =>
    simp (maxSteps := 4000000) only [Try.results16, XX, Nat.reduceBEq, Nat.reduceLT, Nat.reduceAdd, Nat.reduceMul, Nat.reduceSub, Nat.reduceLeDiff, Nat.reduceEqDiff, Int.reduceToNat, Int.reduceLT, Int.reduceLE, Int.reduceAdd, Int.reduceSub, Int.reduceEq, reduceIte, Nat.reduceBNe, Int.reducePow, Nat.reducePow, Int.reduceMul, Int.reduceNeg, TT]
    simp (maxSteps := 4000000) only [Try.results16, e2, XX, Nat.reduceBEq, Nat.reduceLT, Nat.reduceAdd, Nat.reduceMul, Nat.reduceSub, Nat.reduceLeDiff, Nat.reduceEqDiff, Int.reduceToNat, Int.reduceLT, Int.reduceLE, Int.reduceAdd, Int.reduceSub, Int.reduceEq, reduceIte, Nat.reduceBNe, Int.reducePow, Nat.reducePow, Int.reduceMul, Int.reduceNeg, TT]
    have : setErr ip m r = 100 := by simp [setErr, e1, e2]
    simp [this]
  simp (maxSteps := 4000000) only [Try.results16, e2, XX, Nat.reduceBEq, Nat.reduceLT, Nat.reduceAdd, Nat.reduceMul, Nat.reduceSub, Nat.reduceLeDiff, Nat.reduceEqDiff, Int.reduceToNat, Int.reduceLT, Int.reduceLE, Int.reduceAdd, Int.reduceSub, Int.reduceEq, reduceIte, Nat.reduceBNe, Int.reducePow, Nat.reducePow, Int.reduceMul, Int.reduceNeg, TT]
  refine call_plain (refHost_spec hm hip) rfl ?_
  rintro _ rfl
  cases e4 : hostOf ip m ip
  · simp (maxSteps := 4000000) only [Try.results16, XX, Nat.reduceBEq, Nat.reduceLT, Nat.reduceAdd, Nat.reduceMul, Nat.reduceSub, Nat.reduceLeDiff, Nat.reduceEqDiff, Int.reduceToNat, Int.reduceLT, Int.reduceLE, Int.reduceAdd, Int.reduceSub, Int.reduceEq, reduceIte, Nat.reduceBNe, Int.reducePow, Nat.reducePow, Int.reduceMul, Int.reduceNeg, TT]
    have : setErr ip m r = 101 := by simp [setErr, e1, e2, e3, e4]
    simp [this]
  simp (maxSteps := 4000000) only [Try.results16, XX, Nat.reduceBEq, Nat.reduceLT, Nat.reduceAdd, Nat.reduceMul, Nat.reduceSub, Nat.reduceLeDiff, Nat.reduceEqDiff, Int.reduceToNat, Int.reduceLT, Int.reduceLE, Int.reduceAdd, Int.reduceSub, Int.reduceEq, reduceIte, Nat.reduceBNe, Int.reducePow, Nat.reducePow, Int.reduceMul, Int.reduceNeg, TT]
  refine call_plain (refHost_spec hm hr) rfl ?_
  rintro _ rfl
  cases e5 : decide (r = 0)
  · cases e6 : decide (r = ip)
    · cases e7 : hostOf ip m r
      · simp (maxSteps := 4000000) only [Try.results16, e5, e6, XX, Nat.reduceBEq, Nat.reduceLT, Nat.reduceAdd, Nat.reduceMul, Nat.reduceSub, Nat.reduceLeDiff, Nat.reduceEqDiff, Int.reduceToNat, Int.reduceLT, Int.reduceLE, Int.reduceAdd, Int.reduceSub, Int.reduceEq, reduceIte, Nat.reduceBNe, Int.reducePow, Nat.reducePow, Int.reduceMul, Int.reduceNeg, TT]
        have : setErr ip m r = 102 := by simp [setErr, e1, e2, e3, e4, e5, e6, e7]
        simp [this]
      · simp (maxSteps := 4000000) only [Try.results16, e5, e6, XX, Nat.reduceBEq, Nat.reduceLT, Nat.reduceAdd, Nat.reduceMul, Nat.reduceSub, Nat.reduceLeDiff, Nat.reduceEqDiff, Int.reduceToNat, Int.reduceLT, Int.reduceLE, Int.reduceAdd, Int.reduceSub, Int.reduceEq, reduceIte, Nat.reduceBNe, Int.reducePow, Nat.reducePow, Int.reduceMul, Int.reduceNeg, TT]
        have : setErr ip m r = 0 := by simp [setErr, e1, e2, e3, e4, e5, e6, e7]
        simp [this]
    · cases e7 : hostOf ip m r <;> simp (maxSteps := 4000000) only [Try.results16, e5, e6, XX, Nat.reduceBEq, Nat.reduceLT, Nat.reduceAdd, Nat.reduceMul, Nat.reduceSub, Nat.reduceLeDiff, Nat.reduceEqDiff, Int.reduceToNat, Int.reduceLT, Int.reduceLE, Int.reduceAdd, Int.reduceSub, Int.reduceEq, reduceIte, Nat.reduceBNe, Int.reducePow, Nat.reducePow, Int.reduceMul, Int.reduceNeg, TT] <;> (have : setErr ip m r = 102 := by simp [setErr, e1, e2, e3, e4, e5, e6]) <;> simp [this]
  · have e6 : decide (r = ip) = false := by
      simp only [decide_eq_true_eq, decide_eq_false_iff_not] at e5 ⊢
      rintro rfl
      rw [e5, isHost_zero] at e1
      cases e1
    simp (maxSteps := 4000000) only [Try.results16, e5, e6, XX, Nat.reduceBEq, Nat.reduceLT, Nat.reduceAdd, Nat.reduceMul, Nat.reduceSub, Nat.reduceLeDiff, Nat.reduceEqDiff, Int.reduceToNat, Int.reduceLT, Int.reduceLE, Int.reduceAdd, Int.reduceSub, Int.reduceEq, reduceIte, Nat.reduceBNe, Int.reducePow, Nat.reducePow, Int.reduceMul, Int.reduceNeg, TT]
    have : setErr ip m r = 0 := by simp [setErr, e1, e2, e3, e4, e5]
    simp [this]

/-- How the two tables stand to one another. -/
structure Tabs (hp : List SB) (a b c : Int) : Prop where
  ha : W a
  hb : W b
  hc : W c
  eq : hp = [wT a b c, wX (nz a b c) a b c]

theorem nz_of_setErr {ip m r : Int} (h : setErr ip m r = 0) : nz ip m r = true := by
  have h1 : isHost ip = true := by
    cases e : isHost ip
    · simp [setErr, e] at h
    · rfl
  have : decide (ip = 0) = false := by
    simp only [decide_eq_false_iff_not]
    rintro rfl
    rw [isHost_zero] at h1
    cases h1
  simp [nz, this]

theorem step_spec {a b c K A M R : Int} (ha : W a) (hb : W b) (hc : W c) (hA : W A) (hM : W M) (hR : W R) :
    Spec cx.P 10 [.c (.ptr 0 0), .c (.ptr 1 0), .agg [i64 K, i32 A, i32 M, i32 R]] [wT a b c, wX (nz a b c) a b c] fun s h' => s = .c (bC true) ∧ ∃ a' b' c', Tabs h' a' b' c' := by
  refine Spec.forget (K := fun s h' => s = .c (bC true) ∧ ∃ a' b' c', W a' ∧ W b' ∧ W c' ∧ h' = [wT a' b' c', wX (nz a' b' c') a' b' c', ⟨true, 31, [i64 K, i32 A, i32 M, i32 R]⟩]) ?_ ?_
  · refine spec_of_X cx_ok Try.func10 rfl (by kernel_rfl) (by kernel_rfl) (Nat.le_of_ble_eq_true rfl) 400 13 ?_
    simp (maxSteps := 4000000) only [Try.results10, XX, Nat.reduceBEq, Nat.reduceLT, Nat.reduceAdd, Nat.reduceMul, Nat.reduceSub, Nat.reduceLeDiff, Nat.reduceEqDiff, Int.reduceToNat, Int.reduceLT, Int.reduceLE, Int.reduceAdd, Int.reduceSub, Int.reduceEq, reduceIte, Nat.reduceBNe, Int.reducePow, Nat.reducePow, Int.reduceMul, Int.reduceNeg, TT]
    cases e1 : decide (K = 1)
    case true =>
      simp (maxSteps := 4000000) only [Try.results10, XX, Nat.reduceBEq, Nat.reduceLT, Nat.reduceAdd, Nat.reduceMul, Nat.reduceSub, Nat.reduceLeDiff, Nat.reduceEqDiff, Int.reduceToNat, Int.reduceLT, Int.reduceLE, Int.reduceAdd, Int.reduceSub, Int.reduceEq, reduceIte, Nat.reduceBNe, Int.reducePow, Nat.reducePow, Int.reduceMul, Int.reduceNeg, TT]
      refine draw_of cx_ok (by kernel_rfl) 400 [2] [(0, true), (1, true), (2, true), (3, true), (4, true), (5, true), (6, true), (8, true), (9, true), (10, true), (11, true), (12, true), (13, true), (14, true), (7, false), (15, false), (16, true), (17, true)] (by kernel_rfl) rfl ?_
      simp (maxSteps := 4000000) only [Try.results10, XX, Nat.reduceBEq, Nat.reduceLT, Nat.reduceAdd, Nat.reduceMul, Nat.reduceSub, Nat.reduceLeDiff, Nat.reduceEqDiff, Int.reduceToNat, Int.reduceLT, Int.reduceLE, Int.reduceAdd, Int.reduceSub, Int.reduceEq, reduceIte, Nat.reduceBNe, Int.reducePow, Nat.reducePow, Int.reduceMul, Int.reduceNeg, TT]
      refine call_frame (set_spec hA hM hR) [0] rfl rfl ⟨⟨rfl, fun _ => ⟨rfl, rfl⟩⟩, trivial⟩ rfl rfl ?_
      rintro _ _ ⟨rfl, ⟨h1, rfl⟩ | ⟨h1, rfl⟩⟩
      · simp (maxSteps := 4000000) only [Try.results10, XX, Nat.reduceBEq, Nat.reduceLT, Nat.reduceAdd, Nat.reduceMul, Nat.reduceSub, Nat.reduceLeDiff, Nat.reduceEqDiff, Int.reduceToNat, Int.reduceLT, Int.reduceLE, Int.reduceAdd, Int.reduceSub, Int.reduceEq, reduceIte, Nat.reduceBNe, Int.reducePow, Nat.reducePow, Int.reduceMul, Int.reduceNeg, TT]
        refine call_frame (refSet_spec hA hM hR) [1] rfl rfl ⟨⟨rfl, fun _ => ⟨rfl, rfl⟩⟩, trivial⟩ rfl rfl ?_
        rintro _ _ ⟨rfl, ⟨h2, rfl⟩ | ⟨h2, rfl⟩⟩
        · simp (maxSteps := 4000000) only [Try.results10, h1, XX, Nat.reduceBEq, Nat.reduceLT, Nat.reduceAdd, Nat.reduceMul, Nat.reduceSub, Nat.reduceLeDiff, Nat.reduceEqDiff, Int.reduceToNat, Int.reduceLT, Int.reduceLE, Int.reduceAdd, Int.reduceSub, Int.reduceEq, reduceIte, Nat.reduceBNe, Int.reducePow, Nat.reducePow, Int.reduceMul, Int.reduceNeg, TT]
          exact ⟨_, _, _, hA, hM, hR, by rw [nz_of_setErr h1]⟩
        · exact absurd h1 h2
      · simp (maxSteps := 4000000) only [Try.results10, XX, Nat.reduceBEq, Nat.reduceLT, Nat.reduceAdd, Nat.reduceMul, Nat.reduceSub, Nat.reduceLeDiff, Nat.reduceEqDiff, Int.reduceToNat, Int.reduceLT, Int.reduceLE, Int.reduceAdd, Int.reduceSub, Int.reduceEq, reduceIte, Nat.reduceBNe, Int.reducePow, Nat.reducePow, Int.reduceMul, Int.reduceNeg, TT]
        refine call_frame (refSet_spec hA hM hR) [1] rfl rfl ⟨⟨rfl, fun _ => ⟨rfl, rfl⟩⟩, trivial⟩ rfl rfl ?_
        rintro _ _ ⟨rfl, ⟨h2, rfl⟩ | ⟨h2, rfl⟩⟩
        · exact absurd h2 h1
        · simp (maxSteps := 4000000) only [Try.results10, XX, Nat.reduceBEq, Nat.reduceLT, Nat.reduceAdd, Nat.reduceMul, Nat.reduceSub, Nat.reduceLeDiff, Nat.reduceEqDiff, Int.reduceToNat, Int.reduceLT, Int.reduceLE, Int.reduceAdd, Int.reduceSub, Int.reduceEq, reduceIte, Nat.reduceBNe, Int.reducePow, Nat.reducePow, Int.reduceMul, Int.reduceNeg, TT]
          exact ⟨_, _, _, ha, hb, hc, rfl⟩
    simp (maxSteps := 4000000) only [Try.results10, XX, Nat.reduceBEq, Nat.reduceLT, Nat.reduceAdd, Nat.reduceMul, Nat.reduceSub, Nat.reduceLeDiff, Nat.reduceEqDiff, Int.reduceToNat, Int.reduceLT, Int.reduceLE, Int.reduceAdd, Int.reduceSub, Int.reduceEq, reduceIte, Nat.reduceBNe, Int.reducePow, Nat.reducePow, Int.reduceMul, Int.reduceNeg, TT]
    cases e2 : decide (K = 2)
    case true =>
      simp (maxSteps := 4000000) only [Try.results10, XX, Nat.reduceBEq, Nat.reduceLT, Nat.reduceAdd, Nat.reduceMul, Nat.reduceSub, Nat.reduceLeDiff, Nat.reduceEqDiff, Int.reduceToNat, Int.reduceLT, Int.reduceLE, Int.reduceAdd, Int.reduceSub, Int.reduceEq, reduceIte, Nat.reduceBNe, Int.reducePow, Nat.reducePow, Int.reduceMul, Int.reduceNeg, TT]
      refine call_frame (clear_spec) [0] rfl rfl ⟨⟨rfl, fun _ => ⟨rfl, rfl⟩⟩, trivial⟩ rfl rfl ?_
      rintro _ _ ⟨rfl, rfl⟩
      simp (maxSteps := 4000000) only [Try.results10, XX, Nat.reduceBEq, Nat.reduceLT, Nat.reduceAdd, Nat.reduceMul, Nat.reduceSub, Nat.reduceLeDiff, Nat.reduceEqDiff, Int.reduceToNat, Int.reduceLT, Int.reduceLE, Int.reduceAdd, Int.reduceSub, Int.reduceEq, reduceIte, Nat.reduceBNe, Int.reducePow, Nat.reducePow, Int.reduceMul, Int.reduceNeg, TT]
      refine call_frame (refClear_spec) [1] rfl rfl ⟨⟨rfl, fun _ => ⟨rfl, rfl⟩⟩, trivial⟩ rfl rfl ?_
      rintro _ _ ⟨rfl, rfl⟩
      simp (maxSteps := 4000000) only [Try.results10, XX, Nat.reduceBEq, Nat.reduceLT, Nat.reduceAdd, Nat.reduceMul, Nat.reduceSub, Nat.reduceLeDiff, Nat.reduceEqDiff, Int.reduceToNat, Int.reduceLT, Int.reduceLE, Int.reduceAdd, Int.reduceSub, Int.reduceEq, reduceIte, Nat.reduceBNe, Int.reducePow, Nat.reducePow, Int.reduceMul, Int.reduceNeg, TT]
      exact ⟨0, 0, 0, by simp [W], by simp [W], by simp [W], rfl⟩
    simp (maxSteps := 4000000) only [Try.results10, XX, Nat.reduceBEq, Nat.reduceLT, Nat.reduceAdd, Nat.reduceMul, Nat.reduceSub, Nat.reduceLeDiff, Nat.reduceEqDiff, Int.reduceToNat, Int.reduceLT, Int.reduceLE, Int.reduceAdd, Int.reduceSub, Int.reduceEq, reduceIte, Nat.reduceBNe, Int.reducePow, Nat.reducePow, Int.reduceMul, Int.reduceNeg, TT]
    cases e3 : decide (K = 3)
    case true =>
      simp (maxSteps := 4000000) only [Try.results10, XX, Nat.reduceBEq, Nat.reduceLT, Nat.reduceAdd, Nat.reduceMul, Nat.reduceSub, Nat.reduceLeDiff, Nat.reduceEqDiff, Int.reduceToNat, Int.reduceLT, Int.reduceLE, Int.reduceAdd, Int.reduceSub, Int.reduceEq, reduceIte, Nat.reduceBNe, Int.reducePow, Nat.reducePow, Int.reduceMul, Int.reduceNeg, TT]
      refine draw_of cx_ok (by kernel_rfl) 400 [2] [(0, true), (1, true), (2, true), (4, true), (5, true), (6, true), (3, false), (7, false), (8, true), (9, true)] (by kernel_rfl) rfl ?_
      simp (maxSteps := 4000000) only [Try.results10, XX, Nat.reduceBEq, Nat.reduceLT, Nat.reduceAdd, Nat.reduceMul, Nat.reduceSub, Nat.reduceLeDiff, Nat.reduceEqDiff, Int.reduceToNat, Int.reduceLT, Int.reduceLE, Int.reduceAdd, Int.reduceSub, Int.reduceEq, reduceIte, Nat.reduceBNe, Int.reducePow, Nat.reducePow, Int.reduceMul, Int.reduceNeg, TT]
      refine call_frame (takes_spec hb) [0] rfl rfl ⟨⟨rfl, fun _ => ⟨rfl, rfl⟩⟩, trivial⟩ rfl rfl ?_
      rintro _ _ ⟨rfl, rfl⟩
      simp (maxSteps := 4000000) only [Try.results10, XX, Nat.reduceBEq, Nat.reduceLT, Nat.reduceAdd, Nat.reduceMul, Nat.reduceSub, Nat.reduceLeDiff, Nat.reduceEqDiff, Int.reduceToNat, Int.reduceLT, Int.reduceLE, Int.reduceAdd, Int.reduceSub, Int.reduceEq, reduceIte, Nat.reduceBNe, Int.reducePow, Nat.reducePow, Int.reduceMul, Int.reduceNeg, TT]
      refine call_frame (refTakes_spec hb) [1] rfl rfl ⟨⟨rfl, fun _ => ⟨rfl, rfl⟩⟩, trivial⟩ rfl rfl ?_
      rintro _ _ ⟨rfl, rfl⟩
      simp (maxSteps := 4000000) only [Try.results10, XX, Nat.reduceBEq, Nat.reduceLT, Nat.reduceAdd, Nat.reduceMul, Nat.reduceSub, Nat.reduceLeDiff, Nat.reduceEqDiff, Int.reduceToNat, Int.reduceLT, Int.reduceLE, Int.reduceAdd, Int.reduceSub, Int.reduceEq, reduceIte, Nat.reduceBNe, Int.reducePow, Nat.reducePow, Int.reduceMul, Int.reduceNeg, TT]
      exact ⟨_, _, _, ha, hb, hc, rfl⟩
    simp (maxSteps := 4000000) only [Try.results10, XX, Nat.reduceBEq, Nat.reduceLT, Nat.reduceAdd, Nat.reduceMul, Nat.reduceSub, Nat.reduceLeDiff, Nat.reduceEqDiff, Int.reduceToNat, Int.reduceLT, Int.reduceLE, Int.reduceAdd, Int.reduceSub, Int.reduceEq, reduceIte, Nat.reduceBNe, Int.reducePow, Nat.reducePow, Int.reduceMul, Int.reduceNeg, TT]
    cases e4 : decide (K = 4)
    case true =>
      simp (maxSteps := 4000000) only [Try.results10, XX, Nat.reduceBEq, Nat.reduceLT, Nat.reduceAdd, Nat.reduceMul, Nat.reduceSub, Nat.reduceLeDiff, Nat.reduceEqDiff, Int.reduceToNat, Int.reduceLT, Int.reduceLE, Int.reduceAdd, Int.reduceSub, Int.reduceEq, reduceIte, Nat.reduceBNe, Int.reducePow, Nat.reducePow, Int.reduceMul, Int.reduceNeg, TT]
      refine call_frame (hop_spec ha hb hA) [0] rfl rfl ⟨⟨rfl, fun _ => ⟨rfl, rfl⟩⟩, trivial⟩ rfl rfl ?_
      rintro _ _ ⟨rfl, rfl⟩
      simp (maxSteps := 4000000) only [Try.results10, XX, Nat.reduceBEq, Nat.reduceLT, Nat.reduceAdd, Nat.reduceMul, Nat.reduceSub, Nat.reduceLeDiff, Nat.reduceEqDiff, Int.reduceToNat, Int.reduceLT, Int.reduceLE, Int.reduceAdd, Int.reduceSub, Int.reduceEq, reduceIte, Nat.reduceBNe, Int.reducePow, Nat.reducePow, Int.reduceMul, Int.reduceNeg, TT]
      refine call_frame (refHop_spec ha hb hA) [1] rfl rfl ⟨⟨rfl, fun _ => ⟨rfl, rfl⟩⟩, trivial⟩ rfl rfl ?_
      rintro _ _ ⟨rfl, rfl⟩
      simp (maxSteps := 4000000) only [Try.results10, XX, Nat.reduceBEq, Nat.reduceLT, Nat.reduceAdd, Nat.reduceMul, Nat.reduceSub, Nat.reduceLeDiff, Nat.reduceEqDiff, Int.reduceToNat, Int.reduceLT, Int.reduceLE, Int.reduceAdd, Int.reduceSub, Int.reduceEq, reduceIte, Nat.reduceBNe, Int.reducePow, Nat.reducePow, Int.reduceMul, Int.reduceNeg, TT]
      exact ⟨_, _, _, ha, hb, hc, rfl⟩
    simp (maxSteps := 4000000) only [Try.results10, XX, Nat.reduceBEq, Nat.reduceLT, Nat.reduceAdd, Nat.reduceMul, Nat.reduceSub, Nat.reduceLeDiff, Nat.reduceEqDiff, Int.reduceToNat, Int.reduceLT, Int.reduceLE, Int.reduceAdd, Int.reduceSub, Int.reduceEq, reduceIte, Nat.reduceBNe, Int.reducePow, Nat.reducePow, Int.reduceMul, Int.reduceNeg, TT]
    cases e5 : decide (K = 5)
    case true =>
      simp (maxSteps := 4000000) only [Try.results10, XX, Nat.reduceBEq, Nat.reduceLT, Nat.reduceAdd, Nat.reduceMul, Nat.reduceSub, Nat.reduceLeDiff, Nat.reduceEqDiff, Int.reduceToNat, Int.reduceLT, Int.reduceLE, Int.reduceAdd, Int.reduceSub, Int.reduceEq, reduceIte, Nat.reduceBNe, Int.reducePow, Nat.reducePow, Int.reduceMul, Int.reduceNeg, TT]
      refine call_frame (own_spec) [0] rfl rfl ⟨⟨rfl, fun _ => ⟨rfl, rfl⟩⟩, trivial⟩ rfl rfl ?_
      rintro _ _ ⟨rfl, rfl⟩
      simp (maxSteps := 4000000) only [Try.results10, XX, Nat.reduceBEq, Nat.reduceLT, Nat.reduceAdd, Nat.reduceMul, Nat.reduceSub, Nat.reduceLeDiff, Nat.reduceEqDiff, Int.reduceToNat, Int.reduceLT, Int.reduceLE, Int.reduceAdd, Int.reduceSub, Int.reduceEq, reduceIte, Nat.reduceBNe, Int.reducePow, Nat.reducePow, Int.reduceMul, Int.reduceNeg, TT]
      refine call_frame (refOwn_spec) [1] rfl rfl ⟨⟨rfl, fun _ => ⟨rfl, rfl⟩⟩, trivial⟩ rfl rfl ?_
      rintro _ _ ⟨rfl, rfl⟩
      simp (maxSteps := 4000000) only [Try.results10, XX, Nat.reduceBEq, Nat.reduceLT, Nat.reduceAdd, Nat.reduceMul, Nat.reduceSub, Nat.reduceLeDiff, Nat.reduceEqDiff, Int.reduceToNat, Int.reduceLT, Int.reduceLE, Int.reduceAdd, Int.reduceSub, Int.reduceEq, reduceIte, Nat.reduceBNe, Int.reducePow, Nat.reducePow, Int.reduceMul, Int.reduceNeg, TT]
      exact ⟨_, _, _, ha, hb, hc, rfl⟩
    simp (maxSteps := 4000000) only [Try.results10, XX, Nat.reduceBEq, Nat.reduceLT, Nat.reduceAdd, Nat.reduceMul, Nat.reduceSub, Nat.reduceLeDiff, Nat.reduceEqDiff, Int.reduceToNat, Int.reduceLT, Int.reduceLE, Int.reduceAdd, Int.reduceSub, Int.reduceEq, reduceIte, Nat.reduceBNe, Int.reducePow, Nat.reducePow, Int.reduceMul, Int.reduceNeg, TT]
    exact ⟨_, _, _, ha, hb, hc, rfl⟩
  · rintro t h' ⟨rfl, a', b', c', q1, q2, q3, rfl⟩
    exact ⟨[wT a' b' c', wX (nz a' b' c') a' b' c'], _, rfl, by simp, rfl, rfl, rfl, a', b', c', q1, q2, q3, rfl⟩

theorem setErr_live : setErr 167772165 4294967040 167772161 = 0 := by decide +kernel
theorem takes_l1 : takesOf (nz 0 0 0) 0 0 0 = false := by decide +kernel
theorem takes_l2 : takesOf (nz 0 0 0) 0 0 4294967295 = true := by decide +kernel
theorem takes_l3 : takesOf (nz 167772165 4294967040 167772161) 167772165 4294967040 167772415 = true := by decide +kernel
theorem hop_l1 : hopOf (nz 167772165 4294967040 167772161) 167772165 4294967040 167772161 167772169 = (2, 167772169) := by decide +kernel
theorem hop_l2 : hopOf (nz 167772165 4294967040 167772161) 167772165 4294967040 167772161 167837705 = (3, 167772161) := by decide +kernel

theorem live_spec : Spec cx.P 7 [] [] fun r _ => r.plain = true ∧ r = .c (bC true) := by
  refine spec_of_X cx_ok Try.func7 rfl (by kernel_rfl) (by kernel_rfl) (Nat.le_of_ble_eq_true rfl) 400 9 ?_
  simp (maxSteps := 4000000) only [Try.results7, XX, Nat.reduceBEq, Nat.reduceLT, Nat.reduceAdd, Nat.reduceMul, Nat.reduceSub, Nat.reduceLeDiff, Nat.reduceEqDiff, Int.reduceToNat, Int.reduceLT, Int.reduceLE, Int.reduceAdd, Int.reduceSub, Int.reduceEq, reduceIte, Nat.reduceBNe, Int.reducePow, Nat.reducePow, Int.reduceMul, Int.reduceNeg, TT]
  refine call_frame (new_spec) [] rfl rfl trivial rfl rfl ?_
  rintro _ _ ⟨rfl, rfl⟩
  simp (maxSteps := 4000000) only [Try.results7, XX, Nat.reduceBEq, Nat.reduceLT, Nat.reduceAdd, Nat.reduceMul, Nat.reduceSub, Nat.reduceLeDiff, Nat.reduceEqDiff, Int.reduceToNat, Int.reduceLT, Int.reduceLE, Int.reduceAdd, Int.reduceSub, Int.reduceEq, reduceIte, Nat.reduceBNe, Int.reducePow, Nat.reducePow, Int.reduceMul, Int.reduceNeg, TT]
  refine call_frame (takes_spec (by simp [W])) [0] rfl rfl ⟨⟨rfl, fun _ => ⟨rfl, rfl⟩⟩, trivial⟩ rfl rfl ?_
  rintro _ _ ⟨rfl, rfl⟩
  simp (maxSteps := 4000000) only [Try.results7, takes_l1, XX, Nat.reduceBEq, Nat.reduceLT, Nat.reduceAdd, Nat.reduceMul, Nat.reduceSub, Nat.reduceLeDiff, Nat.reduceEqDiff, Int.reduceToNat, Int.reduceLT, Int.reduceLE, Int.reduceAdd, Int.reduceSub, Int.reduceEq, reduceIte, Nat.reduceBNe, Int.reducePow, Nat.reducePow, Int.reduceMul, Int.reduceNeg, TT]
  refine call_frame (takes_spec (by simp [W])) [0] rfl rfl ⟨⟨rfl, fun _ => ⟨rfl, rfl⟩⟩, trivial⟩ rfl rfl ?_
  rintro _ _ ⟨rfl, rfl⟩
  simp (maxSteps := 4000000) only [Try.results7, takes_l2, XX, Nat.reduceBEq, Nat.reduceLT, Nat.reduceAdd, Nat.reduceMul, Nat.reduceSub, Nat.reduceLeDiff, Nat.reduceEqDiff, Int.reduceToNat, Int.reduceLT, Int.reduceLE, Int.reduceAdd, Int.reduceSub, Int.reduceEq, reduceIte, Nat.reduceBNe, Int.reducePow, Nat.reducePow, Int.reduceMul, Int.reduceNeg, TT]
  refine call_frame (set_spec (by simp [W]) (by simp [W]) (by simp [W])) [0] rfl rfl ⟨⟨rfl, fun _ => ⟨rfl, rfl⟩⟩, trivial⟩ rfl rfl ?_
  rintro _ _ ⟨rfl, ⟨_, rfl⟩ | ⟨h, rfl⟩⟩
  rotate_left
  · exact absurd setErr_live h
  simp (maxSteps := 4000000) only [Try.results7, setErr_live, XX, Nat.reduceBEq, Nat.reduceLT, Nat.reduceAdd, Nat.reduceMul, Nat.reduceSub, Nat.reduceLeDiff, Nat.reduceEqDiff, Int.reduceToNat, Int.reduceLT, Int.reduceLE, Int.reduceAdd, Int.reduceSub, Int.reduceEq, reduceIte, Nat.reduceBNe, Int.reducePow, Nat.reducePow, Int.reduceMul, Int.reduceNeg, TT]
  refine call_frame (hop_spec (by simp [W]) (by simp [W]) (by simp [W])) [0] rfl rfl ⟨⟨rfl, fun _ => ⟨rfl, rfl⟩⟩, trivial⟩ rfl rfl ?_
  rintro _ _ ⟨rfl, rfl⟩
  simp (maxSteps := 4000000) only [Try.results7, hop_l1, XX, Nat.reduceBEq, Nat.reduceLT, Nat.reduceAdd, Nat.reduceMul, Nat.reduceSub, Nat.reduceLeDiff, Nat.reduceEqDiff, Int.reduceToNat, Int.reduceLT, Int.reduceLE, Int.reduceAdd, Int.reduceSub, Int.reduceEq, reduceIte, Nat.reduceBNe, Int.reducePow, Nat.reducePow, Int.reduceMul, Int.reduceNeg, TT]
  refine call_frame (hop_spec (by simp [W]) (by simp [W]) (by simp [W])) [0] rfl rfl ⟨⟨rfl, fun _ => ⟨rfl, rfl⟩⟩, trivial⟩ rfl rfl ?_
  rintro _ _ ⟨rfl, rfl⟩
  simp (maxSteps := 4000000) only [Try.results7, hop_l2, XX, Nat.reduceBEq, Nat.reduceLT, Nat.reduceAdd, Nat.reduceMul, Nat.reduceSub, Nat.reduceLeDiff, Nat.reduceEqDiff, Int.reduceToNat, Int.reduceLT, Int.reduceLE, Int.reduceAdd, Int.reduceSub, Int.reduceEq, reduceIte, Nat.reduceBNe, Int.reducePow, Nat.reducePow, Int.reduceMul, Int.reduceNeg, TT]
  refine call_frame (own_spec) [0] rfl rfl ⟨⟨rfl, fun _ => ⟨rfl, rfl⟩⟩, trivial⟩ rfl rfl ?_
  rintro _ _ ⟨rfl, rfl⟩
  simp (maxSteps := 4000000) only [Try.results7, XX, Nat.reduceBEq, Nat.reduceLT, Nat.reduceAdd, Nat.reduceMul, Nat.reduceSub, Nat.reduceLeDiff, Nat.reduceEqDiff, Int.reduceToNat, Int.reduceLT, Int.reduceLE, Int.reduceAdd, Int.reduceSub, Int.reduceEq, reduceIte, Nat.reduceBNe, Int.reducePow, Nat.reducePow, Int.reduceMul, Int.reduceNeg, TT]
  refine call_frame (takes_spec (by simp [W])) [0] rfl rfl ⟨⟨rfl, fun _ => ⟨rfl, rfl⟩⟩, trivial⟩ rfl rfl ?_
  rintro _ _ ⟨rfl, rfl⟩
  simp (maxSteps := 4000000) only [Try.results7, takes_l3, XX, Nat.reduceBEq, Nat.reduceLT, Nat.reduceAdd, Nat.reduceMul, Nat.reduceSub, Nat.reduceLeDiff, Nat.reduceEqDiff, Int.reduceToNat, Int.reduceLT, Int.reduceLE, Int.reduceAdd, Int.reduceSub, Int.reduceEq, reduceIte, Nat.reduceBNe, Int.reducePow, Nat.reducePow, Int.reduceMul, Int.reduceNeg, TT]
end Go.Proofs.Ytfjapffakihphaa.Sx
