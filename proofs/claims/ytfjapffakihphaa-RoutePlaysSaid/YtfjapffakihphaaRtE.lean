/- The symbolic executor, at work: the laws of package route, walked. No condition. -/
import Derived.Test.YtfjapffakihphaaRtD
import Derived.Test.YtfjapffakihphaaSxOpen
namespace Go.Proofs.Ytfjapffakihphaa.Sx
open Go
set_option linter.unusedSimpArgs false
set_option linter.unusedVariables false
set_option maxRecDepth 10000
set_option maxHeartbeats 1000000

theorem W_of {z : Int} (h1 : IntKind.u32.min ≤ z) (h2 : z ≤ IntKind.u32.max) : W z := by
  have e1 : IntKind.u32.min = 0 := by decide
  have e2 : IntKind.u32.max = 4294967295 := by decide
  exact ⟨by omega, by omega⟩

theorem routeNumbers_walk : ∀ css, RTyL (RTy T DEPTH) [] css → Spec cx.P 3 (svs T [] css) [] fun r _ => r = .c (.v (.bool true)) := by
  intro css h
  match css, h with
  | [], _ =>
    simp only [svs]
    refine spec_of_X cx_ok Try.func3 rfl (by kernel_rfl) (by kernel_rfl) (Nat.le_of_ble_eq_true rfl) 400 2 ?_
    simp (maxSteps := 4000000) only [Try.results3, XX, Nat.reduceBEq, Nat.reduceLT, Nat.reduceAdd, Nat.reduceMul, Nat.reduceSub, Nat.reduceLeDiff, Nat.reduceEqDiff, Int.reduceToNat, Int.reduceLT, Int.reduceLE, Int.reduceAdd, Int.reduceSub, Int.reduceEq, reduceIte, Nat.reduceBNe, Int.reducePow, Nat.reducePow, Int.reduceMul, Int.reduceNeg, TT]
    refine call_plain (live_spec) rfl ?_
    rintro _ rfl
    simp (maxSteps := 4000000) only [Try.results3, XX, Nat.reduceBEq, Nat.reduceLT, Nat.reduceAdd, Nat.reduceMul, Nat.reduceSub, Nat.reduceLeDiff, Nat.reduceEqDiff, Int.reduceToNat, Int.reduceLT, Int.reduceLE, Int.reduceAdd, Int.reduceSub, Int.reduceEq, reduceIte, Nat.reduceBNe, Int.reducePow, Nat.reducePow, Int.reduceMul, Int.reduceNeg, TT]

theorem routeSets_walk : ∀ css, RTyL (RTy T DEPTH) [29, 29, 29, 29] css → Spec cx.P 5 (svs T [29, 29, 29, 29] css) [] fun r _ => r = .c (.v (.bool true)) := by
  intro css h
  match css, h with
  | [l0, l1, l2, l3], ⟨h0, h1, h2, h3, _⟩ =>
    obtain ⟨ip, rfl, a0, b0⟩ := RTy_int (T_29) h0
    obtain ⟨m, rfl, a1, b1⟩ := RTy_int (T_29) h1
    obtain ⟨r, rfl, a2, b2⟩ := RTy_int (T_29) h2
    obtain ⟨d, rfl, a3, b3⟩ := RTy_int (T_29) h3
    have hi := W_of a0 b0
    have hm := W_of a1 b1
    have hr := W_of a2 b2
    have hd := W_of a3 b3
    simp only [svs, svOf, T_29, TD.agg, cond_false, RC.toSC]
    refine spec_of_X cx_ok Try.func5 rfl (by kernel_rfl) (by kernel_rfl) (Nat.le_of_ble_eq_true rfl) 400 16 ?_
    simp (maxSteps := 4000000) only [Try.results5, XX, Nat.reduceBEq, Nat.reduceLT, Nat.reduceAdd, Nat.reduceMul, Nat.reduceSub, Nat.reduceLeDiff, Nat.reduceEqDiff, Int.reduceToNat, Int.reduceLT, Int.reduceLE, Int.reduceAdd, Int.reduceSub, Int.reduceEq, reduceIte, Nat.reduceBNe, Int.reducePow, Nat.reducePow, Int.reduceMul, Int.reduceNeg, TT]
    refine call_plain (live_spec) rfl ?_
    rintro _ rfl
    simp (maxSteps := 4000000) only [Try.results5, XX, Nat.reduceBEq, Nat.reduceLT, Nat.reduceAdd, Nat.reduceMul, Nat.reduceSub, Nat.reduceLeDiff, Nat.reduceEqDiff, Int.reduceToNat, Int.reduceLT, Int.reduceLE, Int.reduceAdd, Int.reduceSub, Int.reduceEq, reduceIte, Nat.reduceBNe, Int.reducePow, Nat.reducePow, Int.reduceMul, Int.reduceNeg, TT]
    refine call_frame (new_spec) [] rfl rfl trivial rfl rfl ?_
    rintro _ _ ⟨rfl, rfl⟩
    simp (maxSteps := 4000000) only [Try.results5, XX, Nat.reduceBEq, Nat.reduceLT, Nat.reduceAdd, Nat.reduceMul, Nat.reduceSub, Nat.reduceLeDiff, Nat.reduceEqDiff, Int.reduceToNat, Int.reduceLT, Int.reduceLE, Int.reduceAdd, Int.reduceSub, Int.reduceEq, reduceIte, Nat.reduceBNe, Int.reducePow, Nat.reducePow, Int.reduceMul, Int.reduceNeg, TT]
    refine call_frame (refNew_spec) [] rfl rfl trivial rfl rfl ?_
    rintro _ _ ⟨rfl, rfl⟩
    simp (maxSteps := 4000000) only [Try.results5, XX, Nat.reduceBEq, Nat.reduceLT, Nat.reduceAdd, Nat.reduceMul, Nat.reduceSub, Nat.reduceLeDiff, Nat.reduceEqDiff, Int.reduceToNat, Int.reduceLT, Int.reduceLE, Int.reduceAdd, Int.reduceSub, Int.reduceEq, reduceIte, Nat.reduceBNe, Int.reducePow, Nat.reducePow, Int.reduceMul, Int.reduceNeg, TT]
    refine call_frame (step_spec (K := 1) (a := 0) (b := 0) (c := 0) (by simp [W]) (by simp [W]) (by simp [W]) hi hm hr) [0, 1] rfl rfl ⟨⟨rfl, fun _ => ⟨rfl, rfl⟩⟩, ⟨⟨rfl, fun _ => ⟨rfl, rfl⟩⟩, trivial⟩⟩ rfl rfl ?_
    rintro _ _ ⟨rfl, a, b, c, ⟨ha, hb, hc, rfl⟩⟩
    simp (maxSteps := 4000000) only [Try.results5, XX, Nat.reduceBEq, Nat.reduceLT, Nat.reduceAdd, Nat.reduceMul, Nat.reduceSub, Nat.reduceLeDiff, Nat.reduceEqDiff, Int.reduceToNat, Int.reduceLT, Int.reduceLE, Int.reduceAdd, Int.reduceSub, Int.reduceEq, reduceIte, Nat.reduceBNe, Int.reducePow, Nat.reducePow, Int.reduceMul, Int.reduceNeg, TT]
    refine call_frame (step_spec (K := 5) ha hb hc (A := 0) (M := 0) (R := 0) (by simp [W]) (by simp [W]) (by simp [W])) [0, 1] rfl rfl ⟨⟨rfl, fun _ => ⟨rfl, rfl⟩⟩, ⟨⟨rfl, fun _ => ⟨rfl, rfl⟩⟩, trivial⟩⟩ rfl rfl ?_
    rintro _ _ ⟨rfl, a, b, c, ⟨ha, hb, hc, rfl⟩⟩
    simp (maxSteps := 4000000) only [Try.results5, XX, Nat.reduceBEq, Nat.reduceLT, Nat.reduceAdd, Nat.reduceMul, Nat.reduceSub, Nat.reduceLeDiff, Nat.reduceEqDiff, Int.reduceToNat, Int.reduceLT, Int.reduceLE, Int.reduceAdd, Int.reduceSub, Int.reduceEq, reduceIte, Nat.reduceBNe, Int.reducePow, Nat.reducePow, Int.reduceMul, Int.reduceNeg, TT]
    refine call_frame (step_spec (K := 3) ha hb hc (M := 0) (R := 0) hd (by simp [W]) (by simp [W])) [0, 1] rfl rfl ⟨⟨rfl, fun _ => ⟨rfl, rfl⟩⟩, ⟨⟨rfl, fun _ => ⟨rfl, rfl⟩⟩, trivial⟩⟩ rfl rfl ?_
    rintro _ _ ⟨rfl, a, b, c, ⟨ha, hb, hc, rfl⟩⟩
    simp (maxSteps := 4000000) only [Try.results5, XX, Nat.reduceBEq, Nat.reduceLT, Nat.reduceAdd, Nat.reduceMul, Nat.reduceSub, Nat.reduceLeDiff, Nat.reduceEqDiff, Int.reduceToNat, Int.reduceLT, Int.reduceLE, Int.reduceAdd, Int.reduceSub, Int.reduceEq, reduceIte, Nat.reduceBNe, Int.reducePow, Nat.reducePow, Int.reduceMul, Int.reduceNeg, TT]
    refine call_frame (step_spec (K := 4) ha hb hc (M := 0) (R := 0) hd (by simp [W]) (by simp [W])) [0, 1] rfl rfl ⟨⟨rfl, fun _ => ⟨rfl, rfl⟩⟩, ⟨⟨rfl, fun _ => ⟨rfl, rfl⟩⟩, trivial⟩⟩ rfl rfl ?_
    rintro _ _ ⟨rfl, a, b, c, ⟨ha, hb, hc, rfl⟩⟩
    simp (maxSteps := 4000000) only [Try.results5, XX, Nat.reduceBEq, Nat.reduceLT, Nat.reduceAdd, Nat.reduceMul, Nat.reduceSub, Nat.reduceLeDiff, Nat.reduceEqDiff, Int.reduceToNat, Int.reduceLT, Int.reduceLE, Int.reduceAdd, Int.reduceSub, Int.reduceEq, reduceIte, Nat.reduceBNe, Int.reducePow, Nat.reducePow, Int.reduceMul, Int.reduceNeg, TT]

theorem and_or_not (a m : Int) (ha : W a) (hm : W m) : nAnd (nOr a (4294967295 - m)) m = nAnd a m := by
  obtain ⟨A, rfl, _⟩ := bv_of a ha.1 ha.2
  obtain ⟨M, rfl, _⟩ := bv_of m hm.1 hm.2
  have e : (4294967295 - (M.toNat : Int)) = ((~~~ M).toNat : Int) := by
    rw [BitVec.toNat_not]
    have := M.isLt
    omega
  rw [e]
  simp only [nAnd, nOr, bitI_or_bv, bitI_and_bv]
  congr 2
  ext i hi
  simp
  by_cases h : M[i] = true
  · simp [h]
  · simp [h]

/-- Where a set table's ways lead. -/
def Ways (ip m r d h to : Int) (tk : Bool) : Prop :=
  (h = 0 ∧ to = 0) ∨ (h = 1 ∧ to = d ∧ tk = true ∧ (d = 4294967295 ∨ nAnd d m = nAnd ip m)) ∨ (h = 2 ∧ to = d ∧ d ≠ ip ∧ nAnd d m = nAnd ip m ∧ tk = false) ∨
  (h = 3 ∧ to = r ∧ r ≠ 0 ∧ r ≠ ip ∧ nAnd r m = nAnd ip m ∧ nAnd d m ≠ nAnd ip m ∧ tk = false)

theorem ways {ip m r d : Int} (hi : W ip) (hm : W m) (hd : W d) (e0 : setErr ip m r = 0) : Ways ip m r d (hopOf true ip m r d).1 (hopOf true ip m r d).2 (takesOf true ip m d) := by
  unfold hopOf takesOf Ways
  cases h1 : decide (d = 4294967295)
  case true => right; left; simp at h1; simp [h1]
  cases h2 : isHost d
  · left; simp
  cases h3 : decide (d = ip)
  case true => left; simp
  cases h4 : bcOf ip m d
  case true =>
    right; left
    simp only [bcOf, Bool.and_eq_true, decide_eq_true_eq] at h4
    simp
    right
    rw [h4.2, and_or_not _ _ hi hm]
  cases h5 : decide (nAnd ip m = nAnd d m)
  case true =>
    right; right; left
    simp at h5 h3
    simp [h3, h5]
  cases h6 : decide (r = 0)
  case true => left; simp
  right; right; right
  simp at h5 h6
  have hr : r ≠ ip ∧ nAnd r m = nAnd ip m := by
    unfold setErr at e0
    cases q1 : isHost ip <;> simp [q1] at e0
    cases q2 : decide (m = 0) <;> simp at q2 <;> simp [q2] at e0
    by_cases q3 : ones m < 0
    · simp [q3] at e0
    · simp [q3] at e0
      cases q4 : hostOf ip m ip <;> simp [q4] at e0
      simp [h6] at e0
      by_cases q5 : r = ip
      · simp [q5] at e0
      · simp [q5] at e0
        cases q6 : hostOf ip m r
        · simp [q6] at e0
        · simp only [hostOf, Bool.and_eq_true, decide_eq_true_eq] at q6
          exact ⟨q5, q6.1.2.symm⟩
  refine ⟨by simp, by simp, h6, hr.1, hr.2, fun h => h5 h.symm, by simp⟩

theorem takes_own {ip m : Int} : takesOf true ip m ip = true := by simp [takesOf]

theorem routeWays_walk : ∀ css, RTyL (RTy T DEPTH) [29, 29, 29, 29] css → Spec cx.P 6 (svs T [29, 29, 29, 29] css) [] fun r _ => r = .c (.v (.bool true)) := by
  intro css h
  match css, h with
  | [l0, l1, l2, l3], ⟨h0, h1, h2, h3, _⟩ =>
    obtain ⟨ip, rfl, a0, b0⟩ := RTy_int (T_29) h0
    obtain ⟨m, rfl, a1, b1⟩ := RTy_int (T_29) h1
    obtain ⟨r, rfl, a2, b2⟩ := RTy_int (T_29) h2
    obtain ⟨d, rfl, a3, b3⟩ := RTy_int (T_29) h3
    have hi := W_of a0 b0
    have hm := W_of a1 b1
    have hr := W_of a2 b2
    have hd := W_of a3 b3
    simp only [svs, svOf, T_29, TD.agg, cond_false, RC.toSC]
    refine spec_of_X cx_ok Try.func6 rfl (by kernel_rfl) (by kernel_rfl) (Nat.le_of_ble_eq_true rfl) 400 83 ?_
    simp (maxSteps := 4000000) only [Try.results6, XX, Nat.reduceBEq, Nat.reduceLT, Nat.reduceAdd, Nat.reduceMul, Nat.reduceSub, Nat.reduceLeDiff, Nat.reduceEqDiff, Int.reduceToNat, Int.reduceLT, Int.reduceLE, Int.reduceAdd, Int.reduceSub, Int.reduceEq, reduceIte, Nat.reduceBNe, Int.reducePow, Nat.reducePow, Int.reduceMul, Int.reduceNeg, TT]
    refine call_plain (live_spec) rfl ?_
    rintro _ rfl
    simp (maxSteps := 4000000) only [Try.results6, XX, Nat.reduceBEq, Nat.reduceLT, Nat.reduceAdd, Nat.reduceMul, Nat.reduceSub, Nat.reduceLeDiff, Nat.reduceEqDiff, Int.reduceToNat, Int.reduceLT, Int.reduceLE, Int.reduceAdd, Int.reduceSub, Int.reduceEq, reduceIte, Nat.reduceBNe, Int.reducePow, Nat.reducePow, Int.reduceMul, Int.reduceNeg, TT]
    refine call_frame (new_spec) [] rfl rfl trivial rfl rfl ?_
    rintro _ _ ⟨rfl, rfl⟩
    simp (maxSteps := 4000000) only [Try.results6, XX, Nat.reduceBEq, Nat.reduceLT, Nat.reduceAdd, Nat.reduceMul, Nat.reduceSub, Nat.reduceLeDiff, Nat.reduceEqDiff, Int.reduceToNat, Int.reduceLT, Int.reduceLE, Int.reduceAdd, Int.reduceSub, Int.reduceEq, reduceIte, Nat.reduceBNe, Int.reducePow, Nat.reducePow, Int.reduceMul, Int.reduceNeg, TT]
    refine call_frame (set_spec hi hm hr) [0] rfl rfl ⟨⟨rfl, fun _ => ⟨rfl, rfl⟩⟩, trivial⟩ rfl rfl ?_
    rintro _ _ ⟨rfl, ⟨e0, rfl⟩ | ⟨e0, rfl⟩⟩

    · simp (maxSteps := 4000000) only [Try.results6, e0, XX, Nat.reduceBEq, Nat.reduceLT, Nat.reduceAdd, Nat.reduceMul, Nat.reduceSub, Nat.reduceLeDiff, Nat.reduceEqDiff, Int.reduceToNat, Int.reduceLT, Int.reduceLE, Int.reduceAdd, Int.reduceSub, Int.reduceEq, reduceIte, Nat.reduceBNe, Int.reducePow, Nat.reducePow, Int.reduceMul, Int.reduceNeg, TT]
      have hw := ways hi hm hd e0
      have ht := @takes_own ip m
      obtain ⟨h, to, eh⟩ : ∃ h to, hopOf true ip m r d = (h, to) := ⟨_, _, rfl⟩
      obtain ⟨tk, et⟩ : ∃ tk, takesOf true ip m d = tk := ⟨_, rfl⟩
      simp only [eh, et] at hw
      rcases hw with ⟨rfl, rfl⟩ | ⟨rfl, rfl, rfl, hh⟩ | ⟨rfl, rfl, g1, g2, rfl⟩ | ⟨rfl, rfl, g1, g2, g3, g4, rfl⟩
      ·
        refine call_frame (hop_spec hi hm hd) [0] rfl rfl ⟨⟨rfl, fun _ => ⟨rfl, rfl⟩⟩, trivial⟩ rfl rfl ?_
        rintro _ _ ⟨rfl, rfl⟩
        rw [nz_of_setErr e0]
        simp (maxSteps := 4000000) only [Try.results6, eh, XX, Nat.reduceBEq, Nat.reduceLT, Nat.reduceAdd, Nat.reduceMul, Nat.reduceSub, Nat.reduceLeDiff, Nat.reduceEqDiff, Int.reduceToNat, Int.reduceLT, Int.reduceLE, Int.reduceAdd, Int.reduceSub, Int.reduceEq, reduceIte, Nat.reduceBNe, Int.reducePow, Nat.reducePow, Int.reduceMul, Int.reduceNeg, TT]
        refine call_frame (takes_spec hm) [0] rfl rfl ⟨⟨rfl, fun _ => ⟨rfl, rfl⟩⟩, trivial⟩ rfl rfl ?_
        rintro _ _ ⟨rfl, rfl⟩
        rw [nz_of_setErr e0]
        simp (maxSteps := 4000000) only [Try.results6, et, beq_self_eq_true, XX, Nat.reduceBEq, Nat.reduceLT, Nat.reduceAdd, Nat.reduceMul, Nat.reduceSub, Nat.reduceLeDiff, Nat.reduceEqDiff, Int.reduceToNat, Int.reduceLT, Int.reduceLE, Int.reduceAdd, Int.reduceSub, Int.reduceEq, reduceIte, Nat.reduceBNe, Int.reducePow, Nat.reducePow, Int.reduceMul, Int.reduceNeg, TT]
        refine call_frame (takes_spec hm) [0] rfl rfl ⟨⟨rfl, fun _ => ⟨rfl, rfl⟩⟩, trivial⟩ rfl rfl ?_
        rintro _ _ ⟨rfl, rfl⟩
        rw [nz_of_setErr e0]
        simp (maxSteps := 4000000) only [Try.results6, ht, XX, Nat.reduceBEq, Nat.reduceLT, Nat.reduceAdd, Nat.reduceMul, Nat.reduceSub, Nat.reduceLeDiff, Nat.reduceEqDiff, Int.reduceToNat, Int.reduceLT, Int.reduceLE, Int.reduceAdd, Int.reduceSub, Int.reduceEq, reduceIte, Nat.reduceBNe, Int.reducePow, Nat.reducePow, Int.reduceMul, Int.reduceNeg, TT]
        refine call_frame (clear_spec) [0] rfl rfl ⟨⟨rfl, fun _ => ⟨rfl, rfl⟩⟩, trivial⟩ rfl rfl ?_
        rintro _ _ ⟨rfl, rfl⟩
        simp (maxSteps := 4000000) only [Try.results6, XX, Nat.reduceBEq, Nat.reduceLT, Nat.reduceAdd, Nat.reduceMul, Nat.reduceSub, Nat.reduceLeDiff, Nat.reduceEqDiff, Int.reduceToNat, Int.reduceLT, Int.reduceLE, Int.reduceAdd, Int.reduceSub, Int.reduceEq, reduceIte, Nat.reduceBNe, Int.reducePow, Nat.reducePow, Int.reduceMul, Int.reduceNeg, TT]
        refine call_frame (own_spec) [0] rfl rfl ⟨⟨rfl, fun _ => ⟨rfl, rfl⟩⟩, trivial⟩ rfl rfl ?_
        rintro _ _ ⟨rfl, rfl⟩
        simp (maxSteps := 4000000) only [Try.results6, XX, Nat.reduceBEq, Nat.reduceLT, Nat.reduceAdd, Nat.reduceMul, Nat.reduceSub, Nat.reduceLeDiff, Nat.reduceEqDiff, Int.reduceToNat, Int.reduceLT, Int.reduceLE, Int.reduceAdd, Int.reduceSub, Int.reduceEq, reduceIte, Nat.reduceBNe, Int.reducePow, Nat.reducePow, Int.reduceMul, Int.reduceNeg, TT]
        refine call_frame (set_spec hi hm hr) [0] rfl rfl ⟨⟨rfl, fun _ => ⟨rfl, rfl⟩⟩, trivial⟩ rfl rfl ?_
        rintro _ _ ⟨rfl, ⟨_, rfl⟩ | ⟨e1, rfl⟩⟩
        rotate_left
        · exact absurd e0 e1
        simp (maxSteps := 4000000) only [Try.results6, e0, XX, Nat.reduceBEq, Nat.reduceLT, Nat.reduceAdd, Nat.reduceMul, Nat.reduceSub, Nat.reduceLeDiff, Nat.reduceEqDiff, Int.reduceToNat, Int.reduceLT, Int.reduceLE, Int.reduceAdd, Int.reduceSub, Int.reduceEq, reduceIte, Nat.reduceBNe, Int.reducePow, Nat.reducePow, Int.reduceMul, Int.reduceNeg, TT]
        refine call_frame (hop_spec hi hm hd) [0] rfl rfl ⟨⟨rfl, fun _ => ⟨rfl, rfl⟩⟩, trivial⟩ rfl rfl ?_
        rintro _ _ ⟨rfl, rfl⟩
        rw [nz_of_setErr e0]
        simp (maxSteps := 4000000) only [Try.results6, eh, XX, Nat.reduceBEq, Nat.reduceLT, Nat.reduceAdd, Nat.reduceMul, Nat.reduceSub, Nat.reduceLeDiff, Nat.reduceEqDiff, Int.reduceToNat, Int.reduceLT, Int.reduceLE, Int.reduceAdd, Int.reduceSub, Int.reduceEq, reduceIte, Nat.reduceBNe, Int.reducePow, Nat.reducePow, Int.reduceMul, Int.reduceNeg, TT]
        refine call_frame (takes_spec hm) [0] rfl rfl ⟨⟨rfl, fun _ => ⟨rfl, rfl⟩⟩, trivial⟩ rfl rfl ?_
        rintro _ _ ⟨rfl, rfl⟩
        rw [nz_of_setErr e0]
        simp (maxSteps := 4000000) only [Try.results6, et, beq_self_eq_true, XX, Nat.reduceBEq, Nat.reduceLT, Nat.reduceAdd, Nat.reduceMul, Nat.reduceSub, Nat.reduceLeDiff, Nat.reduceEqDiff, Int.reduceToNat, Int.reduceLT, Int.reduceLE, Int.reduceAdd, Int.reduceSub, Int.reduceEq, reduceIte, Nat.reduceBNe, Int.reducePow, Nat.reducePow, Int.reduceMul, Int.reduceNeg, TT]
        refine call_frame (own_spec) [0] rfl rfl ⟨⟨rfl, fun _ => ⟨rfl, rfl⟩⟩, trivial⟩ rfl rfl ?_
        rintro _ _ ⟨rfl, rfl⟩
        simp (maxSteps := 4000000) only [Try.results6, XX, Nat.reduceBEq, Nat.reduceLT, Nat.reduceAdd, Nat.reduceMul, Nat.reduceSub, Nat.reduceLeDiff, Nat.reduceEqDiff, Int.reduceToNat, Int.reduceLT, Int.reduceLE, Int.reduceAdd, Int.reduceSub, Int.reduceEq, reduceIte, Nat.reduceBNe, Int.reducePow, Nat.reducePow, Int.reduceMul, Int.reduceNeg, TT]
      · have hb : (decide (to = 4294967295) || decide (bitI .and .u32 to m = bitI .and .u32 ip m)) = true := by simpa [nAnd] using hh
        cases q : decide (to = 4294967295)
        · have q2 : decide (bitI .and .u32 to m = bitI .and .u32 ip m) = true := by simpa [q] using hb
          refine call_frame (hop_spec hi hm hd) [0] rfl rfl ⟨⟨rfl, fun _ => ⟨rfl, rfl⟩⟩, trivial⟩ rfl rfl ?_
          rintro _ _ ⟨rfl, rfl⟩
          rw [nz_of_setErr e0]
          simp (maxSteps := 4000000) only [Try.results6, eh, XX, Nat.reduceBEq, Nat.reduceLT, Nat.reduceAdd, Nat.reduceMul, Nat.reduceSub, Nat.reduceLeDiff, Nat.reduceEqDiff, Int.reduceToNat, Int.reduceLT, Int.reduceLE, Int.reduceAdd, Int.reduceSub, Int.reduceEq, reduceIte, Nat.reduceBNe, Int.reducePow, Nat.reducePow, Int.reduceMul, Int.reduceNeg, TT]
          refine call_frame (takes_spec hm) [0] rfl rfl ⟨⟨rfl, fun _ => ⟨rfl, rfl⟩⟩, trivial⟩ rfl rfl ?_
          rintro _ _ ⟨rfl, rfl⟩
          rw [nz_of_setErr e0]
          simp (maxSteps := 4000000) only [Try.results6, et, q, q2, XX, Nat.reduceBEq, Nat.reduceLT, Nat.reduceAdd, Nat.reduceMul, Nat.reduceSub, Nat.reduceLeDiff, Nat.reduceEqDiff, Int.reduceToNat, Int.reduceLT, Int.reduceLE, Int.reduceAdd, Int.reduceSub, Int.reduceEq, reduceIte, Nat.reduceBNe, Int.reducePow, Nat.reducePow, Int.reduceMul, Int.reduceNeg, TT]
          refine call_frame (takes_spec hm) [0] rfl rfl ⟨⟨rfl, fun _ => ⟨rfl, rfl⟩⟩, trivial⟩ rfl rfl ?_
          rintro _ _ ⟨rfl, rfl⟩
          rw [nz_of_setErr e0]
          simp (maxSteps := 4000000) only [Try.results6, ht, XX, Nat.reduceBEq, Nat.reduceLT, Nat.reduceAdd, Nat.reduceMul, Nat.reduceSub, Nat.reduceLeDiff, Nat.reduceEqDiff, Int.reduceToNat, Int.reduceLT, Int.reduceLE, Int.reduceAdd, Int.reduceSub, Int.reduceEq, reduceIte, Nat.reduceBNe, Int.reducePow, Nat.reducePow, Int.reduceMul, Int.reduceNeg, TT]
          refine call_frame (clear_spec) [0] rfl rfl ⟨⟨rfl, fun _ => ⟨rfl, rfl⟩⟩, trivial⟩ rfl rfl ?_
          rintro _ _ ⟨rfl, rfl⟩
          simp (maxSteps := 4000000) only [Try.results6, XX, Nat.reduceBEq, Nat.reduceLT, Nat.reduceAdd, Nat.reduceMul, Nat.reduceSub, Nat.reduceLeDiff, Nat.reduceEqDiff, Int.reduceToNat, Int.reduceLT, Int.reduceLE, Int.reduceAdd, Int.reduceSub, Int.reduceEq, reduceIte, Nat.reduceBNe, Int.reducePow, Nat.reducePow, Int.reduceMul, Int.reduceNeg, TT]
          refine call_frame (own_spec) [0] rfl rfl ⟨⟨rfl, fun _ => ⟨rfl, rfl⟩⟩, trivial⟩ rfl rfl ?_
          rintro _ _ ⟨rfl, rfl⟩
          simp (maxSteps := 4000000) only [Try.results6, XX, Nat.reduceBEq, Nat.reduceLT, Nat.reduceAdd, Nat.reduceMul, Nat.reduceSub, Nat.reduceLeDiff, Nat.reduceEqDiff, Int.reduceToNat, Int.reduceLT, Int.reduceLE, Int.reduceAdd, Int.reduceSub, Int.reduceEq, reduceIte, Nat.reduceBNe, Int.reducePow, Nat.reducePow, Int.reduceMul, Int.reduceNeg, TT]
          refine call_frame (set_spec hi hm hr) [0] rfl rfl ⟨⟨rfl, fun _ => ⟨rfl, rfl⟩⟩, trivial⟩ rfl rfl ?_
          rintro _ _ ⟨rfl, ⟨_, rfl⟩ | ⟨e1, rfl⟩⟩
          rotate_left
          · exact absurd e0 e1
          simp (maxSteps := 4000000) only [Try.results6, e0, XX, Nat.reduceBEq, Nat.reduceLT, Nat.reduceAdd, Nat.reduceMul, Nat.reduceSub, Nat.reduceLeDiff, Nat.reduceEqDiff, Int.reduceToNat, Int.reduceLT, Int.reduceLE, Int.reduceAdd, Int.reduceSub, Int.reduceEq, reduceIte, Nat.reduceBNe, Int.reducePow, Nat.reducePow, Int.reduceMul, Int.reduceNeg, TT]
          refine call_frame (hop_spec hi hm hd) [0] rfl rfl ⟨⟨rfl, fun _ => ⟨rfl, rfl⟩⟩, trivial⟩ rfl rfl ?_
          rintro _ _ ⟨rfl, rfl⟩
          rw [nz_of_setErr e0]
          simp (maxSteps := 4000000) only [Try.results6, eh, XX, Nat.reduceBEq, Nat.reduceLT, Nat.reduceAdd, Nat.reduceMul, Nat.reduceSub, Nat.reduceLeDiff, Nat.reduceEqDiff, Int.reduceToNat, Int.reduceLT, Int.reduceLE, Int.reduceAdd, Int.reduceSub, Int.reduceEq, reduceIte, Nat.reduceBNe, Int.reducePow, Nat.reducePow, Int.reduceMul, Int.reduceNeg, TT]
          refine call_frame (takes_spec hm) [0] rfl rfl ⟨⟨rfl, fun _ => ⟨rfl, rfl⟩⟩, trivial⟩ rfl rfl ?_
          rintro _ _ ⟨rfl, rfl⟩
          rw [nz_of_setErr e0]
          simp (maxSteps := 4000000) only [Try.results6, et, beq_self_eq_true, XX, Nat.reduceBEq, Nat.reduceLT, Nat.reduceAdd, Nat.reduceMul, Nat.reduceSub, Nat.reduceLeDiff, Nat.reduceEqDiff, Int.reduceToNat, Int.reduceLT, Int.reduceLE, Int.reduceAdd, Int.reduceSub, Int.reduceEq, reduceIte, Nat.reduceBNe, Int.reducePow, Nat.reducePow, Int.reduceMul, Int.reduceNeg, TT]
          refine call_frame (own_spec) [0] rfl rfl ⟨⟨rfl, fun _ => ⟨rfl, rfl⟩⟩, trivial⟩ rfl rfl ?_
          rintro _ _ ⟨rfl, rfl⟩
          simp (maxSteps := 4000000) only [Try.results6, XX, Nat.reduceBEq, Nat.reduceLT, Nat.reduceAdd, Nat.reduceMul, Nat.reduceSub, Nat.reduceLeDiff, Nat.reduceEqDiff, Int.reduceToNat, Int.reduceLT, Int.reduceLE, Int.reduceAdd, Int.reduceSub, Int.reduceEq, reduceIte, Nat.reduceBNe, Int.reducePow, Nat.reducePow, Int.reduceMul, Int.reduceNeg, TT]
        ·
          refine call_frame (hop_spec hi hm hd) [0] rfl rfl ⟨⟨rfl, fun _ => ⟨rfl, rfl⟩⟩, trivial⟩ rfl rfl ?_
          rintro _ _ ⟨rfl, rfl⟩
          rw [nz_of_setErr e0]
          simp (maxSteps := 4000000) only [Try.results6, eh, XX, Nat.reduceBEq, Nat.reduceLT, Nat.reduceAdd, Nat.reduceMul, Nat.reduceSub, Nat.reduceLeDiff, Nat.reduceEqDiff, Int.reduceToNat, Int.reduceLT, Int.reduceLE, Int.reduceAdd, Int.reduceSub, Int.reduceEq, reduceIte, Nat.reduceBNe, Int.reducePow, Nat.reducePow, Int.reduceMul, Int.reduceNeg, TT]
          refine call_frame (takes_spec hm) [0] rfl rfl ⟨⟨rfl, fun _ => ⟨rfl, rfl⟩⟩, trivial⟩ rfl rfl ?_
          rintro _ _ ⟨rfl, rfl⟩
          rw [nz_of_setErr e0]
          simp (maxSteps := 4000000) only [Try.results6, et, q, XX, Nat.reduceBEq, Nat.reduceLT, Nat.reduceAdd, Nat.reduceMul, Nat.reduceSub, Nat.reduceLeDiff, Nat.reduceEqDiff, Int.reduceToNat, Int.reduceLT, Int.reduceLE, Int.reduceAdd, Int.reduceSub, Int.reduceEq, reduceIte, Nat.reduceBNe, Int.reducePow, Nat.reducePow, Int.reduceMul, Int.reduceNeg, TT]
          refine call_frame (takes_spec hm) [0] rfl rfl ⟨⟨rfl, fun _ => ⟨rfl, rfl⟩⟩, trivial⟩ rfl rfl ?_
          rintro _ _ ⟨rfl, rfl⟩
          rw [nz_of_setErr e0]
          simp (maxSteps := 4000000) only [Try.results6, ht, XX, Nat.reduceBEq, Nat.reduceLT, Nat.reduceAdd, Nat.reduceMul, Nat.reduceSub, Nat.reduceLeDiff, Nat.reduceEqDiff, Int.reduceToNat, Int.reduceLT, Int.reduceLE, Int.reduceAdd, Int.reduceSub, Int.reduceEq, reduceIte, Nat.reduceBNe, Int.reducePow, Nat.reducePow, Int.reduceMul, Int.reduceNeg, TT]
          refine call_frame (clear_spec) [0] rfl rfl ⟨⟨rfl, fun _ => ⟨rfl, rfl⟩⟩, trivial⟩ rfl rfl ?_
          rintro _ _ ⟨rfl, rfl⟩
          simp (maxSteps := 4000000) only [Try.results6, XX, Nat.reduceBEq, Nat.reduceLT, Nat.reduceAdd, Nat.reduceMul, Nat.reduceSub, Nat.reduceLeDiff, Nat.reduceEqDiff, Int.reduceToNat, Int.reduceLT, Int.reduceLE, Int.reduceAdd, Int.reduceSub, Int.reduceEq, reduceIte, Nat.reduceBNe, Int.reducePow, Nat.reducePow, Int.reduceMul, Int.reduceNeg, TT]
          refine call_frame (own_spec) [0] rfl rfl ⟨⟨rfl, fun _ => ⟨rfl, rfl⟩⟩, trivial⟩ rfl rfl ?_
          rintro _ _ ⟨rfl, rfl⟩
          simp (maxSteps := 4000000) only [Try.results6, XX, Nat.reduceBEq, Nat.reduceLT, Nat.reduceAdd, Nat.reduceMul, Nat.reduceSub, Nat.reduceLeDiff, Nat.reduceEqDiff, Int.reduceToNat, Int.reduceLT, Int.reduceLE, Int.reduceAdd, Int.reduceSub, Int.reduceEq, reduceIte, Nat.reduceBNe, Int.reducePow, Nat.reducePow, Int.reduceMul, Int.reduceNeg, TT]
          refine call_frame (set_spec hi hm hr) [0] rfl rfl ⟨⟨rfl, fun _ => ⟨rfl, rfl⟩⟩, trivial⟩ rfl rfl ?_
          rintro _ _ ⟨rfl, ⟨_, rfl⟩ | ⟨e1, rfl⟩⟩
          rotate_left
          · exact absurd e0 e1
          simp (maxSteps := 4000000) only [Try.results6, e0, XX, Nat.reduceBEq, Nat.reduceLT, Nat.reduceAdd, Nat.reduceMul, Nat.reduceSub, Nat.reduceLeDiff, Nat.reduceEqDiff, Int.reduceToNat, Int.reduceLT, Int.reduceLE, Int.reduceAdd, Int.reduceSub, Int.reduceEq, reduceIte, Nat.reduceBNe, Int.reducePow, Nat.reducePow, Int.reduceMul, Int.reduceNeg, TT]
          refine call_frame (hop_spec hi hm hd) [0] rfl rfl ⟨⟨rfl, fun _ => ⟨rfl, rfl⟩⟩, trivial⟩ rfl rfl ?_
          rintro _ _ ⟨rfl, rfl⟩
          rw [nz_of_setErr e0]
          simp (maxSteps := 4000000) only [Try.results6, eh, XX, Nat.reduceBEq, Nat.reduceLT, Nat.reduceAdd, Nat.reduceMul, Nat.reduceSub, Nat.reduceLeDiff, Nat.reduceEqDiff, Int.reduceToNat, Int.reduceLT, Int.reduceLE, Int.reduceAdd, Int.reduceSub, Int.reduceEq, reduceIte, Nat.reduceBNe, Int.reducePow, Nat.reducePow, Int.reduceMul, Int.reduceNeg, TT]
          refine call_frame (takes_spec hm) [0] rfl rfl ⟨⟨rfl, fun _ => ⟨rfl, rfl⟩⟩, trivial⟩ rfl rfl ?_
          rintro _ _ ⟨rfl, rfl⟩
          rw [nz_of_setErr e0]
          simp (maxSteps := 4000000) only [Try.results6, et, beq_self_eq_true, XX, Nat.reduceBEq, Nat.reduceLT, Nat.reduceAdd, Nat.reduceMul, Nat.reduceSub, Nat.reduceLeDiff, Nat.reduceEqDiff, Int.reduceToNat, Int.reduceLT, Int.reduceLE, Int.reduceAdd, Int.reduceSub, Int.reduceEq, reduceIte, Nat.reduceBNe, Int.reducePow, Nat.reducePow, Int.reduceMul, Int.reduceNeg, TT]
          refine call_frame (own_spec) [0] rfl rfl ⟨⟨rfl, fun _ => ⟨rfl, rfl⟩⟩, trivial⟩ rfl rfl ?_
          rintro _ _ ⟨rfl, rfl⟩
          simp (maxSteps := 4000000) only [Try.results6, XX, Nat.reduceBEq, Nat.reduceLT, Nat.reduceAdd, Nat.reduceMul, Nat.reduceSub, Nat.reduceLeDiff, Nat.reduceEqDiff, Int.reduceToNat, Int.reduceLT, Int.reduceLE, Int.reduceAdd, Int.reduceSub, Int.reduceEq, reduceIte, Nat.reduceBNe, Int.reducePow, Nat.reducePow, Int.reduceMul, Int.reduceNeg, TT]
      · have q1 : decide (to = ip) = false := by simpa using g1
        have q2 : decide (bitI .and .u32 to m = bitI .and .u32 ip m) = true := by simpa [nAnd] using g2
        refine call_frame (hop_spec hi hm hd) [0] rfl rfl ⟨⟨rfl, fun _ => ⟨rfl, rfl⟩⟩, trivial⟩ rfl rfl ?_
        rintro _ _ ⟨rfl, rfl⟩
        rw [nz_of_setErr e0]
        simp (maxSteps := 4000000) only [Try.results6, eh, XX, Nat.reduceBEq, Nat.reduceLT, Nat.reduceAdd, Nat.reduceMul, Nat.reduceSub, Nat.reduceLeDiff, Nat.reduceEqDiff, Int.reduceToNat, Int.reduceLT, Int.reduceLE, Int.reduceAdd, Int.reduceSub, Int.reduceEq, reduceIte, Nat.reduceBNe, Int.reducePow, Nat.reducePow, Int.reduceMul, Int.reduceNeg, TT]
        refine call_frame (takes_spec hm) [0] rfl rfl ⟨⟨rfl, fun _ => ⟨rfl, rfl⟩⟩, trivial⟩ rfl rfl ?_
        rintro _ _ ⟨rfl, rfl⟩
        rw [nz_of_setErr e0]
        simp (maxSteps := 4000000) only [Try.results6, et, q1, q2, XX, Nat.reduceBEq, Nat.reduceLT, Nat.reduceAdd, Nat.reduceMul, Nat.reduceSub, Nat.reduceLeDiff, Nat.reduceEqDiff, Int.reduceToNat, Int.reduceLT, Int.reduceLE, Int.reduceAdd, Int.reduceSub, Int.reduceEq, reduceIte, Nat.reduceBNe, Int.reducePow, Nat.reducePow, Int.reduceMul, Int.reduceNeg, TT]
        refine call_frame (takes_spec hm) [0] rfl rfl ⟨⟨rfl, fun _ => ⟨rfl, rfl⟩⟩, trivial⟩ rfl rfl ?_
        rintro _ _ ⟨rfl, rfl⟩
        rw [nz_of_setErr e0]
        simp (maxSteps := 4000000) only [Try.results6, ht, XX, Nat.reduceBEq, Nat.reduceLT, Nat.reduceAdd, Nat.reduceMul, Nat.reduceSub, Nat.reduceLeDiff, Nat.reduceEqDiff, Int.reduceToNat, Int.reduceLT, Int.reduceLE, Int.reduceAdd, Int.reduceSub, Int.reduceEq, reduceIte, Nat.reduceBNe, Int.reducePow, Nat.reducePow, Int.reduceMul, Int.reduceNeg, TT]
        refine call_frame (clear_spec) [0] rfl rfl ⟨⟨rfl, fun _ => ⟨rfl, rfl⟩⟩, trivial⟩ rfl rfl ?_
        rintro _ _ ⟨rfl, rfl⟩
        simp (maxSteps := 4000000) only [Try.results6, XX, Nat.reduceBEq, Nat.reduceLT, Nat.reduceAdd, Nat.reduceMul, Nat.reduceSub, Nat.reduceLeDiff, Nat.reduceEqDiff, Int.reduceToNat, Int.reduceLT, Int.reduceLE, Int.reduceAdd, Int.reduceSub, Int.reduceEq, reduceIte, Nat.reduceBNe, Int.reducePow, Nat.reducePow, Int.reduceMul, Int.reduceNeg, TT]
        refine call_frame (own_spec) [0] rfl rfl ⟨⟨rfl, fun _ => ⟨rfl, rfl⟩⟩, trivial⟩ rfl rfl ?_
        rintro _ _ ⟨rfl, rfl⟩
        simp (maxSteps := 4000000) only [Try.results6, XX, Nat.reduceBEq, Nat.reduceLT, Nat.reduceAdd, Nat.reduceMul, Nat.reduceSub, Nat.reduceLeDiff, Nat.reduceEqDiff, Int.reduceToNat, Int.reduceLT, Int.reduceLE, Int.reduceAdd, Int.reduceSub, Int.reduceEq, reduceIte, Nat.reduceBNe, Int.reducePow, Nat.reducePow, Int.reduceMul, Int.reduceNeg, TT]
        refine call_frame (set_spec hi hm hr) [0] rfl rfl ⟨⟨rfl, fun _ => ⟨rfl, rfl⟩⟩, trivial⟩ rfl rfl ?_
        rintro _ _ ⟨rfl, ⟨_, rfl⟩ | ⟨e1, rfl⟩⟩
        rotate_left
        · exact absurd e0 e1
        simp (maxSteps := 4000000) only [Try.results6, e0, XX, Nat.reduceBEq, Nat.reduceLT, Nat.reduceAdd, Nat.reduceMul, Nat.reduceSub, Nat.reduceLeDiff, Nat.reduceEqDiff, Int.reduceToNat, Int.reduceLT, Int.reduceLE, Int.reduceAdd, Int.reduceSub, Int.reduceEq, reduceIte, Nat.reduceBNe, Int.reducePow, Nat.reducePow, Int.reduceMul, Int.reduceNeg, TT]
        refine call_frame (hop_spec hi hm hd) [0] rfl rfl ⟨⟨rfl, fun _ => ⟨rfl, rfl⟩⟩, trivial⟩ rfl rfl ?_
        rintro _ _ ⟨rfl, rfl⟩
        rw [nz_of_setErr e0]
        simp (maxSteps := 4000000) only [Try.results6, eh, XX, Nat.reduceBEq, Nat.reduceLT, Nat.reduceAdd, Nat.reduceMul, Nat.reduceSub, Nat.reduceLeDiff, Nat.reduceEqDiff, Int.reduceToNat, Int.reduceLT, Int.reduceLE, Int.reduceAdd, Int.reduceSub, Int.reduceEq, reduceIte, Nat.reduceBNe, Int.reducePow, Nat.reducePow, Int.reduceMul, Int.reduceNeg, TT]
        refine call_frame (takes_spec hm) [0] rfl rfl ⟨⟨rfl, fun _ => ⟨rfl, rfl⟩⟩, trivial⟩ rfl rfl ?_
        rintro _ _ ⟨rfl, rfl⟩
        rw [nz_of_setErr e0]
        simp (maxSteps := 4000000) only [Try.results6, et, beq_self_eq_true, XX, Nat.reduceBEq, Nat.reduceLT, Nat.reduceAdd, Nat.reduceMul, Nat.reduceSub, Nat.reduceLeDiff, Nat.reduceEqDiff, Int.reduceToNat, Int.reduceLT, Int.reduceLE, Int.reduceAdd, Int.reduceSub, Int.reduceEq, reduceIte, Nat.reduceBNe, Int.reducePow, Nat.reducePow, Int.reduceMul, Int.reduceNeg, TT]
        refine call_frame (own_spec) [0] rfl rfl ⟨⟨rfl, fun _ => ⟨rfl, rfl⟩⟩, trivial⟩ rfl rfl ?_
        rintro _ _ ⟨rfl, rfl⟩
        simp (maxSteps := 4000000) only [Try.results6, XX, Nat.reduceBEq, Nat.reduceLT, Nat.reduceAdd, Nat.reduceMul, Nat.reduceSub, Nat.reduceLeDiff, Nat.reduceEqDiff, Int.reduceToNat, Int.reduceLT, Int.reduceLE, Int.reduceAdd, Int.reduceSub, Int.reduceEq, reduceIte, Nat.reduceBNe, Int.reducePow, Nat.reducePow, Int.reduceMul, Int.reduceNeg, TT]
      · have q1 : decide (to = 0) = false := by simpa using g1
        have q2 : decide (to = ip) = false := by simpa using g2
        have q3 : decide (bitI .and .u32 to m = bitI .and .u32 ip m) = true := by simpa [nAnd] using g3
        have q4 : decide (bitI .and .u32 d m = bitI .and .u32 ip m) = false := by simpa [nAnd] using g4
        refine call_frame (hop_spec hi hm hd) [0] rfl rfl ⟨⟨rfl, fun _ => ⟨rfl, rfl⟩⟩, trivial⟩ rfl rfl ?_
        rintro _ _ ⟨rfl, rfl⟩
        rw [nz_of_setErr e0]
        simp (maxSteps := 4000000) only [Try.results6, eh, XX, Nat.reduceBEq, Nat.reduceLT, Nat.reduceAdd, Nat.reduceMul, Nat.reduceSub, Nat.reduceLeDiff, Nat.reduceEqDiff, Int.reduceToNat, Int.reduceLT, Int.reduceLE, Int.reduceAdd, Int.reduceSub, Int.reduceEq, reduceIte, Nat.reduceBNe, Int.reducePow, Nat.reducePow, Int.reduceMul, Int.reduceNeg, TT]
        refine call_frame (takes_spec hm) [0] rfl rfl ⟨⟨rfl, fun _ => ⟨rfl, rfl⟩⟩, trivial⟩ rfl rfl ?_
        rintro _ _ ⟨rfl, rfl⟩
        rw [nz_of_setErr e0]
        simp (maxSteps := 4000000) only [Try.results6, et, q1, q2, q3, q4, XX, Nat.reduceBEq, Nat.reduceLT, Nat.reduceAdd, Nat.reduceMul, Nat.reduceSub, Nat.reduceLeDiff, Nat.reduceEqDiff, Int.reduceToNat, Int.reduceLT, Int.reduceLE, Int.reduceAdd, Int.reduceSub, Int.reduceEq, reduceIte, Nat.reduceBNe, Int.reducePow, Nat.reducePow, Int.reduceMul, Int.reduceNeg, TT]
        refine call_frame (takes_spec hm) [0] rfl rfl ⟨⟨rfl, fun _ => ⟨rfl, rfl⟩⟩, trivial⟩ rfl rfl ?_
        rintro _ _ ⟨rfl, rfl⟩
        rw [nz_of_setErr e0]
        simp (maxSteps := 4000000) only [Try.results6, ht, XX, Nat.reduceBEq, Nat.reduceLT, Nat.reduceAdd, Nat.reduceMul, Nat.reduceSub, Nat.reduceLeDiff, Nat.reduceEqDiff, Int.reduceToNat, Int.reduceLT, Int.reduceLE, Int.reduceAdd, Int.reduceSub, Int.reduceEq, reduceIte, Nat.reduceBNe, Int.reducePow, Nat.reducePow, Int.reduceMul, Int.reduceNeg, TT]
        refine call_frame (clear_spec) [0] rfl rfl ⟨⟨rfl, fun _ => ⟨rfl, rfl⟩⟩, trivial⟩ rfl rfl ?_
        rintro _ _ ⟨rfl, rfl⟩
        simp (maxSteps := 4000000) only [Try.results6, XX, Nat.reduceBEq, Nat.reduceLT, Nat.reduceAdd, Nat.reduceMul, Nat.reduceSub, Nat.reduceLeDiff, Nat.reduceEqDiff, Int.reduceToNat, Int.reduceLT, Int.reduceLE, Int.reduceAdd, Int.reduceSub, Int.reduceEq, reduceIte, Nat.reduceBNe, Int.reducePow, Nat.reducePow, Int.reduceMul, Int.reduceNeg, TT]
        refine call_frame (own_spec) [0] rfl rfl ⟨⟨rfl, fun _ => ⟨rfl, rfl⟩⟩, trivial⟩ rfl rfl ?_
        rintro _ _ ⟨rfl, rfl⟩
        simp (maxSteps := 4000000) only [Try.results6, XX, Nat.reduceBEq, Nat.reduceLT, Nat.reduceAdd, Nat.reduceMul, Nat.reduceSub, Nat.reduceLeDiff, Nat.reduceEqDiff, Int.reduceToNat, Int.reduceLT, Int.reduceLE, Int.reduceAdd, Int.reduceSub, Int.reduceEq, reduceIte, Nat.reduceBNe, Int.reducePow, Nat.reducePow, Int.reduceMul, Int.reduceNeg, TT]
        refine call_frame (set_spec hi hm hr) [0] rfl rfl ⟨⟨rfl, fun _ => ⟨rfl, rfl⟩⟩, trivial⟩ rfl rfl ?_
        rintro _ _ ⟨rfl, ⟨_, rfl⟩ | ⟨e1, rfl⟩⟩
        rotate_left
        · exact absurd e0 e1
        simp (maxSteps := 4000000) only [Try.results6, e0, XX, Nat.reduceBEq, Nat.reduceLT, Nat.reduceAdd, Nat.reduceMul, Nat.reduceSub, Nat.reduceLeDiff, Nat.reduceEqDiff, Int.reduceToNat, Int.reduceLT, Int.reduceLE, Int.reduceAdd, Int.reduceSub, Int.reduceEq, reduceIte, Nat.reduceBNe, Int.reducePow, Nat.reducePow, Int.reduceMul, Int.reduceNeg, TT]
        refine call_frame (hop_spec hi hm hd) [0] rfl rfl ⟨⟨rfl, fun _ => ⟨rfl, rfl⟩⟩, trivial⟩ rfl rfl ?_
        rintro _ _ ⟨rfl, rfl⟩
        rw [nz_of_setErr e0]
        simp (maxSteps := 4000000) only [Try.results6, eh, XX, Nat.reduceBEq, Nat.reduceLT, Nat.reduceAdd, Nat.reduceMul, Nat.reduceSub, Nat.reduceLeDiff, Nat.reduceEqDiff, Int.reduceToNat, Int.reduceLT, Int.reduceLE, Int.reduceAdd, Int.reduceSub, Int.reduceEq, reduceIte, Nat.reduceBNe, Int.reducePow, Nat.reducePow, Int.reduceMul, Int.reduceNeg, TT]
        refine call_frame (takes_spec hm) [0] rfl rfl ⟨⟨rfl, fun _ => ⟨rfl, rfl⟩⟩, trivial⟩ rfl rfl ?_
        rintro _ _ ⟨rfl, rfl⟩
        rw [nz_of_setErr e0]
        simp (maxSteps := 4000000) only [Try.results6, et, beq_self_eq_true, XX, Nat.reduceBEq, Nat.reduceLT, Nat.reduceAdd, Nat.reduceMul, Nat.reduceSub, Nat.reduceLeDiff, Nat.reduceEqDiff, Int.reduceToNat, Int.reduceLT, Int.reduceLE, Int.reduceAdd, Int.reduceSub, Int.reduceEq, reduceIte, Nat.reduceBNe, Int.reducePow, Nat.reducePow, Int.reduceMul, Int.reduceNeg, TT]
        refine call_frame (own_spec) [0] rfl rfl ⟨⟨rfl, fun _ => ⟨rfl, rfl⟩⟩, trivial⟩ rfl rfl ?_
        rintro _ _ ⟨rfl, rfl⟩
        simp (maxSteps := 4000000) only [Try.results6, XX, Nat.reduceBEq, Nat.reduceLT, Nat.reduceAdd, Nat.reduceMul, Nat.reduceSub, Nat.reduceLeDiff, Nat.reduceEqDiff, Int.reduceToNat, Int.reduceLT, Int.reduceLE, Int.reduceAdd, Int.reduceSub, Int.reduceEq, reduceIte, Nat.reduceBNe, Int.reducePow, Nat.reducePow, Int.reduceMul, Int.reduceNeg, TT]
    · have q0 : decide (setErr ip m r = 0) = false := by simpa using e0
      have eh : hopOf (nz 0 0 0) 0 0 0 d = if decide (d = 4294967295) = true then (1, d) else (0, 0) := by
        have : nz 0 0 0 = false := by decide
        rw [this]
        simp [hopOf]
      have et : takesOf (nz 0 0 0) 0 0 d = decide (d = 4294967295) := by
        have : nz 0 0 0 = false := by decide
        rw [this]
        simp [takesOf]
      simp (maxSteps := 4000000) only [Try.results6, q0, XX, Nat.reduceBEq, Nat.reduceLT, Nat.reduceAdd, Nat.reduceMul, Nat.reduceSub, Nat.reduceLeDiff, Nat.reduceEqDiff, Int.reduceToNat, Int.reduceLT, Int.reduceLE, Int.reduceAdd, Int.reduceSub, Int.reduceEq, reduceIte, Nat.reduceBNe, Int.reducePow, Nat.reducePow, Int.reduceMul, Int.reduceNeg, TT]
      cases q : decide (d = 4294967295)
      · have eh' : hopOf (nz 0 0 0) 0 0 0 d = (0, 0) := by rw [eh, q]; rfl
        have et' : takesOf (nz 0 0 0) 0 0 d = false := by rw [et, q]
        refine call_frame (hop_spec (by simp [W]) (by simp [W]) hd) [0] rfl rfl ⟨⟨rfl, fun _ => ⟨rfl, rfl⟩⟩, trivial⟩ rfl rfl ?_
        rintro _ _ ⟨rfl, rfl⟩
        simp (maxSteps := 4000000) only [Try.results6, eh', XX, Nat.reduceBEq, Nat.reduceLT, Nat.reduceAdd, Nat.reduceMul, Nat.reduceSub, Nat.reduceLeDiff, Nat.reduceEqDiff, Int.reduceToNat, Int.reduceLT, Int.reduceLE, Int.reduceAdd, Int.reduceSub, Int.reduceEq, reduceIte, Nat.reduceBNe, Int.reducePow, Nat.reducePow, Int.reduceMul, Int.reduceNeg, TT]
        refine call_frame (takes_spec (by simp [W])) [0] rfl rfl ⟨⟨rfl, fun _ => ⟨rfl, rfl⟩⟩, trivial⟩ rfl rfl ?_
        rintro _ _ ⟨rfl, rfl⟩
        simp (maxSteps := 4000000) only [Try.results6, et', q0, q, XX, Nat.reduceBEq, Nat.reduceLT, Nat.reduceAdd, Nat.reduceMul, Nat.reduceSub, Nat.reduceLeDiff, Nat.reduceEqDiff, Int.reduceToNat, Int.reduceLT, Int.reduceLE, Int.reduceAdd, Int.reduceSub, Int.reduceEq, reduceIte, Nat.reduceBNe, Int.reducePow, Nat.reducePow, Int.reduceMul, Int.reduceNeg, TT]
        refine call_frame (own_spec) [0] rfl rfl ⟨⟨rfl, fun _ => ⟨rfl, rfl⟩⟩, trivial⟩ rfl rfl ?_
        rintro _ _ ⟨rfl, rfl⟩
        simp (maxSteps := 4000000) only [Try.results6, XX, Nat.reduceBEq, Nat.reduceLT, Nat.reduceAdd, Nat.reduceMul, Nat.reduceSub, Nat.reduceLeDiff, Nat.reduceEqDiff, Int.reduceToNat, Int.reduceLT, Int.reduceLE, Int.reduceAdd, Int.reduceSub, Int.reduceEq, reduceIte, Nat.reduceBNe, Int.reducePow, Nat.reducePow, Int.reduceMul, Int.reduceNeg, TT]
      · have eh' : hopOf (nz 0 0 0) 0 0 0 d = (1, d) := by rw [eh, q]; rfl
        have et' : takesOf (nz 0 0 0) 0 0 d = true := by rw [et, q]
        refine call_frame (hop_spec (by simp [W]) (by simp [W]) hd) [0] rfl rfl ⟨⟨rfl, fun _ => ⟨rfl, rfl⟩⟩, trivial⟩ rfl rfl ?_
        rintro _ _ ⟨rfl, rfl⟩
        simp (maxSteps := 4000000) only [Try.results6, eh', XX, Nat.reduceBEq, Nat.reduceLT, Nat.reduceAdd, Nat.reduceMul, Nat.reduceSub, Nat.reduceLeDiff, Nat.reduceEqDiff, Int.reduceToNat, Int.reduceLT, Int.reduceLE, Int.reduceAdd, Int.reduceSub, Int.reduceEq, reduceIte, Nat.reduceBNe, Int.reducePow, Nat.reducePow, Int.reduceMul, Int.reduceNeg, TT]
        refine call_frame (takes_spec (by simp [W])) [0] rfl rfl ⟨⟨rfl, fun _ => ⟨rfl, rfl⟩⟩, trivial⟩ rfl rfl ?_
        rintro _ _ ⟨rfl, rfl⟩
        simp (maxSteps := 4000000) only [Try.results6, et', q0, q, XX, Nat.reduceBEq, Nat.reduceLT, Nat.reduceAdd, Nat.reduceMul, Nat.reduceSub, Nat.reduceLeDiff, Nat.reduceEqDiff, Int.reduceToNat, Int.reduceLT, Int.reduceLE, Int.reduceAdd, Int.reduceSub, Int.reduceEq, reduceIte, Nat.reduceBNe, Int.reducePow, Nat.reducePow, Int.reduceMul, Int.reduceNeg, TT]
        refine call_frame (own_spec) [0] rfl rfl ⟨⟨rfl, fun _ => ⟨rfl, rfl⟩⟩, trivial⟩ rfl rfl ?_
        rintro _ _ ⟨rfl, rfl⟩
        simp (maxSteps := 4000000) only [Try.results6, XX, Nat.reduceBEq, Nat.reduceLT, Nat.reduceAdd, Nat.reduceMul, Nat.reduceSub, Nat.reduceLeDiff, Nat.reduceEqDiff, Int.reduceToNat, Int.reduceLT, Int.reduceLE, Int.reduceAdd, Int.reduceSub, Int.reduceEq, reduceIte, Nat.reduceBNe, Int.reducePow, Nat.reducePow, Int.reduceMul, Int.reduceNeg, TT]

end Go.Proofs.Ytfjapffakihphaa.Sx
