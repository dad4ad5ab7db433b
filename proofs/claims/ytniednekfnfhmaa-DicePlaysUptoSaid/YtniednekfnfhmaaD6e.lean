/- The symbolic executor, at work: the law of the dice's bounds. No condition. -/
import Derived.Test.YtniednekfnfhmaaD6d
namespace Go.Proofs.Ytniednekfnfhmaa.Sx
open Go
set_option linter.unusedSimpArgs false
set_option linter.unusedVariables false
set_option maxRecDepth 10000
set_option maxHeartbeats 2000000

theorem RTy_u32 {B n : Nat} {x : List RC} (h : RTy T B (n + 1) 37 x) : ∃ z : Nat, x = [r32 z] ∧ z < 4294967296 := by
  obtain ⟨z, rfl, h1, h2⟩ := RTy_int T_37 h
  simp [IntKind.min, IntKind.max, IntKind.bits, IntKind.signed] at h1 h2
  exact ⟨z.toNat, by rw [r32, Int.toNat_of_nonneg h1], by omega⟩

theorem usR_flat : ∀ ys : List Nat, (ys.map fun b : Nat => [r32 b]).flatten = usR ys
  | [] => rfl
  | y :: ys => by simp only [List.map_cons, List.flatten_cons, usR_flat ys]; rfl

theorem RTy_us {B n : Nat} {x : List RC} (h : RTy T B (n + 2) 22 x) : ∃ (l sp : List Nat) (c : Nat), x = [.sl (usR (l ++ sp)) l.length c] ∧ l.length ≤ c ∧ c = l.length + sp.length ∧ (∀ y ∈ l, y < 4294967296) ∧ 4 * c ≤ B := by
  obtain ⟨items, len, rfl, h1, h2, h3, h4⟩ := RTy_slice T_22 T_37 h
  obtain ⟨ys, rfl, hp⟩ := all_form (p := fun y : Nat => y < 4294967296) (f := fun b : Nat => [r32 b]) fun x hx => by
    obtain ⟨b, hb, hlt⟩ := RTy_u32 (h4 x hx)
    exact ⟨b, hb, hlt⟩
  simp only [List.length_map] at h1 h2 h3 ⊢
  refine ⟨ys.take len, ys.drop len, ys.length, ?_, ?_, ?_, ?_, ?_⟩
  · rw [usR_flat, List.take_append_drop, List.length_take, Nat.min_eq_left h1]
  · rw [List.length_take]; omega
  · rw [List.length_take, List.length_drop]; omega
  · exact fun y hy => hp y (List.mem_of_mem_take hy)
  · omega

theorem headD_lt {L : List Nat} (h : ∀ y ∈ L, y < 4294967296) : L.headD 0 < 4294967296 := by
  cases L with
  | nil => exact (by decide)
  | cons x l => exact h x (by simp)
theorem tail_lt {L : List Nat} (h : ∀ y ∈ L, y < 4294967296) : ∀ y ∈ L.tail, y < 4294967296 := fun y hy => h y (List.mem_of_mem_tail hy)

theorem diceBounds_walk : ∀ css, RTyL (RTy T reachBytes DEPTH) [22, 3, 3, 3, 3, 3] css → Spec Try.prog 4 (svs T [22, 3, 3, 3, 3, 3] css) [] fun r _ => r = .c (.v (.bool true)) := by
  intro css h
  obtain ⟨x1, xs1, rfl, h1, g1⟩ := RTyL_cons h
  obtain ⟨x2, xs2, rfl, h2, g2⟩ := RTyL_cons g1
  obtain ⟨x3, xs3, rfl, h3, g3⟩ := RTyL_cons g2
  obtain ⟨x4, xs4, rfl, h4, g4⟩ := RTyL_cons g3
  obtain ⟨x5, xs5, rfl, h5, g5⟩ := RTyL_cons g4
  obtain ⟨x6, xs6, rfl, h6, g6⟩ := RTyL_cons g5
  obtain rfl := RTyL_nil g6
  obtain ⟨l, sp, c, rfl, hl1, hl2, hl3, hl4⟩ := RTy_us h1
  obtain ⟨lo, rfl, hlo⟩ := RTy_int T_3 h2
  obtain ⟨hi, rfl, hhi⟩ := RTy_int T_3 h3
  obtain ⟨base, rfl, hbase⟩ := RTy_int T_3 h4
  obtain ⟨most, rfl, hmost⟩ := RTy_int T_3 h5
  obtain ⟨tr, rfl, htr⟩ := RTy_int T_3 h6
  have e1 : svOf T 22 [.sl (usR (l ++ sp)) l.length c] = .c (roU l sp c) := rfl
  have e2 : ∀ z : Int, svOf T 3 [.v (.int .i64 z)] = .c (i64 z) := fun _ => rfl
  simp only [svs, e1, e2]
  clear h1 h2 h3 h4 h5 h6 g1 g2 g3 g4 g5 g6 h e1 e2
  unfold reachBytes at hl4
  simp [IntKind.min, IntKind.max, IntKind.bits, IntKind.signed] at hlo hhi hbase hmost htr
  refine spec_of_X cx_ok Try.func4 rfl (by kernel_rfl) (by kernel_rfl) (Nat.le_of_ble_eq_true rfl) 400 22 ?_
  simp (maxSteps := 4000000) only [Try.results4, XX, Nat.reduceBEq, Nat.reduceLT, Nat.reduceAdd, Nat.reduceMul, Nat.reduceSub, Nat.reduceLeDiff, Nat.reduceEqDiff, Int.reduceToNat, Int.reduceLT, Int.reduceLE, Int.reduceAdd, Int.reduceSub, Int.reduceEq, reduceIte, Nat.reduceBNe, Int.reducePow, Nat.reducePow, Int.reduceMul, Int.reduceNeg, isB_i, isB_b, isB_y, isBv_i, isBv_b, eqCells_t, TT]
  refine call_plain (awake_spec) rfl ?_
  rintro _ rfl
  simp (maxSteps := 4000000) only [Try.results4, XX, Nat.reduceBEq, Nat.reduceLT, Nat.reduceAdd, Nat.reduceMul, Nat.reduceSub, Nat.reduceLeDiff, Nat.reduceEqDiff, Int.reduceToNat, Int.reduceLT, Int.reduceLE, Int.reduceAdd, Int.reduceSub, Int.reduceEq, reduceIte, Nat.reduceBNe, Int.reducePow, Nat.reducePow, Int.reduceMul, Int.reduceNeg, isB_i, isB_b, isB_y, isBv_i, isBv_b, eqCells_t, TT]
  refine call_fz [.c (roU l sp c)] (new_spec l sp c hl1 (by omega)) (fun t h' h => new_noRo h) ⟨.inl ⟨rfl, rfl⟩, trivial⟩ ?_
  rintro _ _ ⟨rfl, z, o, rfl, ho⟩
  simp (maxSteps := 4000000) only [Try.results4, ids_usC, ren_usC, lt_usC, noRo_usC, XX, Nat.reduceBEq, Nat.reduceLT, Nat.reduceAdd, Nat.reduceMul, Nat.reduceSub, Nat.reduceLeDiff, Nat.reduceEqDiff, Int.reduceToNat, Int.reduceLT, Int.reduceLE, Int.reduceAdd, Int.reduceSub, Int.reduceEq, reduceIte, Nat.reduceBNe, Int.reducePow, Nat.reducePow, Int.reduceMul, Int.reduceNeg, isB_i, isB_b, isB_y, isBv_i, isBv_b, eqCells_t, TT]
  generalize hhp : ([_, _] : List SB) = hp
  have D0 : Dc hp 1 0 o l := by rw [← hhp]; exact ⟨0, [], z, rfl, rfl, rfl, by decide, ho⟩
  clear hhp ho
  have gW := waitV_in base most tr
  refine loop_any cx_ok 400 (fun μ σ => ∃ (j : Nat) (L : List Nat) (H : List SB), μ = 40 - j ∧ j ≤ 40 ∧ Dc H 1 0 o L ∧ (∀ y ∈ L, y < 4294967296) ∧ L.length ≤ 35184372087808 ∧
      σ = ⟨⟨22, 0⟩, [(1, .c (i64 lo)), (2, .c (i64 hi)), (3, .c (i64 base)), (4, .c (i64 most)), (5, .c (i64 tr)), (14, .c (.ptr 1 0)), (15, .c (i64 j))], H⟩) 40
    ⟨⟨22, 0⟩, [(1, .c (i64 lo)), (2, .c (i64 hi)), (3, .c (i64 base)), (4, .c (i64 most)), (5, .c (i64 tr)), (14, .c (.ptr 1 0)), (15, .c (i64 (0 : Nat)))], hp⟩ ⟨0, l, hp, rfl, by omega, D0, hl3, by omega, rfl⟩
    (.inl ⟨rfl, rfl, rfl, rfl, rfl, rfl, rfl, rfl, rfl, trivial⟩) ?_
  rintro μ σ ⟨j, L, H, rfl, hj, D, hL, hn, rfl⟩
  by_cases h40 : j < 40
  · have dj : decide ((j : Int) < 40) = true := by simp only [decide_eq_true_eq]; omega
    have ej : IntKind.i64.wrap ((j : Int) + 1) = ((j + 1 : Nat) : Int) := by rw [w64] <;> omega
    simp (maxSteps := 4000000) only [Try.results4, dj, XX, Nat.reduceBEq, Nat.reduceLT, Nat.reduceAdd, Nat.reduceMul, Nat.reduceSub, Nat.reduceLeDiff, Nat.reduceEqDiff, Int.reduceToNat, Int.reduceLT, Int.reduceLE, Int.reduceAdd, Int.reduceSub, Int.reduceEq, reduceIte, Nat.reduceBNe, Int.reducePow, Nat.reducePow, Int.reduceMul, Int.reduceNeg, isB_i, isB_b, isB_y, isBv_i, isBv_b, eqCells_t, TT]
    refine call_is (left_spec H 1 0 o L D) ?_
    rintro _ _ ⟨rfl, rfl⟩
    simp (maxSteps := 4000000) only [Try.results4, XX, Nat.reduceBEq, Nat.reduceLT, Nat.reduceAdd, Nat.reduceMul, Nat.reduceSub, Nat.reduceLeDiff, Nat.reduceEqDiff, Int.reduceToNat, Int.reduceLT, Int.reduceLE, Int.reduceAdd, Int.reduceSub, Int.reduceEq, reduceIte, Nat.reduceBNe, Int.reducePow, Nat.reducePow, Int.reduceMul, Int.reduceNeg, isB_i, isB_b, isB_y, isBv_i, isBv_b, eqCells_t, TT]
    by_cases hlh : lo < hi
    · refine call_is (span_spec _ 1 0 o L D (headD_lt hL) lo hi hlh) ?_
      rintro _ H2 ⟨rfl, D2, _⟩
      have sV := spanV_in (n := L.headD 0) (lo := lo) (hi := hi) (by omega) (by omega) hlh
      generalize spanV lo hi (L.headD 0) = A at sV ⊢
      have q1 : decide (lo < hi) = true := by simpa using hlh
      have q2 : decide (hi ≤ lo) = false := by simp only [decide_eq_false_iff_not]; omega
      have q3 : decide (A < lo) = false := by simp only [decide_eq_false_iff_not]; omega
      have q4 : decide (hi < A) = false := by simp only [decide_eq_false_iff_not]; omega
      simp (maxSteps := 4000000) only [Try.results4, XX, Nat.reduceBEq, Nat.reduceLT, Nat.reduceAdd, Nat.reduceMul, Nat.reduceSub, Nat.reduceLeDiff, Nat.reduceEqDiff, Int.reduceToNat, Int.reduceLT, Int.reduceLE, Int.reduceAdd, Int.reduceSub, Int.reduceEq, reduceIte, Nat.reduceBNe, Int.reducePow, Nat.reducePow, Int.reduceMul, Int.reduceNeg, isB_i, isB_b, isB_y, isBv_i, isBv_b, eqCells_t, TT]
      refine call_is (port_spec _ 1 0 o _ D2 (headD_lt (tail_lt hL))) ?_
      rintro _ H3 ⟨rfl, D3, _⟩
      have hP : 49152 ≤ 49152 + L.tail.headD 0 % 16384 ∧ 49152 + L.tail.headD 0 % 16384 ≤ 65535 := by omega
      generalize 49152 + L.tail.headD 0 % 16384 = P at hP ⊢
      simp (maxSteps := 4000000) only [Try.results4, XX, Nat.reduceBEq, Nat.reduceLT, Nat.reduceAdd, Nat.reduceMul, Nat.reduceSub, Nat.reduceLeDiff, Nat.reduceEqDiff, Int.reduceToNat, Int.reduceLT, Int.reduceLE, Int.reduceAdd, Int.reduceSub, Int.reduceEq, reduceIte, Nat.reduceBNe, Int.reducePow, Nat.reducePow, Int.reduceMul, Int.reduceNeg, isB_i, isB_b, isB_y, isBv_i, isBv_b, eqCells_t, TT]
      have hDb := doubled_spec base most tr (by omega)
      refine call_is (backoff_spec _ 1 0 o _ D3 (headD_lt (tail_lt (tail_lt hL))) base most tr (by omega)) ?_
      rintro _ H4 ⟨rfl, D4, _⟩
      generalize waitV base most tr = W at gW hDb ⊢
      have hC : W - W / 4 ≤ W - W / 4 + L.tail.tail.headD 0 % (W / 2 + 1) ∧ W - W / 4 + L.tail.tail.headD 0 % (W / 2 + 1) ≤ W + W / 4 + 1 := by
        have := Nat.mod_lt (L.tail.tail.headD 0) (show 0 < W / 2 + 1 by omega)
        omega
      generalize W - W / 4 + L.tail.tail.headD 0 % (W / 2 + 1) = C at hC ⊢
      have nT : L.tail.tail.tail.length = L.length - 3 := by simp only [List.length_tail]; omega
      have eN : (if IntKind.i64.wrap ((L.length : Int) - 3) > 0 then IntKind.i64.wrap ((L.length : Int) - 3) else 0) = (L.tail.tail.tail.length : Int) := by
        have w3 : IntKind.i64.wrap ((L.length : Int) - 3) = (L.length : Int) - 3 := by rw [w64] <;> omega
        rw [w3, nT]
        split <;> omega
      have q5 : decide ((P : Int) < 49152) = false := by simp only [decide_eq_false_iff_not]; omega
      have q6 : decide (65535 < (P : Int)) = false := by simp only [decide_eq_false_iff_not]; omega
      have q7 : decide ((C : Int) < 1) = false := by simp only [decide_eq_false_iff_not]; omega
      have q8 : decide ((L.tail.tail.tail.length : Int) = (L.tail.tail.tail.length : Int)) = true := by simp
      have f4 : IntKind.i64.wrap ((W : Int).tdiv 4) = ((W / 4 : Nat) : Int) := by
        show IntKind.i64.wrap ((W / 4 : Nat) : Int) = _
        rw [w64] <;> omega
      have f5 : IntKind.i64.wrap ((W : Int) - ((W / 4 : Nat) : Int)) = ((W - W / 4 : Nat) : Int) := by rw [w64] <;> omega
      have f6 : IntKind.i64.wrap ((W : Int) + ((W / 4 : Nat) : Int)) = ((W + W / 4 : Nat) : Int) := by rw [w64] <;> omega
      have f7 : IntKind.i64.wrap (((W + W / 4 : Nat) : Int) + 1) = ((W + W / 4 + 1 : Nat) : Int) := by rw [w64] <;> omega
      have f8 : decide ((C : Int) < ((W - W / 4 : Nat) : Int)) = false := by simp only [decide_eq_false_iff_not]; omega
      have f9 : decide (((W + W / 4 + 1 : Nat) : Int) < (C : Int)) = false := by simp only [decide_eq_false_iff_not]; omega
      simp (maxSteps := 4000000) only [Try.results4, q1, q2, q3, q4, q5, q6, q7, eN, XX, Nat.reduceBEq, Nat.reduceLT, Nat.reduceAdd, Nat.reduceMul, Nat.reduceSub, Nat.reduceLeDiff, Nat.reduceEqDiff, Int.reduceToNat, Int.reduceLT, Int.reduceLE, Int.reduceAdd, Int.reduceSub, Int.reduceEq, reduceIte, Nat.reduceBNe, Int.reducePow, Nat.reducePow, Int.reduceMul, Int.reduceNeg, isB_i, isB_b, isB_y, isBv_i, isBv_b, eqCells_t, TT]
      refine call_is (left_spec H4 1 0 o _ D4) ?_
      rintro _ _ ⟨rfl, rfl⟩
      simp (maxSteps := 4000000) only [Try.results4, q1, q2, q3, q4, q8, eN, XX, Nat.reduceBEq, Nat.reduceLT, Nat.reduceAdd, Nat.reduceMul, Nat.reduceSub, Nat.reduceLeDiff, Nat.reduceEqDiff, Int.reduceToNat, Int.reduceLT, Int.reduceLE, Int.reduceAdd, Int.reduceSub, Int.reduceEq, reduceIte, Nat.reduceBNe, Int.reducePow, Nat.reducePow, Int.reduceMul, Int.reduceNeg, isB_i, isB_b, isB_y, isBv_i, isBv_b, eqCells_t, TT]
      refine call_plain hDb rfl ?_
      rintro _ rfl
      simp (maxSteps := 4000000) only [Try.results4, f4, f5, f6, f7, f8, f9, ej, XX, Nat.reduceBEq, Nat.reduceLT, Nat.reduceAdd, Nat.reduceMul, Nat.reduceSub, Nat.reduceLeDiff, Nat.reduceEqDiff, Int.reduceToNat, Int.reduceLT, Int.reduceLE, Int.reduceAdd, Int.reduceSub, Int.reduceEq, reduceIte, Nat.reduceBNe, Int.reducePow, Nat.reducePow, Int.reduceMul, Int.reduceNeg, isB_i, isB_b, isB_y, isBv_i, isBv_b, eqCells_t, TT]
      exact ⟨40 - (j + 1), by omega, _, ⟨j + 1, _, _, rfl, by omega, D4, tail_lt (tail_lt (tail_lt hL)), by omega, rfl⟩, .inl ⟨rfl, rfl, rfl, rfl, rfl, rfl, rfl, rfl, rfl, trivial⟩⟩
    · refine call_is (span0_spec _ 1 lo hi (by omega)) ?_
      rintro _ _ ⟨rfl, t1, rfl⟩
      have D2 := D.app t1
      have q1 : decide (lo < hi) = false := by simpa using hlh
      have q2 : decide (hi ≤ lo) = true := by simp only [decide_eq_true_eq]; omega
      have q3 : decide (lo = lo) = true := by simp
      simp (maxSteps := 4000000) only [Try.results4, XX, Nat.reduceBEq, Nat.reduceLT, Nat.reduceAdd, Nat.reduceMul, Nat.reduceSub, Nat.reduceLeDiff, Nat.reduceEqDiff, Int.reduceToNat, Int.reduceLT, Int.reduceLE, Int.reduceAdd, Int.reduceSub, Int.reduceEq, reduceIte, Nat.reduceBNe, Int.reducePow, Nat.reducePow, Int.reduceMul, Int.reduceNeg, isB_i, isB_b, isB_y, isBv_i, isBv_b, eqCells_t, TT]
      refine call_is (port_spec _ 1 0 o _ D2 (headD_lt hL)) ?_
      rintro _ H3 ⟨rfl, D3, _⟩
      have hP : 49152 ≤ 49152 + L.headD 0 % 16384 ∧ 49152 + L.headD 0 % 16384 ≤ 65535 := by omega
      generalize 49152 + L.headD 0 % 16384 = P at hP ⊢
      simp (maxSteps := 4000000) only [Try.results4, XX, Nat.reduceBEq, Nat.reduceLT, Nat.reduceAdd, Nat.reduceMul, Nat.reduceSub, Nat.reduceLeDiff, Nat.reduceEqDiff, Int.reduceToNat, Int.reduceLT, Int.reduceLE, Int.reduceAdd, Int.reduceSub, Int.reduceEq, reduceIte, Nat.reduceBNe, Int.reducePow, Nat.reducePow, Int.reduceMul, Int.reduceNeg, isB_i, isB_b, isB_y, isBv_i, isBv_b, eqCells_t, TT]
      have hDb := doubled_spec base most tr (by omega)
      refine call_is (backoff_spec _ 1 0 o _ D3 (headD_lt (tail_lt hL)) base most tr (by omega)) ?_
      rintro _ H4 ⟨rfl, D4, _⟩
      generalize waitV base most tr = W at gW hDb ⊢
      have hC : W - W / 4 ≤ W - W / 4 + L.tail.headD 0 % (W / 2 + 1) ∧ W - W / 4 + L.tail.headD 0 % (W / 2 + 1) ≤ W + W / 4 + 1 := by
        have := Nat.mod_lt (L.tail.headD 0) (show 0 < W / 2 + 1 by omega)
        omega
      generalize W - W / 4 + L.tail.headD 0 % (W / 2 + 1) = C at hC ⊢
      have nT : L.tail.tail.length = L.length - 2 := by simp only [List.length_tail]; omega
      have eN : (if IntKind.i64.wrap ((L.length : Int) - 2) > 0 then IntKind.i64.wrap ((L.length : Int) - 2) else 0) = (L.tail.tail.length : Int) := by
        have w3 : IntKind.i64.wrap ((L.length : Int) - 2) = (L.length : Int) - 2 := by rw [w64] <;> omega
        rw [w3, nT]
        split <;> omega
      have q5 : decide ((P : Int) < 49152) = false := by simp only [decide_eq_false_iff_not]; omega
      have q6 : decide (65535 < (P : Int)) = false := by simp only [decide_eq_false_iff_not]; omega
      have q7 : decide ((C : Int) < 1) = false := by simp only [decide_eq_false_iff_not]; omega
      have q8 : decide ((L.tail.tail.length : Int) = (L.tail.tail.length : Int)) = true := by simp
      have f4 : IntKind.i64.wrap ((W : Int).tdiv 4) = ((W / 4 : Nat) : Int) := by
        show IntKind.i64.wrap ((W / 4 : Nat) : Int) = _
        rw [w64] <;> omega
      have f5 : IntKind.i64.wrap ((W : Int) - ((W / 4 : Nat) : Int)) = ((W - W / 4 : Nat) : Int) := by rw [w64] <;> omega
      have f6 : IntKind.i64.wrap ((W : Int) + ((W / 4 : Nat) : Int)) = ((W + W / 4 : Nat) : Int) := by rw [w64] <;> omega
      have f7 : IntKind.i64.wrap (((W + W / 4 : Nat) : Int) + 1) = ((W + W / 4 + 1 : Nat) : Int) := by rw [w64] <;> omega
      have f8 : decide ((C : Int) < ((W - W / 4 : Nat) : Int)) = false := by simp only [decide_eq_false_iff_not]; omega
      have f9 : decide (((W + W / 4 + 1 : Nat) : Int) < (C : Int)) = false := by simp only [decide_eq_false_iff_not]; omega
      simp (maxSteps := 4000000) only [Try.results4, q1, q2, q3, q5, q6, q7, eN, XX, Nat.reduceBEq, Nat.reduceLT, Nat.reduceAdd, Nat.reduceMul, Nat.reduceSub, Nat.reduceLeDiff, Nat.reduceEqDiff, Int.reduceToNat, Int.reduceLT, Int.reduceLE, Int.reduceAdd, Int.reduceSub, Int.reduceEq, reduceIte, Nat.reduceBNe, Int.reducePow, Nat.reducePow, Int.reduceMul, Int.reduceNeg, isB_i, isB_b, isB_y, isBv_i, isBv_b, eqCells_t, TT]
      refine call_is (left_spec H4 1 0 o _ D4) ?_
      rintro _ _ ⟨rfl, rfl⟩
      simp (maxSteps := 4000000) only [Try.results4, q1, q2, q3, q8, eN, XX, Nat.reduceBEq, Nat.reduceLT, Nat.reduceAdd, Nat.reduceMul, Nat.reduceSub, Nat.reduceLeDiff, Nat.reduceEqDiff, Int.reduceToNat, Int.reduceLT, Int.reduceLE, Int.reduceAdd, Int.reduceSub, Int.reduceEq, reduceIte, Nat.reduceBNe, Int.reducePow, Nat.reducePow, Int.reduceMul, Int.reduceNeg, isB_i, isB_b, isB_y, isBv_i, isBv_b, eqCells_t, TT]
      refine call_plain hDb rfl ?_
      rintro _ rfl
      simp (maxSteps := 4000000) only [Try.results4, f4, f5, f6, f7, f8, f9, ej, XX, Nat.reduceBEq, Nat.reduceLT, Nat.reduceAdd, Nat.reduceMul, Nat.reduceSub, Nat.reduceLeDiff, Nat.reduceEqDiff, Int.reduceToNat, Int.reduceLT, Int.reduceLE, Int.reduceAdd, Int.reduceSub, Int.reduceEq, reduceIte, Nat.reduceBNe, Int.reducePow, Nat.reducePow, Int.reduceMul, Int.reduceNeg, isB_i, isB_b, isB_y, isBv_i, isBv_b, eqCells_t, TT]
      exact ⟨40 - (j + 1), by omega, _, ⟨j + 1, _, _, rfl, by omega, D4, tail_lt (tail_lt hL), by omega, rfl⟩, .inl ⟨rfl, rfl, rfl, rfl, rfl, rfl, rfl, rfl, rfl, trivial⟩⟩
  · have dj : decide ((j : Int) < 40) = false := by simp only [decide_eq_false_iff_not]; omega
    simp (maxSteps := 4000000) only [Try.results4, dj, XX, Nat.reduceBEq, Nat.reduceLT, Nat.reduceAdd, Nat.reduceMul, Nat.reduceSub, Nat.reduceLeDiff, Nat.reduceEqDiff, Int.reduceToNat, Int.reduceLT, Int.reduceLE, Int.reduceAdd, Int.reduceSub, Int.reduceEq, reduceIte, Nat.reduceBNe, Int.reducePow, Nat.reducePow, Int.reduceMul, Int.reduceNeg, isB_i, isB_b, isB_y, isBv_i, isBv_b, eqCells_t, TT]

end Go.Proofs.Ytniednekfnfhmaa.Sx
