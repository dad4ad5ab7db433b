/- The symbolic executor, at work: heads with their data, as the document says. No condition. -/
import Derived.Test.YtipbnhgeanlkeaaN9g
namespace Go.Proofs.Ytipbnhgeanlkeaa.Sx
open Go
set_option linter.unusedSimpArgs false
set_option linter.unusedVariables false
set_option maxRecDepth 10000
set_option maxHeartbeats 2000000

theorem fz_any {r : Nat → Nat} {n : Nat} {h : List SB} {i : Nat} {l sp : List UInt8} {o : Bool} (hb : h[i]? = some (wB o (l ++ sp))) (ho : 0 < l.length + sp.length → o = true) : frC true (fun _ => true) r n h (slB i l sp) (roB l sp (l.length + sp.length)) := by
  by_cases h0 : 0 < l.length + sp.length
  · obtain rfl := ho h0
    exact fz_sl hb rfl rfl
  · exact .inr ⟨rfl, .inl ⟨_, _, _, rfl, .inr (.inr ⟨i, 0, rfl, .inl ⟨by omega, by omega⟩⟩)⟩⟩

theorem rencB_spec (h : IP) (x : SC) (hb : badH h) : Spec cx.P 9 [.agg (ipC h), .c x] [] fun t _ => t.plain = true ∧ t = .tup [(false, [noC]), (false, [i64 1])] := by
  obtain ⟨tos, id, ttl, proto, keep, src, dst⟩ := h
  simp only [badH] at hb
  by_cases h0 : tos < 0
  · have d0 : decide (tos < 0) = true := by simpa using h0
    refine spec_of_X cx_ok Try.func9 rfl (by kernel_rfl) (by kernel_rfl) (Nat.le_of_ble_eq_true rfl) 400 10 ?_
    simp (maxSteps := 4000000) only [Try.results9, XX, Nat.reduceBEq, Nat.reduceLT, Nat.reduceAdd, Nat.reduceMul, Nat.reduceSub, Nat.reduceLeDiff, Nat.reduceEqDiff, Int.reduceToNat, Int.reduceLT, Int.reduceLE, Int.reduceAdd, Int.reduceSub, Int.reduceEq, reduceIte, Nat.reduceBNe, Int.reducePow, Nat.reducePow, Int.reduceMul, Int.reduceNeg, isB_i, isB_b, isB_y, isBv_i, isBv_b, eqCells_t, TT]
    simp (maxSteps := 4000000) only [Try.results9, d0, XX, Nat.reduceBEq, Nat.reduceLT, Nat.reduceAdd, Nat.reduceMul, Nat.reduceSub, Nat.reduceLeDiff, Nat.reduceEqDiff, Int.reduceToNat, Int.reduceLT, Int.reduceLE, Int.reduceAdd, Int.reduceSub, Int.reduceEq, reduceIte, Nat.reduceBNe, Int.reducePow, Nat.reducePow, Int.reduceMul, Int.reduceNeg, isB_i, isB_b, isB_y, isBv_i, isBv_b, eqCells_t, TT]
  have d0 : decide (tos < 0) = false := by simpa using h0
  by_cases h1 : 255 < tos
  · have d1 : decide (255 < tos) = true := by simpa using h1
    refine spec_of_X cx_ok Try.func9 rfl (by kernel_rfl) (by kernel_rfl) (Nat.le_of_ble_eq_true rfl) 400 10 ?_
    simp (maxSteps := 4000000) only [Try.results9, XX, Nat.reduceBEq, Nat.reduceLT, Nat.reduceAdd, Nat.reduceMul, Nat.reduceSub, Nat.reduceLeDiff, Nat.reduceEqDiff, Int.reduceToNat, Int.reduceLT, Int.reduceLE, Int.reduceAdd, Int.reduceSub, Int.reduceEq, reduceIte, Nat.reduceBNe, Int.reducePow, Nat.reducePow, Int.reduceMul, Int.reduceNeg, isB_i, isB_b, isB_y, isBv_i, isBv_b, eqCells_t, TT]
    simp (maxSteps := 4000000) only [Try.results9, d0, d1, XX, Nat.reduceBEq, Nat.reduceLT, Nat.reduceAdd, Nat.reduceMul, Nat.reduceSub, Nat.reduceLeDiff, Nat.reduceEqDiff, Int.reduceToNat, Int.reduceLT, Int.reduceLE, Int.reduceAdd, Int.reduceSub, Int.reduceEq, reduceIte, Nat.reduceBNe, Int.reducePow, Nat.reducePow, Int.reduceMul, Int.reduceNeg, isB_i, isB_b, isB_y, isBv_i, isBv_b, eqCells_t, TT]
  have d1 : decide (255 < tos) = false := by simpa using h1
  by_cases h2 : proto < 0
  · have d2 : decide (proto < 0) = true := by simpa using h2
    refine spec_of_X cx_ok Try.func9 rfl (by kernel_rfl) (by kernel_rfl) (Nat.le_of_ble_eq_true rfl) 400 10 ?_
    simp (maxSteps := 4000000) only [Try.results9, XX, Nat.reduceBEq, Nat.reduceLT, Nat.reduceAdd, Nat.reduceMul, Nat.reduceSub, Nat.reduceLeDiff, Nat.reduceEqDiff, Int.reduceToNat, Int.reduceLT, Int.reduceLE, Int.reduceAdd, Int.reduceSub, Int.reduceEq, reduceIte, Nat.reduceBNe, Int.reducePow, Nat.reducePow, Int.reduceMul, Int.reduceNeg, isB_i, isB_b, isB_y, isBv_i, isBv_b, eqCells_t, TT]
    simp (maxSteps := 4000000) only [Try.results9, d0, d1, d2, XX, Nat.reduceBEq, Nat.reduceLT, Nat.reduceAdd, Nat.reduceMul, Nat.reduceSub, Nat.reduceLeDiff, Nat.reduceEqDiff, Int.reduceToNat, Int.reduceLT, Int.reduceLE, Int.reduceAdd, Int.reduceSub, Int.reduceEq, reduceIte, Nat.reduceBNe, Int.reducePow, Nat.reducePow, Int.reduceMul, Int.reduceNeg, isB_i, isB_b, isB_y, isBv_i, isBv_b, eqCells_t, TT]
  have d2 : decide (proto < 0) = false := by simpa using h2
  by_cases h3 : 255 < proto
  · have d3 : decide (255 < proto) = true := by simpa using h3
    refine spec_of_X cx_ok Try.func9 rfl (by kernel_rfl) (by kernel_rfl) (Nat.le_of_ble_eq_true rfl) 400 10 ?_
    simp (maxSteps := 4000000) only [Try.results9, XX, Nat.reduceBEq, Nat.reduceLT, Nat.reduceAdd, Nat.reduceMul, Nat.reduceSub, Nat.reduceLeDiff, Nat.reduceEqDiff, Int.reduceToNat, Int.reduceLT, Int.reduceLE, Int.reduceAdd, Int.reduceSub, Int.reduceEq, reduceIte, Nat.reduceBNe, Int.reducePow, Nat.reducePow, Int.reduceMul, Int.reduceNeg, isB_i, isB_b, isB_y, isBv_i, isBv_b, eqCells_t, TT]
    simp (maxSteps := 4000000) only [Try.results9, d0, d1, d2, d3, XX, Nat.reduceBEq, Nat.reduceLT, Nat.reduceAdd, Nat.reduceMul, Nat.reduceSub, Nat.reduceLeDiff, Nat.reduceEqDiff, Int.reduceToNat, Int.reduceLT, Int.reduceLE, Int.reduceAdd, Int.reduceSub, Int.reduceEq, reduceIte, Nat.reduceBNe, Int.reducePow, Nat.reducePow, Int.reduceMul, Int.reduceNeg, isB_i, isB_b, isB_y, isBv_i, isBv_b, eqCells_t, TT]
  have d3 : decide (255 < proto) = false := by simpa using h3
  by_cases h4 : id < 0
  · have d4 : decide (id < 0) = true := by simpa using h4
    refine spec_of_X cx_ok Try.func9 rfl (by kernel_rfl) (by kernel_rfl) (Nat.le_of_ble_eq_true rfl) 400 10 ?_
    simp (maxSteps := 4000000) only [Try.results9, XX, Nat.reduceBEq, Nat.reduceLT, Nat.reduceAdd, Nat.reduceMul, Nat.reduceSub, Nat.reduceLeDiff, Nat.reduceEqDiff, Int.reduceToNat, Int.reduceLT, Int.reduceLE, Int.reduceAdd, Int.reduceSub, Int.reduceEq, reduceIte, Nat.reduceBNe, Int.reducePow, Nat.reducePow, Int.reduceMul, Int.reduceNeg, isB_i, isB_b, isB_y, isBv_i, isBv_b, eqCells_t, TT]
    simp (maxSteps := 4000000) only [Try.results9, d0, d1, d2, d3, d4, XX, Nat.reduceBEq, Nat.reduceLT, Nat.reduceAdd, Nat.reduceMul, Nat.reduceSub, Nat.reduceLeDiff, Nat.reduceEqDiff, Int.reduceToNat, Int.reduceLT, Int.reduceLE, Int.reduceAdd, Int.reduceSub, Int.reduceEq, reduceIte, Nat.reduceBNe, Int.reducePow, Nat.reducePow, Int.reduceMul, Int.reduceNeg, isB_i, isB_b, isB_y, isBv_i, isBv_b, eqCells_t, TT]
  have d4 : decide (id < 0) = false := by simpa using h4
  by_cases h5 : 65535 < id
  · have d5 : decide (65535 < id) = true := by simpa using h5
    refine spec_of_X cx_ok Try.func9 rfl (by kernel_rfl) (by kernel_rfl) (Nat.le_of_ble_eq_true rfl) 400 10 ?_
    simp (maxSteps := 4000000) only [Try.results9, XX, Nat.reduceBEq, Nat.reduceLT, Nat.reduceAdd, Nat.reduceMul, Nat.reduceSub, Nat.reduceLeDiff, Nat.reduceEqDiff, Int.reduceToNat, Int.reduceLT, Int.reduceLE, Int.reduceAdd, Int.reduceSub, Int.reduceEq, reduceIte, Nat.reduceBNe, Int.reducePow, Nat.reducePow, Int.reduceMul, Int.reduceNeg, isB_i, isB_b, isB_y, isBv_i, isBv_b, eqCells_t, TT]
    simp (maxSteps := 4000000) only [Try.results9, d0, d1, d2, d3, d4, d5, XX, Nat.reduceBEq, Nat.reduceLT, Nat.reduceAdd, Nat.reduceMul, Nat.reduceSub, Nat.reduceLeDiff, Nat.reduceEqDiff, Int.reduceToNat, Int.reduceLT, Int.reduceLE, Int.reduceAdd, Int.reduceSub, Int.reduceEq, reduceIte, Nat.reduceBNe, Int.reducePow, Nat.reducePow, Int.reduceMul, Int.reduceNeg, isB_i, isB_b, isB_y, isBv_i, isBv_b, eqCells_t, TT]
  have d5 : decide (65535 < id) = false := by simpa using h5
  by_cases h6 : ttl < 1
  · have d6 : decide (ttl < 1) = true := by simpa using h6
    refine spec_of_X cx_ok Try.func9 rfl (by kernel_rfl) (by kernel_rfl) (Nat.le_of_ble_eq_true rfl) 400 10 ?_
    simp (maxSteps := 4000000) only [Try.results9, XX, Nat.reduceBEq, Nat.reduceLT, Nat.reduceAdd, Nat.reduceMul, Nat.reduceSub, Nat.reduceLeDiff, Nat.reduceEqDiff, Int.reduceToNat, Int.reduceLT, Int.reduceLE, Int.reduceAdd, Int.reduceSub, Int.reduceEq, reduceIte, Nat.reduceBNe, Int.reducePow, Nat.reducePow, Int.reduceMul, Int.reduceNeg, isB_i, isB_b, isB_y, isBv_i, isBv_b, eqCells_t, TT]
    simp (maxSteps := 4000000) only [Try.results9, d0, d1, d2, d3, d4, d5, d6, XX, Nat.reduceBEq, Nat.reduceLT, Nat.reduceAdd, Nat.reduceMul, Nat.reduceSub, Nat.reduceLeDiff, Nat.reduceEqDiff, Int.reduceToNat, Int.reduceLT, Int.reduceLE, Int.reduceAdd, Int.reduceSub, Int.reduceEq, reduceIte, Nat.reduceBNe, Int.reducePow, Nat.reducePow, Int.reduceMul, Int.reduceNeg, isB_i, isB_b, isB_y, isBv_i, isBv_b, eqCells_t, TT]
  have d6 : decide (ttl < 1) = false := by simpa using h6
  have d7 : decide (255 < ttl) = true := by simp only [decide_eq_true_eq]; omega
  refine spec_of_X cx_ok Try.func9 rfl (by kernel_rfl) (by kernel_rfl) (Nat.le_of_ble_eq_true rfl) 400 10 ?_
  simp (maxSteps := 4000000) only [Try.results9, XX, Nat.reduceBEq, Nat.reduceLT, Nat.reduceAdd, Nat.reduceMul, Nat.reduceSub, Nat.reduceLeDiff, Nat.reduceEqDiff, Int.reduceToNat, Int.reduceLT, Int.reduceLE, Int.reduceAdd, Int.reduceSub, Int.reduceEq, reduceIte, Nat.reduceBNe, Int.reducePow, Nat.reducePow, Int.reduceMul, Int.reduceNeg, isB_i, isB_b, isB_y, isBv_i, isBv_b, eqCells_t, TT]
  simp (maxSteps := 4000000) only [Try.results9, d0, d1, d2, d3, d4, d5, d6, d7, XX, Nat.reduceBEq, Nat.reduceLT, Nat.reduceAdd, Nat.reduceMul, Nat.reduceSub, Nat.reduceLeDiff, Nat.reduceEqDiff, Int.reduceToNat, Int.reduceLT, Int.reduceLE, Int.reduceAdd, Int.reduceSub, Int.reduceEq, reduceIte, Nat.reduceBNe, Int.reducePow, Nat.reducePow, Int.reduceMul, Int.reduceNeg, isB_i, isB_b, isB_y, isBv_i, isBv_b, eqCells_t, TT]

theorem rencLong_spec (h : IP) (l sp : List UInt8) (c : Nat) (hb : ¬ badH h) (hl : 1480 < l.length) (hl2 : l.length ≤ 140737488355328) : Spec cx.P 9 [.agg (ipC h), .c (roB l sp c)] [] fun t _ => t.plain = true ∧ t = .tup [(false, [noC]), (false, [i64 2])] := by
  obtain ⟨t, i, u, p, h1, h2, h3, h4, b1, b2, b3, b4, b5⟩ := good_of hb
  obtain ⟨tos, id, ttl, proto, keep, src, dst⟩ := h
  simp only at h1 h2 h3 h4
  subst h1; subst h2; subst h3; subst h4
  have d0 : decide ((t : Int) < 0) = false := by simp only [decide_eq_false_iff_not]; omega
  have d1 : decide (255 < (t : Int)) = false := by simp only [decide_eq_false_iff_not]; omega
  have d2 : decide ((p : Int) < 0) = false := by simp only [decide_eq_false_iff_not]; omega
  have d3 : decide (255 < (p : Int)) = false := by simp only [decide_eq_false_iff_not]; omega
  have d4 : decide ((i : Int) < 0) = false := by simp only [decide_eq_false_iff_not]; omega
  have d5 : decide (65535 < (i : Int)) = false := by simp only [decide_eq_false_iff_not]; omega
  have d6 : decide ((u : Int) < 1) = false := by simp only [decide_eq_false_iff_not]; omega
  have d7 : decide (255 < (u : Int)) = false := by simp only [decide_eq_false_iff_not]; omega
  have e1 : IntKind.i64.wrap (20 + (l.length : Int)) = ((20 + l.length : Nat) : Int) := by rw [w64] <;> omega
  have d9 : decide (1500 < ((20 + l.length : Nat) : Int)) = true := by simp only [decide_eq_true_eq]; omega
  refine spec_of_X cx_ok Try.func9 rfl (by kernel_rfl) (by kernel_rfl) (Nat.le_of_ble_eq_true rfl) 400 10 ?_
  simp (maxSteps := 4000000) only [Try.results9, XX, Nat.reduceBEq, Nat.reduceLT, Nat.reduceAdd, Nat.reduceMul, Nat.reduceSub, Nat.reduceLeDiff, Nat.reduceEqDiff, Int.reduceToNat, Int.reduceLT, Int.reduceLE, Int.reduceAdd, Int.reduceSub, Int.reduceEq, reduceIte, Nat.reduceBNe, Int.reducePow, Nat.reducePow, Int.reduceMul, Int.reduceNeg, isB_i, isB_b, isB_y, isBv_i, isBv_b, eqCells_t, TT]
  simp (maxSteps := 4000000) only [Try.results9, d0, d1, d2, d3, d4, d5, d6, d7, e1, d9, XX, Nat.reduceBEq, Nat.reduceLT, Nat.reduceAdd, Nat.reduceMul, Nat.reduceSub, Nat.reduceLeDiff, Nat.reduceEqDiff, Int.reduceToNat, Int.reduceLT, Int.reduceLE, Int.reduceAdd, Int.reduceSub, Int.reduceEq, reduceIte, Nat.reduceBNe, Int.reducePow, Nat.reducePow, Int.reduceMul, Int.reduceNeg, isB_i, isB_b, isB_y, isBv_i, isBv_b, eqCells_t, TT]

theorem renc_spec (h : IP) (l sp : List UInt8) (c : Nat) (hb : ¬ badH h) (hsrc : h.src < 4294967296) (hdst : h.dst < 4294967296) (hl : l.length ≤ 1480) : Spec cx.P 9 [.agg (ipC h), .c (roB l sp c)] [] (resB (encL h l) 0) := by
  obtain ⟨t, i, u, p, h1, h2, h3, h4, b1, b2, b3, b4, b5⟩ := good_of hb
  obtain ⟨tos, id, ttl, proto, keep, src, dst⟩ := h
  simp only at h1 h2 h3 h4
  subst h1; subst h2; subst h3; subst h4
  have d0 : decide ((t : Int) < 0) = false := by simp only [decide_eq_false_iff_not]; omega
  have d1 : decide (255 < (t : Int)) = false := by simp only [decide_eq_false_iff_not]; omega
  have d2 : decide ((p : Int) < 0) = false := by simp only [decide_eq_false_iff_not]; omega
  have d3 : decide (255 < (p : Int)) = false := by simp only [decide_eq_false_iff_not]; omega
  have d4 : decide ((i : Int) < 0) = false := by simp only [decide_eq_false_iff_not]; omega
  have d5 : decide (65535 < (i : Int)) = false := by simp only [decide_eq_false_iff_not]; omega
  have d6 : decide ((u : Int) < 1) = false := by simp only [decide_eq_false_iff_not]; omega
  have d7 : decide (255 < (u : Int)) = false := by simp only [decide_eq_false_iff_not]; omega
  have e1 : IntKind.i64.wrap (20 + (l.length : Int)) = ((20 + l.length : Nat) : Int) := by rw [w64] <;> omega
  have d9 : decide (1500 < ((20 + l.length : Nat) : Int)) = false := by simp only [decide_eq_false_iff_not]; omega
  simp only at hsrc hdst
  refine resB_of ?_
  have p0 := headR_spec t i u p keep src dst (20 + l.length) 0 b1 b2 (by omega) b5 hsrc hdst (by omega) (by decide)
  have px : ∀ x, x ≤ 65535 → Spec cx.P 17 [.agg (ipC ⟨t, i, u, p, keep, src, dst⟩), .c (i64 (20 + l.length : Nat)), .c (i64 (x : Nat))] [] (resS (headL ⟨t, i, u, p, keep, src, dst⟩ (20 + l.length) x)) := fun x hx => headR_spec t i u p keep src dst (20 + l.length) x b1 b2 (by omega) b5 hsrc hdst (by omega) (by omega)
  unfold encL
  have l0 := headL_len ⟨t, i, u, p, keep, src, dst⟩ (20 + l.length) 0
  have lx := fun x => headL_len ⟨t, i, u, p, keep, src, dst⟩ (20 + l.length) x
  generalize headL ⟨t, i, u, p, keep, src, dst⟩ (20 + l.length) = HD at *
  have t9 : (bsR (l ++ sp)).take l.length = bsR l := by rw [rs_take, List.take_left' rfl]
  refine spec_of_X cx_ok Try.func9 rfl (by kernel_rfl) (by kernel_rfl) (Nat.le_of_ble_eq_true rfl) 400 10 ?_
  simp (maxSteps := 4000000) only [Try.results9, XX, Nat.reduceBEq, Nat.reduceLT, Nat.reduceAdd, Nat.reduceMul, Nat.reduceSub, Nat.reduceLeDiff, Nat.reduceEqDiff, Int.reduceToNat, Int.reduceLT, Int.reduceLE, Int.reduceAdd, Int.reduceSub, Int.reduceEq, reduceIte, Nat.reduceBNe, Int.reducePow, Nat.reducePow, Int.reduceMul, Int.reduceNeg, isB_i, isB_b, isB_y, isBv_i, isBv_b, eqCells_t, TT]
  simp (maxSteps := 4000000) only [Try.results9, d0, d1, d2, d3, d4, d5, d6, d7, e1, d9, XX, Nat.reduceBEq, Nat.reduceLT, Nat.reduceAdd, Nat.reduceMul, Nat.reduceSub, Nat.reduceLeDiff, Nat.reduceEqDiff, Int.reduceToNat, Int.reduceLT, Int.reduceLE, Int.reduceAdd, Int.reduceSub, Int.reduceEq, reduceIte, Nat.reduceBNe, Int.reducePow, Nat.reducePow, Int.reduceMul, Int.reduceNeg, isB_i, isB_b, isB_y, isBv_i, isBv_b, eqCells_t, TT]
  refine call_fz [.agg (ipC ⟨t, i, u, p, keep, src, dst⟩), .c (i64 (20 + l.length : Nat)), .c (i64 0)] p0 (fun t h' h => resS_noRo h) ⟨.inl ⟨rfl, rfl⟩, .inl ⟨rfl, rfl⟩, .inl ⟨rfl, rfl⟩, trivial⟩ ?_
  rintro _ _ ⟨z1, o1, rfl, rfl, ho1⟩
  simp (maxSteps := 4000000) only [Try.results9, ids_bsC, ren_bsC, noRo_bsC, plain_bsC, lt_bsC, ids_byte, ren_byte, noRo_byte, plain_byte, lt_byte, XX, Nat.reduceBEq, Nat.reduceLT, Nat.reduceAdd, Nat.reduceMul, Nat.reduceSub, Nat.reduceLeDiff, Nat.reduceEqDiff, Int.reduceToNat, Int.reduceLT, Int.reduceLE, Int.reduceAdd, Int.reduceSub, Int.reduceEq, reduceIte, Nat.reduceBNe, Int.reducePow, Nat.reducePow, Int.reduceMul, Int.reduceNeg, isB_i, isB_b, isB_y, isBv_i, isBv_b, eqCells_t, TT]
  refine call_pureF [.c (roB (HD 0) z1 ((HD 0).length + z1.length))] (rsumOf_spec _ _ _ (by omega)) ⟨fz_c (fz_any (i := 1) rfl ho1), trivial⟩ ?_
  rintro _ rfl
  have hx := isum_le (HD 0)
  generalize isum (HD 0) = x at hx ⊢
  have ex : IntKind.i64.wrap (x : Int) = (x : Int) := by rw [w64] <;> omega
  simp (maxSteps := 4000000) only [Try.results9, ex, XX, Nat.reduceBEq, Nat.reduceLT, Nat.reduceAdd, Nat.reduceMul, Nat.reduceSub, Nat.reduceLeDiff, Nat.reduceEqDiff, Int.reduceToNat, Int.reduceLT, Int.reduceLE, Int.reduceAdd, Int.reduceSub, Int.reduceEq, reduceIte, Nat.reduceBNe, Int.reducePow, Nat.reducePow, Int.reduceMul, Int.reduceNeg, isB_i, isB_b, isB_y, isBv_i, isBv_b, eqCells_t, TT]
  refine call_fz [.agg (ipC ⟨t, i, u, p, keep, src, dst⟩), .c (i64 (20 + l.length : Nat)), .c (i64 (x : Nat))] (px x hx) (fun t h' h => resS_noRo h) ⟨.inl ⟨rfl, rfl⟩, .inl ⟨rfl, rfl⟩, .inl ⟨rfl, rfl⟩, trivial⟩ ?_
  rintro _ _ ⟨z2, o2, rfl, rfl, ho2⟩
  obtain rfl := ho2 (by rw [lx]; omega)
  simp (maxSteps := 4000000) only [Try.results9, ids_bsC, ren_bsC, noRo_bsC, plain_bsC, lt_bsC, ids_byte, ren_byte, noRo_byte, plain_byte, lt_byte, t9, bsR_toSC, bsC_len, XX, Nat.reduceBEq, Nat.reduceLT, Nat.reduceAdd, Nat.reduceMul, Nat.reduceSub, Nat.reduceLeDiff, Nat.reduceEqDiff, Int.reduceToNat, Int.reduceLT, Int.reduceLE, Int.reduceAdd, Int.reduceSub, Int.reduceEq, reduceIte, Nat.reduceBNe, Int.reducePow, Nat.reducePow, Int.reduceMul, Int.reduceNeg, isB_i, isB_b, isB_y, isBv_i, isBv_b, eqCells_t, TT]
  refine ⟨⟨⟨by rw [lx]; omega, by unfold maxLen; rw [lx]; omega, by simp, fun h => by simp; omega⟩, by simp⟩, ?_⟩
  simp only [List.append_assoc, rep_flat]
  refine xapp_more0 (H := [⟨true, 27, ipC ⟨t, i, u, p, keep, src, dst⟩⟩, wB o1 (HD 0 ++ z1), wB true (HD x ++ z2)]) (w := 2) (o := true) (l := HD x) (sp := z2) (news := l) ⟨rfl, fun _ => rfl⟩ rfl rfl rfl ?_ ?_ fun H w z B g1 g2 g3 => ?_
  · rfl
  · rw [lx]; omega
  simp (maxSteps := 4000000) only [Try.results9, XX, Nat.reduceBEq, Nat.reduceLT, Nat.reduceAdd, Nat.reduceMul, Nat.reduceSub, Nat.reduceLeDiff, Nat.reduceEqDiff, Int.reduceToNat, Int.reduceLT, Int.reduceLE, Int.reduceAdd, Int.reduceSub, Int.reduceEq, reduceIte, Nat.reduceBNe, Int.reducePow, Nat.reducePow, Int.reduceMul, Int.reduceNeg, isB_i, isB_b, isB_y, isBv_i, isBv_b, eqCells_t, TT]
  exact ⟨w, z, true, rfl, B⟩

theorem rencA_spec (h : IP) (l sp : List UInt8) (c : Nat) (hsrc : h.src < 4294967296) (hdst : h.dst < 4294967296) (hl2 : l.length ≤ 140737488355328) : Spec cx.P 9 [.agg (ipC h), .c (roB l sp c)] [] (resB (encR h l) (encE h l)) := by
  unfold encR
  by_cases hb : badH h
  · have e : encE h l = 1 := if_pos hb
    rw [e]
    exact resB_nil (rencB_spec h _ hb)
  · by_cases hl : 1480 < l.length
    · have e : encE h l = 2 := by unfold encE; rw [if_neg hb, if_pos hl]
      rw [e]
      exact resB_nil (rencLong_spec h l sp c hb hl hl2)
    · have e : encE h l = 0 := by unfold encE; rw [if_neg hb, if_neg hl]
      rw [e, if_pos rfl]
      exact renc_spec h l sp c hb hsrc hdst (by omega)

end Go.Proofs.Ytipbnhgeanlkeaa.Sx
