/- The symbolic executor, at work: there and back. No condition. -/
import Derived.Test.YtgadpbfmnhkjfaaP3f
namespace Go.Proofs.Ytgadpbfmnhkjfaa.Sx
open Go
set_option linter.unusedSimpArgs false
set_option linter.unusedVariables false
set_option maxRecDepth 10000
set_option maxHeartbeats 2000000

theorem raw_form {l : List UInt8} (h : 14 ≤ l.length) : ∃ d s k1 k0 t, l = rawL d s k1 k0 t := by
  match l, h with
  | a :: b :: c :: d :: e :: f :: a' :: b' :: c' :: d' :: e' :: f' :: k1 :: k0 :: t, _ => exact ⟨⟨a, b, c, d, e, f⟩, ⟨a', b', c', d', e', f'⟩, k1, k0, t, rfl⟩

theorem conv_undef {T : TypeId → Option TI} {flat : TypeId → Bool} {h : List SB} {s d : TypeId} {x : Operand} : opR T flat h (.convert s d x) [.c (.v undef)] = .bad := rfl

theorem binS_ib {d : TD} {sz : Nat} {fl : Bool} {op : BinOp} {k : IntKind} {a : Int} {b : Bool} : binS d sz fl op (.c (.v (.int k a))) (.c (.v (.bool b))) = .bad := by cases fl <;> rfl
theorem binS_bi {d : TD} {sz : Nat} {fl : Bool} {op : BinOp} {k : IntKind} {a : Int} {b : Bool} : binS d sz fl op (.c (.v (.bool b))) (.c (.v (.int k a))) = .bad := by cases fl <;> rfl

theorem raw_cells (l : List UInt8) : (∃ x y : UInt8, (List.drop 12 (bsR l)).getD 0 (.v undef) = .v (.int .u8 x.toNat) ∧ (List.drop 13 (bsR l)).getD 0 (.v undef) = .v (.int .u8 y.toNat)) ∨
    (∃ x : UInt8, (List.drop 12 (bsR l)).getD 0 (.v undef) = .v (.int .u8 x.toNat) ∧ (List.drop 13 (bsR l)).getD 0 (.v undef) = .v undef) ∨
    ((List.drop 12 (bsR l)).getD 0 (.v undef) = .v undef ∧ (List.drop 13 (bsR l)).getD 0 (.v undef) = .v undef) := by
  by_cases h : 14 ≤ l.length
  · obtain ⟨R1, h1⟩ := drop2 (l := l) (sp := []) (k := 12) (by omega)
    obtain ⟨R2, h2⟩ := drop2 (l := l ++ [0]) (sp := []) (k := 13) (by simp; omega)
    rw [List.append_nil] at h1
    have h3 : List.drop 13 (bsR l) = List.drop 1 (List.drop 12 (bsR l)) := by rw [List.drop_drop]
    exact .inl ⟨_, _, by rw [h1]; rfl, by rw [h3, h1]; rfl⟩
  · have e13 : List.drop 13 (bsR l) = [] := List.drop_of_length_le (by simp; omega)
    by_cases h' : l.length = 13
    · match l, h' with
      | [a, b, c, d, e, f, g, h, i, j, k, m, n], _ => exact .inr (.inl ⟨n, rfl, rfl⟩)
    · have e12 : List.drop 12 (bsR l) = [] := List.drop_of_length_le (by simp; omega)
      exact .inr (.inr ⟨by rw [e12]; rfl, by rw [e13]; rfl⟩)

theorem frameBack_walk : ∀ css, RTyL (RTy T reachBytes DEPTH) [27, 25] css → Spec Try.prog 7 (svs T [27, 25] css) [] fun r _ => r = .c (.v (.bool true)) := by
  intro css h
  obtain ⟨x1, xs1, rfl, h1, g1⟩ := RTyL_cons h
  obtain ⟨x2, xs2, rfl, h2, g2⟩ := RTyL_cons g1
  obtain rfl := RTyL_nil g2
  obtain ⟨d, s, k, l, sp, c, e1, hk1, hk2, hl1, hl2, hl3, hl4⟩ := RTy_frame h1
  obtain ⟨w, wp, wc, rfl, hw1, hw2, hw3, hw4⟩ := RTy_bytes h2
  have e2 : svOf T 25 [.sl (bsR (w ++ wp)) w.length wc] = .c (roB w wp wc) := rfl
  simp only [svs, e1, e2]
  clear h1 h2 g1 g2 h e1 e2
  unfold reachBytes at hl4 hw4
  refine spec_of_X cx_ok Try.func7 rfl (by kernel_rfl) (by kernel_rfl) (Nat.le_of_ble_eq_true rfl) 400 15 ?_
  simp (maxSteps := 4000000) only [Try.results7, XX, Nat.reduceBEq, Nat.reduceLT, Nat.reduceAdd, Nat.reduceMul, Nat.reduceSub, Nat.reduceLeDiff, Nat.reduceEqDiff, Int.reduceToNat, Int.reduceLT, Int.reduceLE, Int.reduceAdd, Int.reduceSub, Int.reduceEq, reduceIte, Nat.reduceBNe, Int.reducePow, Nat.reducePow, Int.reduceMul, Int.reduceNeg, TT]
  refine call_plain (awake_spec) rfl ?_
  rintro _ rfl
  simp (maxSteps := 4000000) only [Try.results7, XX, Nat.reduceBEq, Nat.reduceLT, Nat.reduceAdd, Nat.reduceMul, Nat.reduceSub, Nat.reduceLeDiff, Nat.reduceEqDiff, Int.reduceToNat, Int.reduceLT, Int.reduceLE, Int.reduceAdd, Int.reduceSub, Int.reduceEq, reduceIte, Nat.reduceBNe, Int.reducePow, Nat.reducePow, Int.reduceMul, Int.reduceNeg, TT]
  by_cases hk : k < 1536 ∨ 65535 < k
  · refine call_pureF [.agg (fraC d s k (roB l sp c))] (fsealK_spec d s k _ hk) ⟨.inl ⟨rfl, rfl⟩, trivial⟩ ?_
    rintro _ rfl
    have hb : (decide ((l.length : Int) ≤ 1500) && decide (1536 ≤ k) && decide (k ≤ 65535)) = false := by
      simp only [Bool.and_eq_false_iff, decide_eq_false_iff_not]; omega
    simp (maxSteps := 4000000) only [Try.results7, XX, Nat.reduceBEq, Nat.reduceLT, Nat.reduceAdd, Nat.reduceMul, Nat.reduceSub, Nat.reduceLeDiff, Nat.reduceEqDiff, Int.reduceToNat, Int.reduceLT, Int.reduceLE, Int.reduceAdd, Int.reduceSub, Int.reduceEq, reduceIte, Nat.reduceBNe, Int.reducePow, Nat.reducePow, Int.reduceMul, Int.reduceNeg, TT]
    rw [hb]
    simp (maxSteps := 4000000) only [Try.results7, XX, Nat.reduceBEq, Nat.reduceLT, Nat.reduceAdd, Nat.reduceMul, Nat.reduceSub, Nat.reduceLeDiff, Nat.reduceEqDiff, Int.reduceToNat, Int.reduceLT, Int.reduceLE, Int.reduceAdd, Int.reduceSub, Int.reduceEq, reduceIte, Nat.reduceBNe, Int.reducePow, Nat.reducePow, Int.reduceMul, Int.reduceNeg, TT]
    by_cases hs : w.length < 60
    · have q1 : decide ((w.length : Int) < 60) = true := by simp only [decide_eq_true_eq]; omega
      refine call_pureF [.c (roB w wp wc)] (fopenS_spec w wp wc hs) ⟨.inl ⟨rfl, rfl⟩, trivial⟩ ?_
      rintro _ rfl
      simp (maxSteps := 4000000) only [Try.results7, XX, Nat.reduceBEq, Nat.reduceLT, Nat.reduceAdd, Nat.reduceMul, Nat.reduceSub, Nat.reduceLeDiff, Nat.reduceEqDiff, Int.reduceToNat, Int.reduceLT, Int.reduceLE, Int.reduceAdd, Int.reduceSub, Int.reduceEq, reduceIte, Nat.reduceBNe, Int.reducePow, Nat.reducePow, Int.reduceMul, Int.reduceNeg, TT]
      rcases raw_cells (w ++ wp) with ⟨x, y, c12, c13⟩ | ⟨x, c12, c13⟩ | ⟨c12, c13⟩
      · refine draw_of cx_ok (by kernel_rfl) 400 [] [(0, true), (1, true), (2, true), (3, true), (4, true), (5, true), (6, true), (7, true), (8, true), (9, true), (10, true), (11, true), (12, true), (13, true), (14, true), (15, true), (16, true), (17, true), (18, true), (19, true), (20, true), (21, true)] (by kernel_rfl) rfl ?_
        simp (maxSteps := 4000000) only [Try.results7, q1, c12, c13, XX, Nat.reduceBEq, Nat.reduceLT, Nat.reduceAdd, Nat.reduceMul, Nat.reduceSub, Nat.reduceLeDiff, Nat.reduceEqDiff, Int.reduceToNat, Int.reduceLT, Int.reduceLE, Int.reduceAdd, Int.reduceSub, Int.reduceEq, reduceIte, Nat.reduceBNe, Int.reducePow, Nat.reducePow, Int.reduceMul, Int.reduceNeg, TT]
      · refine draw_of cx_ok (by kernel_rfl) 400 [] [(0, true), (1, true), (2, true), (3, true), (4, true), (5, true), (6, true), (7, true), (8, true), (9, true), (10, true), (11, true), (12, true), (13, true), (14, true), (15, true), (16, true), (17, true), (18, true), (19, true), (20, true), (21, true)] (by kernel_rfl) rfl ?_
        simp (maxSteps := 4000000) only [Try.results7, q1, c12, c13, conv_undef, binS_ib, binS_bi, XX, Nat.reduceBEq, Nat.reduceLT, Nat.reduceAdd, Nat.reduceMul, Nat.reduceSub, Nat.reduceLeDiff, Nat.reduceEqDiff, Int.reduceToNat, Int.reduceLT, Int.reduceLE, Int.reduceAdd, Int.reduceSub, Int.reduceEq, reduceIte, Nat.reduceBNe, Int.reducePow, Nat.reducePow, Int.reduceMul, Int.reduceNeg, TT]
      · refine draw_of cx_ok (by kernel_rfl) 400 [] [(0, true), (1, true), (2, true), (3, true), (4, true), (5, true), (6, true), (7, true), (8, true), (9, true), (10, true), (11, true), (12, true), (13, true), (14, true), (15, true), (16, true), (17, true), (18, true), (19, true), (20, true), (21, true)] (by kernel_rfl) rfl ?_
        simp (maxSteps := 4000000) only [Try.results7, q1, c12, c13, conv_undef, binS_ib, binS_bi, XX, Nat.reduceBEq, Nat.reduceLT, Nat.reduceAdd, Nat.reduceMul, Nat.reduceSub, Nat.reduceLeDiff, Nat.reduceEqDiff, Int.reduceToNat, Int.reduceLT, Int.reduceLE, Int.reduceAdd, Int.reduceSub, Int.reduceEq, reduceIte, Nat.reduceBNe, Int.reducePow, Nat.reducePow, Int.reduceMul, Int.reduceNeg, TT]
    by_cases hs2 : 1514 < w.length
    · have q1 : decide ((w.length : Int) < 60) = false := by simp only [decide_eq_false_iff_not]; omega
      have q2 : decide (1514 < (w.length : Int)) = true := by simp only [decide_eq_true_eq]; omega
      refine call_pureF [.c (roB w wp wc)] (fopenL_spec w wp wc hs2) ⟨.inl ⟨rfl, rfl⟩, trivial⟩ ?_
      rintro _ rfl
      simp (maxSteps := 4000000) only [Try.results7, XX, Nat.reduceBEq, Nat.reduceLT, Nat.reduceAdd, Nat.reduceMul, Nat.reduceSub, Nat.reduceLeDiff, Nat.reduceEqDiff, Int.reduceToNat, Int.reduceLT, Int.reduceLE, Int.reduceAdd, Int.reduceSub, Int.reduceEq, reduceIte, Nat.reduceBNe, Int.reducePow, Nat.reducePow, Int.reduceMul, Int.reduceNeg, TT]
      rcases raw_cells (w ++ wp) with ⟨x, y, c12, c13⟩ | ⟨x, c12, c13⟩ | ⟨c12, c13⟩
      · refine draw_of cx_ok (by kernel_rfl) 400 [] [(0, true), (1, true), (2, true), (3, true), (4, true), (5, true), (6, true), (7, true), (8, true), (9, true), (10, true), (11, true), (12, true), (13, true), (14, true), (15, true), (16, true), (17, true), (18, true), (19, true), (20, true), (21, true)] (by kernel_rfl) rfl ?_
        simp (maxSteps := 4000000) only [Try.results7, q1, q2, c12, c13, XX, Nat.reduceBEq, Nat.reduceLT, Nat.reduceAdd, Nat.reduceMul, Nat.reduceSub, Nat.reduceLeDiff, Nat.reduceEqDiff, Int.reduceToNat, Int.reduceLT, Int.reduceLE, Int.reduceAdd, Int.reduceSub, Int.reduceEq, reduceIte, Nat.reduceBNe, Int.reducePow, Nat.reducePow, Int.reduceMul, Int.reduceNeg, TT]
      · refine draw_of cx_ok (by kernel_rfl) 400 [] [(0, true), (1, true), (2, true), (3, true), (4, true), (5, true), (6, true), (7, true), (8, true), (9, true), (10, true), (11, true), (12, true), (13, true), (14, true), (15, true), (16, true), (17, true), (18, true), (19, true), (20, true), (21, true)] (by kernel_rfl) rfl ?_
        simp (maxSteps := 4000000) only [Try.results7, q1, q2, c12, c13, conv_undef, binS_ib, binS_bi, XX, Nat.reduceBEq, Nat.reduceLT, Nat.reduceAdd, Nat.reduceMul, Nat.reduceSub, Nat.reduceLeDiff, Nat.reduceEqDiff, Int.reduceToNat, Int.reduceLT, Int.reduceLE, Int.reduceAdd, Int.reduceSub, Int.reduceEq, reduceIte, Nat.reduceBNe, Int.reducePow, Nat.reducePow, Int.reduceMul, Int.reduceNeg, TT]
      · refine draw_of cx_ok (by kernel_rfl) 400 [] [(0, true), (1, true), (2, true), (3, true), (4, true), (5, true), (6, true), (7, true), (8, true), (9, true), (10, true), (11, true), (12, true), (13, true), (14, true), (15, true), (16, true), (17, true), (18, true), (19, true), (20, true), (21, true)] (by kernel_rfl) rfl ?_
        simp (maxSteps := 4000000) only [Try.results7, q1, q2, c12, c13, conv_undef, binS_ib, binS_bi, XX, Nat.reduceBEq, Nat.reduceLT, Nat.reduceAdd, Nat.reduceMul, Nat.reduceSub, Nat.reduceLeDiff, Nat.reduceEqDiff, Int.reduceToNat, Int.reduceLT, Int.reduceLE, Int.reduceAdd, Int.reduceSub, Int.reduceEq, reduceIte, Nat.reduceBNe, Int.reducePow, Nat.reducePow, Int.reduceMul, Int.reduceNeg, TT]
    obtain ⟨d', s', k1, k0, t, hw⟩ := raw_form (l := w) (by omega)
    have hwl : w.length = 14 + t.length := by rw [hw]; simp; omega
    by_cases hk3 : k1.toNat * 256 + k0.toNat < 1536
    · have q1 : decide ((w.length : Int) < 60) = false := by simp only [decide_eq_false_iff_not]; omega
      have q2 : decide (1514 < (w.length : Int)) = false := by simp only [decide_eq_false_iff_not]; omega
      refine call_pureF [.c (roB w wp wc)] (fopenK_spec d' s' k1 k0 t wp w hw wc (by omega) (by omega) (by omega) hk3) ⟨.inl ⟨rfl, rfl⟩, trivial⟩ ?_
      rintro _ rfl
      simp (maxSteps := 4000000) only [Try.results7, XX, Nat.reduceBEq, Nat.reduceLT, Nat.reduceAdd, Nat.reduceMul, Nat.reduceSub, Nat.reduceLeDiff, Nat.reduceEqDiff, Int.reduceToNat, Int.reduceLT, Int.reduceLE, Int.reduceAdd, Int.reduceSub, Int.reduceEq, reduceIte, Nat.reduceBNe, Int.reducePow, Nat.reducePow, Int.reduceMul, Int.reduceNeg, TT]
      obtain ⟨R12, e12⟩ : ∃ R, List.drop 12 (bsR (w ++ wp)) = .v (.int .u8 k1.toNat) :: R := by subst hw; exact ⟨_, rfl⟩
      obtain ⟨R13, e13⟩ : ∃ R, List.drop 13 (bsR (w ++ wp)) = .v (.int .u8 k0.toNat) :: R := by subst hw; exact ⟨_, rfl⟩
      have := k1.toNat_lt
      have := k0.toNat_lt
      have q3 : decide (IntKind.i64.wrap (IntKind.i64.wrap (IntKind.i64.wrap (k1.toNat : Int) * 256) + IntKind.i64.wrap (k0.toNat : Int)) < 1536) = true := by
        rw [w64 (x := (k1.toNat : Int)) (by omega) (by omega), w64 (x := (k0.toNat : Int)) (by omega) (by omega), w64 (x := (k1.toNat : Int) * 256) (by omega) (by omega), w64 (by omega) (by omega)]
        simp only [decide_eq_true_eq]; omega
      refine draw_of cx_ok (by kernel_rfl) 400 [] [(0, true), (1, true), (2, true), (3, true), (4, true), (5, true), (6, true), (7, true), (8, true), (9, true), (10, true), (11, true), (12, true), (13, true), (14, true), (15, true), (16, true), (17, true), (18, true), (19, true), (20, true), (21, true)] (by kernel_rfl) rfl ?_
      simp (maxSteps := 4000000) only [Try.results7, q1, q2, q3, e12, e13, XX, Nat.reduceBEq, Nat.reduceLT, Nat.reduceAdd, Nat.reduceMul, Nat.reduceSub, Nat.reduceLeDiff, Nat.reduceEqDiff, Int.reduceToNat, Int.reduceLT, Int.reduceLE, Int.reduceAdd, Int.reduceSub, Int.reduceEq, reduceIte, Nat.reduceBNe, Int.reducePow, Nat.reducePow, Int.reduceMul, Int.reduceNeg, TT]
      omega
    · refine call_fz [.c (roB w wp wc)] (fopen_spec d' s' k1 k0 t wp w hw wc (by omega) (by omega) (by omega) (by omega)) (fun t h' h => open_noRo h) ⟨.inl ⟨rfl, rfl⟩, trivial⟩ ?_
      rintro _ _ ⟨r, rfl, rfl⟩
      simp (maxSteps := 4000000) only [Try.results7, ids_bsC, ren_bsC, noRo_bsC, plain_bsC, lt_bsC, ids_byte, ren_byte, noRo_byte, plain_byte, lt_byte, XX, Nat.reduceBEq, Nat.reduceLT, Nat.reduceAdd, Nat.reduceMul, Nat.reduceSub, Nat.reduceLeDiff, Nat.reduceEqDiff, Int.reduceToNat, Int.reduceLT, Int.reduceLE, Int.reduceAdd, Int.reduceSub, Int.reduceEq, reduceIte, Nat.reduceBNe, Int.reducePow, Nat.reducePow, Int.reduceMul, Int.reduceNeg, TT]
      have := k1.toNat_lt
      have := k0.toNat_lt
      have hse : sealL d' s' (k1.toNat * 256 + k0.toNat) t = w := by
        have b1 : UInt8.ofNat ((k1.toNat * 256 + k0.toNat) / 256) = k1 := by
          rw [show (k1.toNat * 256 + k0.toNat) / 256 = k1.toNat by omega]; simp
        have b0 : UInt8.ofNat (k1.toNat * 256 + k0.toNat) = k0 := by
          rw [← UInt8.toNat_inj]; simp
        rw [hw]
        simp only [sealL, be2, b1, b0, show 46 - t.length = 0 by omega, List.replicate_zero, List.append_nil]
        rfl
      refine call_fz [.agg (fraC d' s' (k1.toNat * 256 + k0.toNat : Nat) (roB t (List.replicate r 0) (t.length + r)))] (fseal_spec d' s' (k1.toNat * 256 + k0.toNat) t (List.replicate r 0) (t.length + r) (by omega) (by omega) (by omega)) (fun t h' h => seal_noRo h) ?_ ?_
      · exact ⟨fra_fz (fz_sl rfl rfl rfl), trivial⟩
      rintro _ _ ⟨rfl, rfl⟩
      rw [hse]
      have tw : (bsC w).take w.length = bsC w := List.take_of_length_le (by simp)
      have tr : ((bsR (w ++ wp)).take w.length).map RC.toSC = bsC w := by rw [rs_take, List.take_left' rfl, bsR_toSC]
      simp (maxSteps := 4000000) only [Try.results7, ids_bsC, ren_bsC, noRo_bsC, plain_bsC, lt_bsC, ids_byte, ren_byte, noRo_byte, plain_byte, lt_byte, tw, tr, strOf_bsC, str_eq, XX, Nat.reduceBEq, Nat.reduceLT, Nat.reduceAdd, Nat.reduceMul, Nat.reduceSub, Nat.reduceLeDiff, Nat.reduceEqDiff, Int.reduceToNat, Int.reduceLT, Int.reduceLE, Int.reduceAdd, Int.reduceSub, Int.reduceEq, reduceIte, Nat.reduceBNe, Int.reducePow, Nat.reducePow, Int.reduceMul, Int.reduceNeg, TT]
      exact ⟨⟨by simp, isByte_bsC w⟩, by simp, isByte_bsC w⟩
  have hk : 1536 ≤ k ∧ k ≤ 65535 := by omega
  by_cases hll : 1500 < l.length
  · refine call_pureF [.agg (fraC d s k (roB l sp c))] (fsealL_spec d s k l sp c hk.1 hk.2 hll) ⟨.inl ⟨rfl, rfl⟩, trivial⟩ ?_
    rintro _ rfl
    have hb : (decide ((l.length : Int) ≤ 1500) && decide (1536 ≤ k) && decide (k ≤ 65535)) = false := by
      simp only [Bool.and_eq_false_iff, decide_eq_false_iff_not]; omega
    simp (maxSteps := 4000000) only [Try.results7, XX, Nat.reduceBEq, Nat.reduceLT, Nat.reduceAdd, Nat.reduceMul, Nat.reduceSub, Nat.reduceLeDiff, Nat.reduceEqDiff, Int.reduceToNat, Int.reduceLT, Int.reduceLE, Int.reduceAdd, Int.reduceSub, Int.reduceEq, reduceIte, Nat.reduceBNe, Int.reducePow, Nat.reducePow, Int.reduceMul, Int.reduceNeg, TT]
    rw [hb]
    simp (maxSteps := 4000000) only [Try.results7, XX, Nat.reduceBEq, Nat.reduceLT, Nat.reduceAdd, Nat.reduceMul, Nat.reduceSub, Nat.reduceLeDiff, Nat.reduceEqDiff, Int.reduceToNat, Int.reduceLT, Int.reduceLE, Int.reduceAdd, Int.reduceSub, Int.reduceEq, reduceIte, Nat.reduceBNe, Int.reducePow, Nat.reducePow, Int.reduceMul, Int.reduceNeg, TT]
    by_cases hs : w.length < 60
    · have q1 : decide ((w.length : Int) < 60) = true := by simp only [decide_eq_true_eq]; omega
      refine call_pureF [.c (roB w wp wc)] (fopenS_spec w wp wc hs) ⟨.inl ⟨rfl, rfl⟩, trivial⟩ ?_
      rintro _ rfl
      simp (maxSteps := 4000000) only [Try.results7, XX, Nat.reduceBEq, Nat.reduceLT, Nat.reduceAdd, Nat.reduceMul, Nat.reduceSub, Nat.reduceLeDiff, Nat.reduceEqDiff, Int.reduceToNat, Int.reduceLT, Int.reduceLE, Int.reduceAdd, Int.reduceSub, Int.reduceEq, reduceIte, Nat.reduceBNe, Int.reducePow, Nat.reducePow, Int.reduceMul, Int.reduceNeg, TT]
      rcases raw_cells (w ++ wp) with ⟨x, y, c12, c13⟩ | ⟨x, c12, c13⟩ | ⟨c12, c13⟩
      · refine draw_of cx_ok (by kernel_rfl) 400 [] [(0, true), (1, true), (2, true), (3, true), (4, true), (5, true), (6, true), (7, true), (8, true), (9, true), (10, true), (11, true), (12, true), (13, true), (14, true), (15, true), (16, true), (17, true), (18, true), (19, true), (20, true), (21, true)] (by kernel_rfl) rfl ?_
        simp (maxSteps := 4000000) only [Try.results7, q1, c12, c13, XX, Nat.reduceBEq, Nat.reduceLT, Nat.reduceAdd, Nat.reduceMul, Nat.reduceSub, Nat.reduceLeDiff, Nat.reduceEqDiff, Int.reduceToNat, Int.reduceLT, Int.reduceLE, Int.reduceAdd, Int.reduceSub, Int.reduceEq, reduceIte, Nat.reduceBNe, Int.reducePow, Nat.reducePow, Int.reduceMul, Int.reduceNeg, TT]
      · refine draw_of cx_ok (by kernel_rfl) 400 [] [(0, true), (1, true), (2, true), (3, true), (4, true), (5, true), (6, true), (7, true), (8, true), (9, true), (10, true), (11, true), (12, true), (13, true), (14, true), (15, true), (16, true), (17, true), (18, true), (19, true), (20, true), (21, true)] (by kernel_rfl) rfl ?_
        simp (maxSteps := 4000000) only [Try.results7, q1, c12, c13, conv_undef, binS_ib, binS_bi, XX, Nat.reduceBEq, Nat.reduceLT, Nat.reduceAdd, Nat.reduceMul, Nat.reduceSub, Nat.reduceLeDiff, Nat.reduceEqDiff, Int.reduceToNat, Int.reduceLT, Int.reduceLE, Int.reduceAdd, Int.reduceSub, Int.reduceEq, reduceIte, Nat.reduceBNe, Int.reducePow, Nat.reducePow, Int.reduceMul, Int.reduceNeg, TT]
      · refine draw_of cx_ok (by kernel_rfl) 400 [] [(0, true), (1, true), (2, true), (3, true), (4, true), (5, true), (6, true), (7, true), (8, true), (9, true), (10, true), (11, true), (12, true), (13, true), (14, true), (15, true), (16, true), (17, true), (18, true), (19, true), (20, true), (21, true)] (by kernel_rfl) rfl ?_
        simp (maxSteps := 4000000) only [Try.results7, q1, c12, c13, conv_undef, binS_ib, binS_bi, XX, Nat.reduceBEq, Nat.reduceLT, Nat.reduceAdd, Nat.reduceMul, Nat.reduceSub, Nat.reduceLeDiff, Nat.reduceEqDiff, Int.reduceToNat, Int.reduceLT, Int.reduceLE, Int.reduceAdd, Int.reduceSub, Int.reduceEq, reduceIte, Nat.reduceBNe, Int.reducePow, Nat.reducePow, Int.reduceMul, Int.reduceNeg, TT]
    by_cases hs2 : 1514 < w.length
    · have q1 : decide ((w.length : Int) < 60) = false := by simp only [decide_eq_false_iff_not]; omega
      have q2 : decide (1514 < (w.length : Int)) = true := by simp only [decide_eq_true_eq]; omega
      refine call_pureF [.c (roB w wp wc)] (fopenL_spec w wp wc hs2) ⟨.inl ⟨rfl, rfl⟩, trivial⟩ ?_
      rintro _ rfl
      simp (maxSteps := 4000000) only [Try.results7, XX, Nat.reduceBEq, Nat.reduceLT, Nat.reduceAdd, Nat.reduceMul, Nat.reduceSub, Nat.reduceLeDiff, Nat.reduceEqDiff, Int.reduceToNat, Int.reduceLT, Int.reduceLE, Int.reduceAdd, Int.reduceSub, Int.reduceEq, reduceIte, Nat.reduceBNe, Int.reducePow, Nat.reducePow, Int.reduceMul, Int.reduceNeg, TT]
      rcases raw_cells (w ++ wp) with ⟨x, y, c12, c13⟩ | ⟨x, c12, c13⟩ | ⟨c12, c13⟩
      · refine draw_of cx_ok (by kernel_rfl) 400 [] [(0, true), (1, true), (2, true), (3, true), (4, true), (5, true), (6, true), (7, true), (8, true), (9, true), (10, true), (11, true), (12, true), (13, true), (14, true), (15, true), (16, true), (17, true), (18, true), (19, true), (20, true), (21, true)] (by kernel_rfl) rfl ?_
        simp (maxSteps := 4000000) only [Try.results7, q1, q2, c12, c13, XX, Nat.reduceBEq, Nat.reduceLT, Nat.reduceAdd, Nat.reduceMul, Nat.reduceSub, Nat.reduceLeDiff, Nat.reduceEqDiff, Int.reduceToNat, Int.reduceLT, Int.reduceLE, Int.reduceAdd, Int.reduceSub, Int.reduceEq, reduceIte, Nat.reduceBNe, Int.reducePow, Nat.reducePow, Int.reduceMul, Int.reduceNeg, TT]
      · refine draw_of cx_ok (by kernel_rfl) 400 [] [(0, true), (1, true), (2, true), (3, true), (4, true), (5, true), (6, true), (7, true), (8, true), (9, true), (10, true), (11, true), (12, true), (13, true), (14, true), (15, true), (16, true), (17, true), (18, true), (19, true), (20, true), (21, true)] (by kernel_rfl) rfl ?_
        simp (maxSteps := 4000000) only [Try.results7, q1, q2, c12, c13, conv_undef, binS_ib, binS_bi, XX, Nat.reduceBEq, Nat.reduceLT, Nat.reduceAdd, Nat.reduceMul, Nat.reduceSub, Nat.reduceLeDiff, Nat.reduceEqDiff, Int.reduceToNat, Int.reduceLT, Int.reduceLE, Int.reduceAdd, Int.reduceSub, Int.reduceEq, reduceIte, Nat.reduceBNe, Int.reducePow, Nat.reducePow, Int.reduceMul, Int.reduceNeg, TT]
      · refine draw_of cx_ok (by kernel_rfl) 400 [] [(0, true), (1, true), (2, true), (3, true), (4, true), (5, true), (6, true), (7, true), (8, true), (9, true), (10, true), (11, true), (12, true), (13, true), (14, true), (15, true), (16, true), (17, true), (18, true), (19, true), (20, true), (21, true)] (by kernel_rfl) rfl ?_
        simp (maxSteps := 4000000) only [Try.results7, q1, q2, c12, c13, conv_undef, binS_ib, binS_bi, XX, Nat.reduceBEq, Nat.reduceLT, Nat.reduceAdd, Nat.reduceMul, Nat.reduceSub, Nat.reduceLeDiff, Nat.reduceEqDiff, Int.reduceToNat, Int.reduceLT, Int.reduceLE, Int.reduceAdd, Int.reduceSub, Int.reduceEq, reduceIte, Nat.reduceBNe, Int.reducePow, Nat.reducePow, Int.reduceMul, Int.reduceNeg, TT]
    obtain ⟨d', s', k1, k0, t, hw⟩ := raw_form (l := w) (by omega)
    have hwl : w.length = 14 + t.length := by rw [hw]; simp; omega
    by_cases hk3 : k1.toNat * 256 + k0.toNat < 1536
    · have q1 : decide ((w.length : Int) < 60) = false := by simp only [decide_eq_false_iff_not]; omega
      have q2 : decide (1514 < (w.length : Int)) = false := by simp only [decide_eq_false_iff_not]; omega
      refine call_pureF [.c (roB w wp wc)] (fopenK_spec d' s' k1 k0 t wp w hw wc (by omega) (by omega) (by omega) hk3) ⟨.inl ⟨rfl, rfl⟩, trivial⟩ ?_
      rintro _ rfl
      simp (maxSteps := 4000000) only [Try.results7, XX, Nat.reduceBEq, Nat.reduceLT, Nat.reduceAdd, Nat.reduceMul, Nat.reduceSub, Nat.reduceLeDiff, Nat.reduceEqDiff, Int.reduceToNat, Int.reduceLT, Int.reduceLE, Int.reduceAdd, Int.reduceSub, Int.reduceEq, reduceIte, Nat.reduceBNe, Int.reducePow, Nat.reducePow, Int.reduceMul, Int.reduceNeg, TT]
      obtain ⟨R12, e12⟩ : ∃ R, List.drop 12 (bsR (w ++ wp)) = .v (.int .u8 k1.toNat) :: R := by subst hw; exact ⟨_, rfl⟩
      obtain ⟨R13, e13⟩ : ∃ R, List.drop 13 (bsR (w ++ wp)) = .v (.int .u8 k0.toNat) :: R := by subst hw; exact ⟨_, rfl⟩
      have := k1.toNat_lt
      have := k0.toNat_lt
      have q3 : decide (IntKind.i64.wrap (IntKind.i64.wrap (IntKind.i64.wrap (k1.toNat : Int) * 256) + IntKind.i64.wrap (k0.toNat : Int)) < 1536) = true := by
        rw [w64 (x := (k1.toNat : Int)) (by omega) (by omega), w64 (x := (k0.toNat : Int)) (by omega) (by omega), w64 (x := (k1.toNat : Int) * 256) (by omega) (by omega), w64 (by omega) (by omega)]
        simp only [decide_eq_true_eq]; omega
      refine draw_of cx_ok (by kernel_rfl) 400 [] [(0, true), (1, true), (2, true), (3, true), (4, true), (5, true), (6, true), (7, true), (8, true), (9, true), (10, true), (11, true), (12, true), (13, true), (14, true), (15, true), (16, true), (17, true), (18, true), (19, true), (20, true), (21, true)] (by kernel_rfl) rfl ?_
      simp (maxSteps := 4000000) only [Try.results7, q1, q2, q3, e12, e13, XX, Nat.reduceBEq, Nat.reduceLT, Nat.reduceAdd, Nat.reduceMul, Nat.reduceSub, Nat.reduceLeDiff, Nat.reduceEqDiff, Int.reduceToNat, Int.reduceLT, Int.reduceLE, Int.reduceAdd, Int.reduceSub, Int.reduceEq, reduceIte, Nat.reduceBNe, Int.reducePow, Nat.reducePow, Int.reduceMul, Int.reduceNeg, TT]
      omega
    · refine call_fz [.c (roB w wp wc)] (fopen_spec d' s' k1 k0 t wp w hw wc (by omega) (by omega) (by omega) (by omega)) (fun t h' h => open_noRo h) ⟨.inl ⟨rfl, rfl⟩, trivial⟩ ?_
      rintro _ _ ⟨r, rfl, rfl⟩
      simp (maxSteps := 4000000) only [Try.results7, ids_bsC, ren_bsC, noRo_bsC, plain_bsC, lt_bsC, ids_byte, ren_byte, noRo_byte, plain_byte, lt_byte, XX, Nat.reduceBEq, Nat.reduceLT, Nat.reduceAdd, Nat.reduceMul, Nat.reduceSub, Nat.reduceLeDiff, Nat.reduceEqDiff, Int.reduceToNat, Int.reduceLT, Int.reduceLE, Int.reduceAdd, Int.reduceSub, Int.reduceEq, reduceIte, Nat.reduceBNe, Int.reducePow, Nat.reducePow, Int.reduceMul, Int.reduceNeg, TT]
      have := k1.toNat_lt
      have := k0.toNat_lt
      have hse : sealL d' s' (k1.toNat * 256 + k0.toNat) t = w := by
        have b1 : UInt8.ofNat ((k1.toNat * 256 + k0.toNat) / 256) = k1 := by
          rw [show (k1.toNat * 256 + k0.toNat) / 256 = k1.toNat by omega]; simp
        have b0 : UInt8.ofNat (k1.toNat * 256 + k0.toNat) = k0 := by
          rw [← UInt8.toNat_inj]; simp
        rw [hw]
        simp only [sealL, be2, b1, b0, show 46 - t.length = 0 by omega, List.replicate_zero, List.append_nil]
        rfl
      refine call_fz [.agg (fraC d' s' (k1.toNat * 256 + k0.toNat : Nat) (roB t (List.replicate r 0) (t.length + r)))] (fseal_spec d' s' (k1.toNat * 256 + k0.toNat) t (List.replicate r 0) (t.length + r) (by omega) (by omega) (by omega)) (fun t h' h => seal_noRo h) ?_ ?_
      · exact ⟨fra_fz (fz_sl rfl rfl rfl), trivial⟩
      rintro _ _ ⟨rfl, rfl⟩
      rw [hse]
      have tw : (bsC w).take w.length = bsC w := List.take_of_length_le (by simp)
      have tr : ((bsR (w ++ wp)).take w.length).map RC.toSC = bsC w := by rw [rs_take, List.take_left' rfl, bsR_toSC]
      simp (maxSteps := 4000000) only [Try.results7, ids_bsC, ren_bsC, noRo_bsC, plain_bsC, lt_bsC, ids_byte, ren_byte, noRo_byte, plain_byte, lt_byte, tw, tr, strOf_bsC, str_eq, XX, Nat.reduceBEq, Nat.reduceLT, Nat.reduceAdd, Nat.reduceMul, Nat.reduceSub, Nat.reduceLeDiff, Nat.reduceEqDiff, Int.reduceToNat, Int.reduceLT, Int.reduceLE, Int.reduceAdd, Int.reduceSub, Int.reduceEq, reduceIte, Nat.reduceBNe, Int.reducePow, Nat.reducePow, Int.reduceMul, Int.reduceNeg, TT]
      exact ⟨⟨by simp, isByte_bsC w⟩, by simp, isByte_bsC w⟩
  obtain ⟨k, rfl⟩ : ∃ n : Nat, k = n := ⟨k.toNat, by omega⟩
  refine call_fz [.agg (fraC d s k (roB l sp c))] (fseal_spec d s k l sp c (by omega) (by omega) (by omega)) (fun t h' h => seal_noRo h) ⟨.inl ⟨rfl, rfl⟩, trivial⟩ ?_
  rintro _ _ ⟨rfl, rfl⟩
  have ql : (sealL d s k l).length = 14 + (l ++ List.replicate (46 - l.length) 0).length := by simp; omega
  have hsr : sealL d s k l = rawL d s (UInt8.ofNat (k / 256)) (UInt8.ofNat k) (l ++ List.replicate (46 - l.length) 0) := rfl
  generalize hL : sealL d s k l = L at *
  generalize ht : l ++ List.replicate (46 - l.length) 0 = t at *
  have htl : t.length = l.length + (46 - l.length) := by rw [← ht]; simp
  simp (maxSteps := 4000000) only [Try.results7, ids_bsC, ren_bsC, noRo_bsC, plain_bsC, lt_bsC, ids_byte, ren_byte, noRo_byte, plain_byte, lt_byte, XX, Nat.reduceBEq, Nat.reduceLT, Nat.reduceAdd, Nat.reduceMul, Nat.reduceSub, Nat.reduceLeDiff, Nat.reduceEqDiff, Int.reduceToNat, Int.reduceLT, Int.reduceLE, Int.reduceAdd, Int.reduceSub, Int.reduceEq, reduceIte, Nat.reduceBNe, Int.reducePow, Nat.reducePow, Int.reduceMul, Int.reduceNeg, TT]
  refine call_fz [.c (roB L [] L.length)] (fopen_spec d s (UInt8.ofNat (k / 256)) (UInt8.ofNat k) t [] L hsr L.length (by omega) (by omega) (by omega) (by simp; omega)) (fun t h' h => open_noRo h) ?_ ?_
  · exact ⟨fz_c (fz_sl rfl rfl (by simp)), trivial⟩
  rintro _ _ ⟨r, rfl, rfl⟩
  have hkk : (UInt8.ofNat (k / 256)).toNat * 256 + (UInt8.ofNat k).toNat = k := by simp; omega
  rw [hkk]
  simp (maxSteps := 4000000) only [Try.results7, ids_bsC, ren_bsC, noRo_bsC, plain_bsC, lt_bsC, ids_byte, ren_byte, noRo_byte, plain_byte, lt_byte, XX, Nat.reduceBEq, Nat.reduceLT, Nat.reduceAdd, Nat.reduceMul, Nat.reduceSub, Nat.reduceLeDiff, Nat.reduceEqDiff, Int.reduceToNat, Int.reduceLT, Int.reduceLE, Int.reduceAdd, Int.reduceSub, Int.reduceEq, reduceIte, Nat.reduceBNe, Int.reducePow, Nat.reducePow, Int.reduceMul, Int.reduceNeg, TT]
  have p1 : (if 60 > IntKind.i64.wrap (14 + (l.length : Int)) then 60 else IntKind.i64.wrap (14 + (l.length : Int))) = (L.length : Int) := by
    rw [w64 (by omega) (by omega)]
    split <;> omega
  have p1' : (if IntKind.i64.wrap (14 + (l.length : Int)) > 60 then IntKind.i64.wrap (14 + (l.length : Int)) else 60) = (L.length : Int) := by
    rw [w64 (by omega) (by omega)]
    split <;> omega
  have p2 : IntKind.i64.wrap ((L.length : Int) - 14) = (t.length : Int) := by rw [w64] <;> omega
  have p3 : (bsC (t ++ List.replicate r 0)).take l.length = bsC l := by rw [bs_take, ← ht, List.append_assoc, List.take_left' rfl]
  have p4 : ((bsR (l ++ sp)).take l.length).map RC.toSC = bsC l := by rw [rs_take, List.take_left' rfl, bsR_toSC]
  refine draw_of cx_ok (by kernel_rfl) 400 [0, 1, 2, 3] [(0, true), (1, true), (2, true), (3, true), (4, true), (5, true), (6, true), (7, true), (8, true), (9, true), (10, true), (11, true), (12, true), (13, true), (14, true), (15, true), (16, true), (17, true), (18, true), (19, true), (20, true), (21, true), (22, true), (23, true), (24, true), (25, true), (26, true), (27, true), (28, true), (29, true), (30, true), (31, true), (32, true), (33, true), (34, true), (35, true), (36, true), (37, true), (38, true), (39, true), (40, true), (41, true), (42, true), (43, true), (44, true), (45, true), (46, true), (47, true), (48, true), (49, true), (50, true), (51, true), (52, true), (53, true), (54, true)] (by kernel_rfl) rfl ?_
  simp (maxSteps := 4000000) only [Try.results7, eqM, p1, p1', p2, p3, p4, strOf_bsC, str_eq, XX, Nat.reduceBEq, Nat.reduceLT, Nat.reduceAdd, Nat.reduceMul, Nat.reduceSub, Nat.reduceLeDiff, Nat.reduceEqDiff, Int.reduceToNat, Int.reduceLT, Int.reduceLE, Int.reduceAdd, Int.reduceSub, Int.reduceEq, reduceIte, Nat.reduceBNe, Int.reducePow, Nat.reducePow, Int.reduceMul, Int.reduceNeg, TT]
  refine ⟨by omega, ⟨by simp; omega, isByte_bsC l⟩, ⟨by simp, isByte_bsC l⟩, ?_⟩
  refine loop_of cx_ok 400 (fun μ σ => ∃ i, μ = t.length - i ∧ l.length ≤ i ∧ i ≤ t.length ∧
      σ = ⟨⟨15, 0⟩, [(0, .agg (fraC d s (k : Nat) (roB l sp c))), (1, .c (roB w wp wc)), (2, .c (.ptr 0 0)), (4, .c (bC false)), (5, .c (bC true)), (6, .c (.sl 1 0 L.length L.length)), (7, .c (i64 0)), (8, .c (.ptr 3 0)), (9, .c (i64 0)), (10, .c (i64 (i : Nat)))],
        [⟨true, 27, fraC d s (k : Nat) (roB l sp c)⟩, wB true L, wB true (t ++ List.replicate r 0), ⟨true, 27, fraC d s (k : Nat) (.sl 2 0 t.length (t.length + r))⟩]⟩) (t.length - l.length)
    ⟨⟨15, 0⟩, [(0, .agg (fraC d s (k : Nat) (roB l sp c))), (1, .c (roB w wp wc)), (2, .c (.ptr 0 0)), (4, .c (bC false)), (5, .c (bC true)), (6, .c (.sl 1 0 L.length L.length)), (7, .c (i64 0)), (8, .c (.ptr 3 0)), (9, .c (i64 0)), (10, .c (i64 (l.length : Nat)))],
        [⟨true, 27, fraC d s (k : Nat) (roB l sp c)⟩, wB true L, wB true (t ++ List.replicate r 0), ⟨true, 27, fraC d s (k : Nat) (.sl 2 0 t.length (t.length + r))⟩]⟩ ⟨l.length, rfl, Nat.le_refl _, by omega, rfl⟩ [some 0, some 1, some 2, some 3]
    ⟨rfl, rfl, by simp only [XX, Nat.reduceBEq, Nat.reduceLT, Nat.reduceAdd, Nat.reduceMul, Nat.reduceSub, Nat.reduceLeDiff, Nat.reduceEqDiff, Int.reduceToNat, Int.reduceLT, Int.reduceLE, Int.reduceAdd, Int.reduceSub, Int.reduceEq, reduceIte, Nat.reduceBNe, Int.reducePow, Nat.reducePow, Int.reduceMul, Int.reduceNeg, TT, ids_bsC, ren_bsC, noRo_bsC, plain_bsC, lt_bsC, ids_byte, ren_byte, noRo_byte, plain_byte, lt_byte], by simp only [XX, Nat.reduceBEq, Nat.reduceLT, Nat.reduceAdd, Nat.reduceMul, Nat.reduceSub, Nat.reduceLeDiff, Nat.reduceEqDiff, Int.reduceToNat, Int.reduceLT, Int.reduceLE, Int.reduceAdd, Int.reduceSub, Int.reduceEq, reduceIte, Nat.reduceBNe, Int.reducePow, Nat.reducePow, Int.reduceMul, Int.reduceNeg, TT, ids_bsC, ren_bsC, noRo_bsC, plain_bsC, lt_bsC, ids_byte, ren_byte, noRo_byte, plain_byte, lt_byte]⟩ ?_
  rintro μ σ ⟨i, rfl, hi1, hi2, rfl⟩
  simp (maxSteps := 4000000) only [Try.results7, XX, Nat.reduceBEq, Nat.reduceLT, Nat.reduceAdd, Nat.reduceMul, Nat.reduceSub, Nat.reduceLeDiff, Nat.reduceEqDiff, Int.reduceToNat, Int.reduceLT, Int.reduceLE, Int.reduceAdd, Int.reduceSub, Int.reduceEq, reduceIte, Nat.reduceBNe, Int.reducePow, Nat.reducePow, Int.reduceMul, Int.reduceNeg, TT]
  by_cases hlt : i < t.length
  · have hd : decide ((i : Int) < (t.length : Int)) = true := by simp only [decide_eq_true_eq]; omega
    have hg : (bsC (t ++ List.replicate r 0)).getD i .any = SC.v (.int .u8 0) := by
      have e : (t ++ List.replicate r (0 : UInt8))[i]? = some 0 := by
        rw [List.getElem?_append_left hlt, ← ht, List.getElem?_append_right (by omega), List.getElem?_replicate, if_pos (by omega)]
      rw [List.getD_eq_getElem?_getD, List.getElem?_map, e]; rfl
    have hw1 : IntKind.i64.wrap ((i : Int) + 1) = ((i + 1 : Nat) : Int) := by rw [w64] <;> omega
    simp (maxSteps := 4000000) only [Try.results7, hd, hg, hw1, XX, Nat.reduceBEq, Nat.reduceLT, Nat.reduceAdd, Nat.reduceMul, Nat.reduceSub, Nat.reduceLeDiff, Nat.reduceEqDiff, Int.reduceToNat, Int.reduceLT, Int.reduceLE, Int.reduceAdd, Int.reduceSub, Int.reduceEq, reduceIte, Nat.reduceBNe, Int.reducePow, Nat.reducePow, Int.reduceMul, Int.reduceNeg, TT]
    exact ⟨by omega, by simp; omega, t.length - (i + 1), by omega, _, ⟨i + 1, rfl, by omega, by omega, rfl⟩, [some 0, some 1, some 2, some 3], ⟨rfl, rfl, by simp only [XX, Nat.reduceBEq, Nat.reduceLT, Nat.reduceAdd, Nat.reduceMul, Nat.reduceSub, Nat.reduceLeDiff, Nat.reduceEqDiff, Int.reduceToNat, Int.reduceLT, Int.reduceLE, Int.reduceAdd, Int.reduceSub, Int.reduceEq, reduceIte, Nat.reduceBNe, Int.reducePow, Nat.reducePow, Int.reduceMul, Int.reduceNeg, TT, ids_bsC, ren_bsC, noRo_bsC, plain_bsC, lt_bsC, ids_byte, ren_byte, noRo_byte, plain_byte, lt_byte], by simp only [XX, Nat.reduceBEq, Nat.reduceLT, Nat.reduceAdd, Nat.reduceMul, Nat.reduceSub, Nat.reduceLeDiff, Nat.reduceEqDiff, Int.reduceToNat, Int.reduceLT, Int.reduceLE, Int.reduceAdd, Int.reduceSub, Int.reduceEq, reduceIte, Nat.reduceBNe, Int.reducePow, Nat.reducePow, Int.reduceMul, Int.reduceNeg, TT, ids_bsC, ren_bsC, noRo_bsC, plain_bsC, lt_bsC, ids_byte, ren_byte, noRo_byte, plain_byte, lt_byte]⟩⟩
  have hd : decide ((i : Int) < (t.length : Int)) = false := by simp only [decide_eq_false_iff_not]; omega
  simp (maxSteps := 4000000) only [Try.results7, hd, XX, Nat.reduceBEq, Nat.reduceLT, Nat.reduceAdd, Nat.reduceMul, Nat.reduceSub, Nat.reduceLeDiff, Nat.reduceEqDiff, Int.reduceToNat, Int.reduceLT, Int.reduceLE, Int.reduceAdd, Int.reduceSub, Int.reduceEq, reduceIte, Nat.reduceBNe, Int.reducePow, Nat.reducePow, Int.reduceMul, Int.reduceNeg, TT]
  clear hd hi1 hi2 p1 p1' p2 p3 p4 htl ql hsr ht hL hkk
  by_cases hs : w.length < 60
  · have q1 : decide ((w.length : Int) < 60) = true := by simp only [decide_eq_true_eq]; omega
    refine call_pureF [.c (roB w wp wc)] (fopenS_spec w wp wc hs) ⟨.inl ⟨rfl, rfl⟩, trivial⟩ ?_
    rintro _ rfl
    simp (maxSteps := 4000000) only [Try.results7, XX, Nat.reduceBEq, Nat.reduceLT, Nat.reduceAdd, Nat.reduceMul, Nat.reduceSub, Nat.reduceLeDiff, Nat.reduceEqDiff, Int.reduceToNat, Int.reduceLT, Int.reduceLE, Int.reduceAdd, Int.reduceSub, Int.reduceEq, reduceIte, Nat.reduceBNe, Int.reducePow, Nat.reducePow, Int.reduceMul, Int.reduceNeg, TT]
    rcases raw_cells (w ++ wp) with ⟨x, y, c12, c13⟩ | ⟨x, c12, c13⟩ | ⟨c12, c13⟩
    · refine draw_of cx_ok (by kernel_rfl) 400 [] [(0, true), (1, true), (2, true), (3, true), (4, true), (5, true), (6, true), (7, true), (8, true), (9, true), (10, true), (11, true), (12, true), (13, true), (14, true), (15, true), (16, true), (17, true), (18, true), (19, true), (20, true), (21, true)] (by kernel_rfl) rfl ?_
      simp (maxSteps := 4000000) only [Try.results7, q1, c12, c13, XX, Nat.reduceBEq, Nat.reduceLT, Nat.reduceAdd, Nat.reduceMul, Nat.reduceSub, Nat.reduceLeDiff, Nat.reduceEqDiff, Int.reduceToNat, Int.reduceLT, Int.reduceLE, Int.reduceAdd, Int.reduceSub, Int.reduceEq, reduceIte, Nat.reduceBNe, Int.reducePow, Nat.reducePow, Int.reduceMul, Int.reduceNeg, TT]
    · refine draw_of cx_ok (by kernel_rfl) 400 [] [(0, true), (1, true), (2, true), (3, true), (4, true), (5, true), (6, true), (7, true), (8, true), (9, true), (10, true), (11, true), (12, true), (13, true), (14, true), (15, true), (16, true), (17, true), (18, true), (19, true), (20, true), (21, true)] (by kernel_rfl) rfl ?_
      simp (maxSteps := 4000000) only [Try.results7, q1, c12, c13, conv_undef, binS_ib, binS_bi, XX, Nat.reduceBEq, Nat.reduceLT, Nat.reduceAdd, Nat.reduceMul, Nat.reduceSub, Nat.reduceLeDiff, Nat.reduceEqDiff, Int.reduceToNat, Int.reduceLT, Int.reduceLE, Int.reduceAdd, Int.reduceSub, Int.reduceEq, reduceIte, Nat.reduceBNe, Int.reducePow, Nat.reducePow, Int.reduceMul, Int.reduceNeg, TT]
    · refine draw_of cx_ok (by kernel_rfl) 400 [] [(0, true), (1, true), (2, true), (3, true), (4, true), (5, true), (6, true), (7, true), (8, true), (9, true), (10, true), (11, true), (12, true), (13, true), (14, true), (15, true), (16, true), (17, true), (18, true), (19, true), (20, true), (21, true)] (by kernel_rfl) rfl ?_
      simp (maxSteps := 4000000) only [Try.results7, q1, c12, c13, conv_undef, binS_ib, binS_bi, XX, Nat.reduceBEq, Nat.reduceLT, Nat.reduceAdd, Nat.reduceMul, Nat.reduceSub, Nat.reduceLeDiff, Nat.reduceEqDiff, Int.reduceToNat, Int.reduceLT, Int.reduceLE, Int.reduceAdd, Int.reduceSub, Int.reduceEq, reduceIte, Nat.reduceBNe, Int.reducePow, Nat.reducePow, Int.reduceMul, Int.reduceNeg, TT]
  by_cases hs2 : 1514 < w.length
  · have q1 : decide ((w.length : Int) < 60) = false := by simp only [decide_eq_false_iff_not]; omega
    have q2 : decide (1514 < (w.length : Int)) = true := by simp only [decide_eq_true_eq]; omega
    refine call_pureF [.c (roB w wp wc)] (fopenL_spec w wp wc hs2) ⟨.inl ⟨rfl, rfl⟩, trivial⟩ ?_
    rintro _ rfl
    simp (maxSteps := 4000000) only [Try.results7, XX, Nat.reduceBEq, Nat.reduceLT, Nat.reduceAdd, Nat.reduceMul, Nat.reduceSub, Nat.reduceLeDiff, Nat.reduceEqDiff, Int.reduceToNat, Int.reduceLT, Int.reduceLE, Int.reduceAdd, Int.reduceSub, Int.reduceEq, reduceIte, Nat.reduceBNe, Int.reducePow, Nat.reducePow, Int.reduceMul, Int.reduceNeg, TT]
    rcases raw_cells (w ++ wp) with ⟨x, y, c12, c13⟩ | ⟨x, c12, c13⟩ | ⟨c12, c13⟩
    · refine draw_of cx_ok (by kernel_rfl) 400 [] [(0, true), (1, true), (2, true), (3, true), (4, true), (5, true), (6, true), (7, true), (8, true), (9, true), (10, true), (11, true), (12, true), (13, true), (14, true), (15, true), (16, true), (17, true), (18, true), (19, true), (20, true), (21, true)] (by kernel_rfl) rfl ?_
      simp (maxSteps := 4000000) only [Try.results7, q1, q2, c12, c13, XX, Nat.reduceBEq, Nat.reduceLT, Nat.reduceAdd, Nat.reduceMul, Nat.reduceSub, Nat.reduceLeDiff, Nat.reduceEqDiff, Int.reduceToNat, Int.reduceLT, Int.reduceLE, Int.reduceAdd, Int.reduceSub, Int.reduceEq, reduceIte, Nat.reduceBNe, Int.reducePow, Nat.reducePow, Int.reduceMul, Int.reduceNeg, TT]
    · refine draw_of cx_ok (by kernel_rfl) 400 [] [(0, true), (1, true), (2, true), (3, true), (4, true), (5, true), (6, true), (7, true), (8, true), (9, true), (10, true), (11, true), (12, true), (13, true), (14, true), (15, true), (16, true), (17, true), (18, true), (19, true), (20, true), (21, true)] (by kernel_rfl) rfl ?_
      simp (maxSteps := 4000000) only [Try.results7, q1, q2, c12, c13, conv_undef, binS_ib, binS_bi, XX, Nat.reduceBEq, Nat.reduceLT, Nat.reduceAdd, Nat.reduceMul, Nat.reduceSub, Nat.reduceLeDiff, Nat.reduceEqDiff, Int.reduceToNat, Int.reduceLT, Int.reduceLE, Int.reduceAdd, Int.reduceSub, Int.reduceEq, reduceIte, Nat.reduceBNe, Int.reducePow, Nat.reducePow, Int.reduceMul, Int.reduceNeg, TT]
    · refine draw_of cx_ok (by kernel_rfl) 400 [] [(0, true), (1, true), (2, true), (3, true), (4, true), (5, true), (6, true), (7, true), (8, true), (9, true), (10, true), (11, true), (12, true), (13, true), (14, true), (15, true), (16, true), (17, true), (18, true), (19, true), (20, true), (21, true)] (by kernel_rfl) rfl ?_
      simp (maxSteps := 4000000) only [Try.results7, q1, q2, c12, c13, conv_undef, binS_ib, binS_bi, XX, Nat.reduceBEq, Nat.reduceLT, Nat.reduceAdd, Nat.reduceMul, Nat.reduceSub, Nat.reduceLeDiff, Nat.reduceEqDiff, Int.reduceToNat, Int.reduceLT, Int.reduceLE, Int.reduceAdd, Int.reduceSub, Int.reduceEq, reduceIte, Nat.reduceBNe, Int.reducePow, Nat.reducePow, Int.reduceMul, Int.reduceNeg, TT]
  obtain ⟨d', s', k1, k0, t, hw⟩ := raw_form (l := w) (by omega)
  have hwl : w.length = 14 + t.length := by rw [hw]; simp; omega
  by_cases hk3 : k1.toNat * 256 + k0.toNat < 1536
  · have q1 : decide ((w.length : Int) < 60) = false := by simp only [decide_eq_false_iff_not]; omega
    have q2 : decide (1514 < (w.length : Int)) = false := by simp only [decide_eq_false_iff_not]; omega
    refine call_pureF [.c (roB w wp wc)] (fopenK_spec d' s' k1 k0 t wp w hw wc (by omega) (by omega) (by omega) hk3) ⟨.inl ⟨rfl, rfl⟩, trivial⟩ ?_
    rintro _ rfl
    simp (maxSteps := 4000000) only [Try.results7, XX, Nat.reduceBEq, Nat.reduceLT, Nat.reduceAdd, Nat.reduceMul, Nat.reduceSub, Nat.reduceLeDiff, Nat.reduceEqDiff, Int.reduceToNat, Int.reduceLT, Int.reduceLE, Int.reduceAdd, Int.reduceSub, Int.reduceEq, reduceIte, Nat.reduceBNe, Int.reducePow, Nat.reducePow, Int.reduceMul, Int.reduceNeg, TT]
    obtain ⟨R12, e12⟩ : ∃ R, List.drop 12 (bsR (w ++ wp)) = .v (.int .u8 k1.toNat) :: R := by subst hw; exact ⟨_, rfl⟩
    obtain ⟨R13, e13⟩ : ∃ R, List.drop 13 (bsR (w ++ wp)) = .v (.int .u8 k0.toNat) :: R := by subst hw; exact ⟨_, rfl⟩
    have := k1.toNat_lt
    have := k0.toNat_lt
    have q3 : decide (IntKind.i64.wrap (IntKind.i64.wrap (IntKind.i64.wrap (k1.toNat : Int) * 256) + IntKind.i64.wrap (k0.toNat : Int)) < 1536) = true := by
      rw [w64 (x := (k1.toNat : Int)) (by omega) (by omega), w64 (x := (k0.toNat : Int)) (by omega) (by omega), w64 (x := (k1.toNat : Int) * 256) (by omega) (by omega), w64 (by omega) (by omega)]
      simp only [decide_eq_true_eq]; omega
    refine draw_of cx_ok (by kernel_rfl) 400 [] [(0, true), (1, true), (2, true), (3, true), (4, true), (5, true), (6, true), (7, true), (8, true), (9, true), (10, true), (11, true), (12, true), (13, true), (14, true), (15, true), (16, true), (17, true), (18, true), (19, true), (20, true), (21, true)] (by kernel_rfl) rfl ?_
    simp (maxSteps := 4000000) only [Try.results7, q1, q2, q3, e12, e13, XX, Nat.reduceBEq, Nat.reduceLT, Nat.reduceAdd, Nat.reduceMul, Nat.reduceSub, Nat.reduceLeDiff, Nat.reduceEqDiff, Int.reduceToNat, Int.reduceLT, Int.reduceLE, Int.reduceAdd, Int.reduceSub, Int.reduceEq, reduceIte, Nat.reduceBNe, Int.reducePow, Nat.reducePow, Int.reduceMul, Int.reduceNeg, TT]
    omega
  · refine call_fz [.c (roB w wp wc)] (fopen_spec d' s' k1 k0 t wp w hw wc (by omega) (by omega) (by omega) (by omega)) (fun t h' h => open_noRo h) ⟨.inl ⟨rfl, rfl⟩, trivial⟩ ?_
    rintro _ _ ⟨r, rfl, rfl⟩
    simp (maxSteps := 4000000) only [Try.results7, ids_bsC, ren_bsC, noRo_bsC, plain_bsC, lt_bsC, ids_byte, ren_byte, noRo_byte, plain_byte, lt_byte, XX, Nat.reduceBEq, Nat.reduceLT, Nat.reduceAdd, Nat.reduceMul, Nat.reduceSub, Nat.reduceLeDiff, Nat.reduceEqDiff, Int.reduceToNat, Int.reduceLT, Int.reduceLE, Int.reduceAdd, Int.reduceSub, Int.reduceEq, reduceIte, Nat.reduceBNe, Int.reducePow, Nat.reducePow, Int.reduceMul, Int.reduceNeg, TT]
    have := k1.toNat_lt
    have := k0.toNat_lt
    have hse : sealL d' s' (k1.toNat * 256 + k0.toNat) t = w := by
      have b1 : UInt8.ofNat ((k1.toNat * 256 + k0.toNat) / 256) = k1 := by
        rw [show (k1.toNat * 256 + k0.toNat) / 256 = k1.toNat by omega]; simp
      have b0 : UInt8.ofNat (k1.toNat * 256 + k0.toNat) = k0 := by
        rw [← UInt8.toNat_inj]; simp
      rw [hw]
      simp only [sealL, be2, b1, b0, show 46 - t.length = 0 by omega, List.replicate_zero, List.append_nil]
      rfl
    refine call_fz [.agg (fraC d' s' (k1.toNat * 256 + k0.toNat : Nat) (roB t (List.replicate r 0) (t.length + r)))] (fseal_spec d' s' (k1.toNat * 256 + k0.toNat) t (List.replicate r 0) (t.length + r) (by omega) (by omega) (by omega)) (fun t h' h => seal_noRo h) ?_ ?_
    · exact ⟨fra_fz (fz_sl rfl rfl rfl), trivial⟩
    rintro _ _ ⟨rfl, rfl⟩
    rw [hse]
    have tw : (bsC w).take w.length = bsC w := List.take_of_length_le (by simp)
    have tr : ((bsR (w ++ wp)).take w.length).map RC.toSC = bsC w := by rw [rs_take, List.take_left' rfl, bsR_toSC]
    simp (maxSteps := 4000000) only [Try.results7, ids_bsC, ren_bsC, noRo_bsC, plain_bsC, lt_bsC, ids_byte, ren_byte, noRo_byte, plain_byte, lt_byte, tw, tr, strOf_bsC, str_eq, XX, Nat.reduceBEq, Nat.reduceLT, Nat.reduceAdd, Nat.reduceMul, Nat.reduceSub, Nat.reduceLeDiff, Nat.reduceEqDiff, Int.reduceToNat, Int.reduceLT, Int.reduceLE, Int.reduceAdd, Int.reduceSub, Int.reduceEq, reduceIte, Nat.reduceBNe, Int.reducePow, Nat.reducePow, Int.reduceMul, Int.reduceNeg, TT]
    exact ⟨⟨by simp, isByte_bsC w⟩, by simp, isByte_bsC w⟩

end Go.Proofs.Ytgadpbfmnhkjfaa.Sx

