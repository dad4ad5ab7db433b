/- The symbolic executor, at work: options: are two rows the same; options that are made. No condition. -/
import Derived.Test.YtflccffjfnfoiaaOpI
import Derived.Test.YtflccffjfnfoiaaPt
namespace Go.Proofs.Ytflccffjfnfoiaa.Sx
open Go
set_option linter.unusedSimpArgs false
set_option linter.unusedVariables false
set_option maxRecDepth 10000
set_option maxHeartbeats 2000000

abbrev OI.pi (x : OI) : PI := (x.k, x.d)
abbrev piL (xs : List OI) : List PI := xs.map OI.pi
theorem piL_next {xs ys : List OI} {i : Nat} {x y : OI} (hx : xs[i]? = some x) (hy : ys[i]? = some y) (h : piL (xs.take i) = piL (ys.take i)) (hk : x.k = y.k) (hd : x.d = y.d) : piL (xs.take (i + 1)) = piL (ys.take (i + 1)) := by
  rw [take_nextO hx, take_nextO hy]
  simp only [piL, List.map_append, List.map_cons, List.map_nil] at h ⊢
  rw [h]
  simp only [OI.pi, hk, hd]
theorem piL_ne {xs ys : List OI} {i : Nat} {x y : OI} (hx : xs[i]? = some x) (hy : ys[i]? = some y) (hk : ¬ (x.k = y.k ∧ x.d = y.d)) : piL xs ≠ piL ys := by
  intro h
  have h1 : (piL xs)[i]? = (piL ys)[i]? := by rw [h]
  rw [List.getElem?_map, List.getElem?_map, hx, hy] at h1
  simp only [Option.map_some, Option.some.injEq, OI.pi, Prod.mk.injEq] at h1
  exact hk h1

theorem sameO_spec (xs sp ys sp' : List OI) (c c' : Nat) (hx : ∀ x ∈ xs, x.ok) (hy : ∀ x ∈ ys, x.ok) (hn : xs.length ≤ 140737488351232) (hm : ys.length ≤ 140737488351232) : Spec cx.P 22 [.c (roO xs sp c), .c (roO ys sp' c')] [] fun s _ => s.plain = true ∧ s = .c (bC (decide (piL xs = piL ys))) := by
  refine spec_of_X cx_ok Try.func22 rfl (by kernel_rfl) (by kernel_rfl) (Nat.le_of_ble_eq_true rfl) 400 6 ?_
  simp (maxSteps := 4000000) only [Try.results22, XX, Nat.reduceBEq, Nat.reduceLT, Nat.reduceAdd, Nat.reduceMul, Nat.reduceSub, Nat.reduceLeDiff, Nat.reduceEqDiff, Int.reduceToNat, Int.reduceLT, Int.reduceLE, Int.reduceAdd, Int.reduceSub, Int.reduceEq, reduceIte, Nat.reduceBNe, Int.reducePow, Nat.reducePow, Int.reduceMul, Int.reduceNeg, isB_i, isB_b, isB_y, isBv_i, isBv_b, eqCells_t, TT]
  by_cases hl : xs.length = ys.length
  · have dl : decide ((xs.length : Int) = (ys.length : Int)) = true := by simp only [decide_eq_true_eq]; omega
    simp (maxSteps := 4000000) only [Try.results22, dl, XX, Nat.reduceBEq, Nat.reduceLT, Nat.reduceAdd, Nat.reduceMul, Nat.reduceSub, Nat.reduceLeDiff, Nat.reduceEqDiff, Int.reduceToNat, Int.reduceLT, Int.reduceLE, Int.reduceAdd, Int.reduceSub, Int.reduceEq, reduceIte, Nat.reduceBNe, Int.reducePow, Nat.reducePow, Int.reduceMul, Int.reduceNeg, isB_i, isB_b, isB_y, isBv_i, isBv_b, eqCells_t, TT]
    refine loop_any cx_ok 400 (fun μ σ => ∃ i : Nat, μ = xs.length - i ∧ i ≤ xs.length ∧ piL (xs.take i) = piL (ys.take i) ∧
        σ = ⟨⟨6, 0⟩, [(0, .c (roO xs sp c)), (1, .c (roO ys sp' c')), (5, .c (i64 i))], []⟩) xs.length
      ⟨⟨6, 0⟩, [(0, .c (roO xs sp c)), (1, .c (roO ys sp' c')), (5, .c (i64 (0 : Nat)))], []⟩ ⟨0, rfl, Nat.zero_le _, by simp, rfl⟩ (.inl ⟨rfl, rfl, rfl, rfl, rfl, trivial⟩) ?_
    rintro μ σ ⟨i, rfl, hi, hf, rfl⟩
    by_cases hlt : i < xs.length
    · have hd : decide ((i : Int) < (xs.length : Int)) = true := by simp only [decide_eq_true_eq]; omega
      have e3 : IntKind.i64.wrap ((i : Int) + 1) = ((i + 1 : Nat) : Int) := by rw [w64] <;> omega
      obtain ⟨x, hxi⟩ : ∃ x, xs[i]? = some x := ⟨_, List.getElem?_eq_getElem hlt⟩
      obtain ⟨y, hyi⟩ : ∃ y, ys[i]? = some y := ⟨_, List.getElem?_eq_getElem (by omega)⟩
      obtain ⟨R, hR⟩ := osR_at (sp := sp) hxi
      obtain ⟨R', hR'⟩ := osR_at (sp := sp') hyi
      have tx : (bsR (x.d ++ x.sp)).take x.d.length = bsR x.d := by rw [rs_take, List.take_left' rfl]
      have ty : (bsR (y.d ++ y.sp)).take y.d.length = bsR y.d := by rw [rs_take, List.take_left' rfl]
      have q1 := isByte_bsC x.d
      have q2 := isByte_bsC y.d
      have b1 : x.d.length ≤ (bsR (x.d ++ x.sp)).length := by simp
      have b2 : y.d.length ≤ (bsR (y.d ++ y.sp)).length := by simp
      by_cases hk : x.k = y.k
      · have dk : decide (x.k = y.k) = true := by simpa using hk
        by_cases hdd : x.d = y.d
        · have ddd : decide (x.d = y.d) = true := by simpa using hdd
          simp (maxSteps := 4000000) only [Try.results22, hd, XX, Nat.reduceBEq, Nat.reduceLT, Nat.reduceAdd, Nat.reduceMul, Nat.reduceSub, Nat.reduceLeDiff, Nat.reduceEqDiff, Int.reduceToNat, Int.reduceLT, Int.reduceLE, Int.reduceAdd, Int.reduceSub, Int.reduceEq, reduceIte, Nat.reduceBNe, Int.reducePow, Nat.reducePow, Int.reduceMul, Int.reduceNeg, isB_i, isB_b, isB_y, isBv_i, isBv_b, eqCells_t, TT]
          refine draw_of cx_ok (by kernel_rfl) 400 [] [(0, true), (1, true), (2, true), (3, true), (4, true), (5, true), (6, true), (7, true), (8, true), (9, true), (10, true), (11, true), (12, true), (13, true), (14, true), (15, true), (16, true), (17, true), (18, true), (19, true), (20, true), (21, true), (22, true), (23, true), (24, true), (25, true)] (by kernel_rfl) rfl ?_
          simp (maxSteps := 4000000) only [Try.results22, hR, hR', dk, tx, ty, ddd, strOf_bsC, str_eq, bsR_toSC, e3, XX, Nat.reduceBEq, Nat.reduceLT, Nat.reduceAdd, Nat.reduceMul, Nat.reduceSub, Nat.reduceLeDiff, Nat.reduceEqDiff, Int.reduceToNat, Int.reduceLT, Int.reduceLE, Int.reduceAdd, Int.reduceSub, Int.reduceEq, reduceIte, Nat.reduceBNe, Int.reducePow, Nat.reducePow, Int.reduceMul, Int.reduceNeg, isB_i, isB_b, isB_y, isBv_i, isBv_b, eqCells_t, TT]
          exact ⟨by omega, by omega, by omega, by omega, by omega, by omega, ⟨b1, q1⟩, by omega, by omega, ⟨b2, q2⟩, xs.length - (i + 1), by omega, _, ⟨i + 1, rfl, by omega, piL_next hxi hyi hf hk hdd, rfl⟩, .inl ⟨rfl, rfl, rfl, rfl, rfl, trivial⟩⟩
        · have ddd : decide (x.d = y.d) = false := by simpa using hdd
          simp (maxSteps := 4000000) only [Try.results22, hd, XX, Nat.reduceBEq, Nat.reduceLT, Nat.reduceAdd, Nat.reduceMul, Nat.reduceSub, Nat.reduceLeDiff, Nat.reduceEqDiff, Int.reduceToNat, Int.reduceLT, Int.reduceLE, Int.reduceAdd, Int.reduceSub, Int.reduceEq, reduceIte, Nat.reduceBNe, Int.reducePow, Nat.reducePow, Int.reduceMul, Int.reduceNeg, isB_i, isB_b, isB_y, isBv_i, isBv_b, eqCells_t, TT]
          refine draw_of cx_ok (by kernel_rfl) 400 [] [(0, true), (1, true), (2, true), (3, true), (4, true), (5, true), (6, true), (7, true), (8, true), (9, true), (10, true), (11, true), (12, true), (13, true), (14, true), (15, true), (16, true), (17, true), (18, true), (19, true), (20, true), (21, true), (22, true), (23, true), (24, true), (25, true)] (by kernel_rfl) rfl ?_
          simp (maxSteps := 4000000) only [Try.results22, hR, hR', dk, tx, ty, ddd, strOf_bsC, str_eq, bsR_toSC, e3, XX, Nat.reduceBEq, Nat.reduceLT, Nat.reduceAdd, Nat.reduceMul, Nat.reduceSub, Nat.reduceLeDiff, Nat.reduceEqDiff, Int.reduceToNat, Int.reduceLT, Int.reduceLE, Int.reduceAdd, Int.reduceSub, Int.reduceEq, reduceIte, Nat.reduceBNe, Int.reducePow, Nat.reducePow, Int.reduceMul, Int.reduceNeg, isB_i, isB_b, isB_y, isBv_i, isBv_b, eqCells_t, TT]
          exact ⟨by omega, by omega, by omega, by omega, by omega, by omega, ⟨b1, q1⟩, by omega, by omega, ⟨b2, q2⟩, by rw [decide_eq_false (piL_ne hxi hyi fun h => hdd h.2)]⟩
      · have dk : decide (x.k = y.k) = false := by simpa using hk
        simp (maxSteps := 4000000) only [Try.results22, hd, XX, Nat.reduceBEq, Nat.reduceLT, Nat.reduceAdd, Nat.reduceMul, Nat.reduceSub, Nat.reduceLeDiff, Nat.reduceEqDiff, Int.reduceToNat, Int.reduceLT, Int.reduceLE, Int.reduceAdd, Int.reduceSub, Int.reduceEq, reduceIte, Nat.reduceBNe, Int.reducePow, Nat.reducePow, Int.reduceMul, Int.reduceNeg, isB_i, isB_b, isB_y, isBv_i, isBv_b, eqCells_t, TT]
        refine draw_of cx_ok (by kernel_rfl) 400 [] [(0, true), (1, true), (2, true), (3, true), (4, true), (5, true), (6, true), (7, true), (8, true), (9, true), (10, true), (11, true), (12, true), (13, true), (14, true), (15, true), (16, true), (17, true), (18, true), (19, true), (20, true), (21, true), (22, true), (23, true), (24, true), (25, true)] (by kernel_rfl) rfl ?_
        simp (maxSteps := 4000000) only [Try.results22, hR, hR', dk, tx, ty, strOf_bsC, str_eq, bsR_toSC, e3, XX, Nat.reduceBEq, Nat.reduceLT, Nat.reduceAdd, Nat.reduceMul, Nat.reduceSub, Nat.reduceLeDiff, Nat.reduceEqDiff, Int.reduceToNat, Int.reduceLT, Int.reduceLE, Int.reduceAdd, Int.reduceSub, Int.reduceEq, reduceIte, Nat.reduceBNe, Int.reducePow, Nat.reducePow, Int.reduceMul, Int.reduceNeg, isB_i, isB_b, isB_y, isBv_i, isBv_b, eqCells_t, TT]
        exact ⟨by omega, by omega, by omega, by omega, by rw [decide_eq_false (piL_ne hxi hyi fun h => hk h.1)]⟩
    obtain rfl : i = xs.length := by omega
    have hd : decide ((xs.length : Int) < (xs.length : Int)) = false := by simp
    simp (maxSteps := 4000000) only [Try.results22, hd, XX, Nat.reduceBEq, Nat.reduceLT, Nat.reduceAdd, Nat.reduceMul, Nat.reduceSub, Nat.reduceLeDiff, Nat.reduceEqDiff, Int.reduceToNat, Int.reduceLT, Int.reduceLE, Int.reduceAdd, Int.reduceSub, Int.reduceEq, reduceIte, Nat.reduceBNe, Int.reducePow, Nat.reducePow, Int.reduceMul, Int.reduceNeg, isB_i, isB_b, isB_y, isBv_i, isBv_b, eqCells_t, TT]
    have hpi : piL xs = piL ys := by rw [List.take_length, hl, List.take_length] at hf; exact hf
    simp [hpi]
  · have dl : decide ((xs.length : Int) = (ys.length : Int)) = false := by simp only [decide_eq_false_iff_not]; omega
    simp (maxSteps := 4000000) only [Try.results22, dl, XX, Nat.reduceBEq, Nat.reduceLT, Nat.reduceAdd, Nat.reduceMul, Nat.reduceSub, Nat.reduceLeDiff, Nat.reduceEqDiff, Int.reduceToNat, Int.reduceLT, Int.reduceLE, Int.reduceAdd, Int.reduceSub, Int.reduceEq, reduceIte, Nat.reduceBNe, Int.reducePow, Nat.reducePow, Int.reduceMul, Int.reduceNeg, isB_i, isB_b, isB_y, isBv_i, isBv_b, eqCells_t, TT]
    have : piL xs ≠ piL ys := fun h => hl (by have := congrArg List.length h; simpa using this)
    simp [this]
/-- Two rows in memory. -/
theorem call_same {xn : XN} {dst : Option Tmp} {k : List KI} {nm : NB} {tm : List (Nat × SV)} {hp : List SB} {Q : XE → St → Prop} {x y : SV} {xs sp ys sp' : List OI} {c c' : Nat} (hx : ∀ x ∈ xs, x.ok) (hy : ∀ x ∈ ys, x.ok) (hn : xs.length ≤ 140737488351232) (hm : ys.length ≤ 140737488351232)
    (h1 : frV true (fun _ => true) (fun i => hp.length + i) 0 hp x (.c (roO xs sp c))) (h2 : frV true (fun _ => true) (fun i => hp.length + i) 0 hp y (.c (roO ys sp' c')))
    (hk : xn k ⟨nm, put dst (.c (bC (decide (piL xs = piL ys)))) tm, hp⟩ Q) : CallGoal cx.P xn 22 [x, y] dst k ⟨nm, tm, hp⟩ Q :=
  call_pureF [.c (roO xs sp c), .c (roO ys sp' c')] (sameO_spec xs sp ys sp' c c' hx hy hn hm) ⟨h1, h2, trivial⟩ (by rintro _ rfl; exact hk)

/-! ### Options that are made -/
def resI (k : Int) (d : List UInt8) (s : SV) (h' : List SB) : Prop := s = .agg [i64 k, .sl 0 0 d.length d.length] ∧ h' = [wB true d]
section
variable (k : Int)
theorem numbered_spec (n : Nat) (hn : n < 4294967296) : Spec cx.P 31 [.c (i64 k), .c (i32 n)] [] (resI k (be4 n)) := by
  have e1 : IntKind.u64.wrap (n : Int) = (n : Int) := by rw [wu64] <;> omega
  refine Spec.wk (K := fun s h' => ∃ o, s = .agg [i64 k, .sl 1 0 4 4] ∧ h' = [o, wB true (be4 n)]) ?_ ?_
  · refine spec_of_X cx_ok Try.func31 rfl (by kernel_rfl) (by kernel_rfl) (Nat.le_of_ble_eq_true rfl) 400 5 ?_
    simp (maxSteps := 4000000) only [Try.results31, XX, Nat.reduceBEq, Nat.reduceLT, Nat.reduceAdd, Nat.reduceMul, Nat.reduceSub, Nat.reduceLeDiff, Nat.reduceEqDiff, Int.reduceToNat, Int.reduceLT, Int.reduceLE, Int.reduceAdd, Int.reduceSub, Int.reduceEq, reduceIte, Nat.reduceBNe, Int.reducePow, Nat.reducePow, Int.reduceMul, Int.reduceNeg, isB_i, isB_b, isB_y, isBv_i, isBv_b, eqCells_t, TT]
    simp (maxSteps := 4000000) only [Try.results31, e1, XX, Nat.reduceBEq, Nat.reduceLT, Nat.reduceAdd, Nat.reduceMul, Nat.reduceSub, Nat.reduceLeDiff, Nat.reduceEqDiff, Int.reduceToNat, Int.reduceLT, Int.reduceLE, Int.reduceAdd, Int.reduceSub, Int.reduceEq, reduceIte, Nat.reduceBNe, Int.reducePow, Nat.reducePow, Int.reduceMul, Int.reduceNeg, isB_i, isB_b, isB_y, isBv_i, isBv_b, eqCells_t, TT]
    refine call_frame (put4_spec n (by omega)) [] rfl rfl trivial rfl rfl ?_
    rintro _ _ ⟨rfl, rfl⟩
    simp (maxSteps := 4000000) only [Try.results31, ids_bsC, ren_bsC, noRo_bsC, plain_bsC, lt_bsC, ids_byte, ren_byte, noRo_byte, plain_byte, lt_byte, XX, Nat.reduceBEq, Nat.reduceLT, Nat.reduceAdd, Nat.reduceMul, Nat.reduceSub, Nat.reduceLeDiff, Nat.reduceEqDiff, Int.reduceToNat, Int.reduceLT, Int.reduceLE, Int.reduceAdd, Int.reduceSub, Int.reduceEq, reduceIte, Nat.reduceBNe, Int.reducePow, Nat.reducePow, Int.reduceMul, Int.reduceNeg, isB_i, isB_b, isB_y, isBv_i, isBv_b, eqCells_t, TT]
    exact ⟨_, rfl⟩
  · rintro _ _ ⟨o, rfl, rfl⟩
    exact ⟨.agg [i64 k, .sl 0 0 4 4], [wB true (be4 n)], [some 1], rfl, by simp only [XX, Nat.reduceBEq, Nat.reduceLT, Nat.reduceAdd, Nat.reduceMul, Nat.reduceSub, Nat.reduceLeDiff, Nat.reduceEqDiff, Int.reduceToNat, Int.reduceLT, Int.reduceLE, Int.reduceAdd, Int.reduceSub, Int.reduceEq, reduceIte, Nat.reduceBNe, Int.reducePow, Nat.reducePow, Int.reduceMul, Int.reduceNeg, isB_i, isB_b, isB_y, isBv_i, isBv_b, eqCells_t, TT, ids_bsC, ren_bsC, noRo_bsC, plain_bsC, lt_bsC, ids_byte, ren_byte, noRo_byte, plain_byte, lt_byte], by simp only [XX, Nat.reduceBEq, Nat.reduceLT, Nat.reduceAdd, Nat.reduceMul, Nat.reduceSub, Nat.reduceLeDiff, Nat.reduceEqDiff, Int.reduceToNat, Int.reduceLT, Int.reduceLE, Int.reduceAdd, Int.reduceSub, Int.reduceEq, reduceIte, Nat.reduceBNe, Int.reducePow, Nat.reducePow, Int.reduceMul, Int.reduceNeg, isB_i, isB_b, isB_y, isBv_i, isBv_b, eqCells_t, TT], rfl, rfl⟩
theorem rnumbered_spec (n : Nat) (hn : n < 4294967296) : Spec cx.P 33 [.c (i64 k), .c (i32 n)] [] (resI k (be4 n)) := by
  have e1 : IntKind.u64.wrap (n : Int) = (n : Int) := by rw [wu64] <;> omega
  refine Spec.wk (K := fun s h' => ∃ o, s = .agg [i64 k, .sl 1 0 4 4] ∧ h' = [o, wB true (be4 n)]) ?_ ?_
  · refine spec_of_X cx_ok Try.func33 rfl (by kernel_rfl) (by kernel_rfl) (Nat.le_of_ble_eq_true rfl) 400 5 ?_
    simp (maxSteps := 4000000) only [Try.results33, XX, Nat.reduceBEq, Nat.reduceLT, Nat.reduceAdd, Nat.reduceMul, Nat.reduceSub, Nat.reduceLeDiff, Nat.reduceEqDiff, Int.reduceToNat, Int.reduceLT, Int.reduceLE, Int.reduceAdd, Int.reduceSub, Int.reduceEq, reduceIte, Nat.reduceBNe, Int.reducePow, Nat.reducePow, Int.reduceMul, Int.reduceNeg, isB_i, isB_b, isB_y, isBv_i, isBv_b, eqCells_t, TT]
    simp (maxSteps := 4000000) only [Try.results33, e1, XX, Nat.reduceBEq, Nat.reduceLT, Nat.reduceAdd, Nat.reduceMul, Nat.reduceSub, Nat.reduceLeDiff, Nat.reduceEqDiff, Int.reduceToNat, Int.reduceLT, Int.reduceLE, Int.reduceAdd, Int.reduceSub, Int.reduceEq, reduceIte, Nat.reduceBNe, Int.reducePow, Nat.reducePow, Int.reduceMul, Int.reduceNeg, isB_i, isB_b, isB_y, isBv_i, isBv_b, eqCells_t, TT]
    refine call_frame (rput4_spec n (by omega)) [] rfl rfl trivial rfl rfl ?_
    rintro _ _ ⟨rfl, rfl⟩
    simp (maxSteps := 4000000) only [Try.results33, ids_bsC, ren_bsC, noRo_bsC, plain_bsC, lt_bsC, ids_byte, ren_byte, noRo_byte, plain_byte, lt_byte, XX, Nat.reduceBEq, Nat.reduceLT, Nat.reduceAdd, Nat.reduceMul, Nat.reduceSub, Nat.reduceLeDiff, Nat.reduceEqDiff, Int.reduceToNat, Int.reduceLT, Int.reduceLE, Int.reduceAdd, Int.reduceSub, Int.reduceEq, reduceIte, Nat.reduceBNe, Int.reducePow, Nat.reducePow, Int.reduceMul, Int.reduceNeg, isB_i, isB_b, isB_y, isBv_i, isBv_b, eqCells_t, TT]
    exact ⟨_, rfl⟩
  · rintro _ _ ⟨o, rfl, rfl⟩
    exact ⟨.agg [i64 k, .sl 0 0 4 4], [wB true (be4 n)], [some 1], rfl, by simp only [XX, Nat.reduceBEq, Nat.reduceLT, Nat.reduceAdd, Nat.reduceMul, Nat.reduceSub, Nat.reduceLeDiff, Nat.reduceEqDiff, Int.reduceToNat, Int.reduceLT, Int.reduceLE, Int.reduceAdd, Int.reduceSub, Int.reduceEq, reduceIte, Nat.reduceBNe, Int.reducePow, Nat.reducePow, Int.reduceMul, Int.reduceNeg, isB_i, isB_b, isB_y, isBv_i, isBv_b, eqCells_t, TT, ids_bsC, ren_bsC, noRo_bsC, plain_bsC, lt_bsC, ids_byte, ren_byte, noRo_byte, plain_byte, lt_byte], by simp only [XX, Nat.reduceBEq, Nat.reduceLT, Nat.reduceAdd, Nat.reduceMul, Nat.reduceSub, Nat.reduceLeDiff, Nat.reduceEqDiff, Int.reduceToNat, Int.reduceLT, Int.reduceLE, Int.reduceAdd, Int.reduceSub, Int.reduceEq, reduceIte, Nat.reduceBNe, Int.reducePow, Nat.reducePow, Int.reduceMul, Int.reduceNeg, isB_i, isB_b, isB_y, isBv_i, isBv_b, eqCells_t, TT], rfl, rfl⟩
theorem byte_spec (n : Int) : Spec cx.P 32 [.c (i64 k), .c (i64 n)] [] (resI k [UInt8.ofInt n]) := by
  refine Spec.wk (K := fun s h' => ∃ o, s = .agg [i64 k, .sl 1 0 1 1] ∧ h' = [o, wB true [UInt8.ofInt n]]) ?_ ?_
  · refine spec_of_X cx_ok Try.func32 rfl (by kernel_rfl) (by kernel_rfl) (Nat.le_of_ble_eq_true rfl) 400 5 ?_
    simp (maxSteps := 4000000) only [Try.results32, XX, Nat.reduceBEq, Nat.reduceLT, Nat.reduceAdd, Nat.reduceMul, Nat.reduceSub, Nat.reduceLeDiff, Nat.reduceEqDiff, Int.reduceToNat, Int.reduceLT, Int.reduceLE, Int.reduceAdd, Int.reduceSub, Int.reduceEq, reduceIte, Nat.reduceBNe, Int.reducePow, Nat.reducePow, Int.reduceMul, Int.reduceNeg, isB_i, isB_b, isB_y, isBv_i, isBv_b, eqCells_t, TT]
    simp (maxSteps := 4000000) only [Try.results32, List.replicate_one, List.flatten_cons, List.flatten_nil, byteC_of, List.append_nil, XX, Nat.reduceBEq, Nat.reduceLT, Nat.reduceAdd, Nat.reduceMul, Nat.reduceSub, Nat.reduceLeDiff, Nat.reduceEqDiff, Int.reduceToNat, Int.reduceLT, Int.reduceLE, Int.reduceAdd, Int.reduceSub, Int.reduceEq, reduceIte, Nat.reduceBNe, Int.reducePow, Nat.reducePow, Int.reduceMul, Int.reduceNeg, isB_i, isB_b, isB_y, isBv_i, isBv_b, eqCells_t, TT]
    exact ⟨_, rfl⟩
  · rintro _ _ ⟨o, rfl, rfl⟩
    exact ⟨.agg [i64 k, .sl 0 0 1 1], [wB true [UInt8.ofInt n]], [some 1], rfl, by simp only [XX, Nat.reduceBEq, Nat.reduceLT, Nat.reduceAdd, Nat.reduceMul, Nat.reduceSub, Nat.reduceLeDiff, Nat.reduceEqDiff, Int.reduceToNat, Int.reduceLT, Int.reduceLE, Int.reduceAdd, Int.reduceSub, Int.reduceEq, reduceIte, Nat.reduceBNe, Int.reducePow, Nat.reducePow, Int.reduceMul, Int.reduceNeg, isB_i, isB_b, isB_y, isBv_i, isBv_b, eqCells_t, TT, ids_bsC, ren_bsC, noRo_bsC, plain_bsC, lt_bsC, ids_byte, ren_byte, noRo_byte, plain_byte, lt_byte], by simp only [XX, Nat.reduceBEq, Nat.reduceLT, Nat.reduceAdd, Nat.reduceMul, Nat.reduceSub, Nat.reduceLeDiff, Nat.reduceEqDiff, Int.reduceToNat, Int.reduceLT, Int.reduceLE, Int.reduceAdd, Int.reduceSub, Int.reduceEq, reduceIte, Nat.reduceBNe, Int.reducePow, Nat.reducePow, Int.reduceMul, Int.reduceNeg, isB_i, isB_b, isB_y, isBv_i, isBv_b, eqCells_t, TT], rfl, rfl⟩
theorem rbyte_spec (n : Int) : Spec cx.P 34 [.c (i64 k), .c (i64 n)] [] (resI k [UInt8.ofInt n]) := by
  refine Spec.wk (K := fun s h' => ∃ o, s = .agg [i64 k, .sl 1 0 1 1] ∧ h' = [o, wB true [UInt8.ofInt n]]) ?_ ?_
  · refine spec_of_X cx_ok Try.func34 rfl (by kernel_rfl) (by kernel_rfl) (Nat.le_of_ble_eq_true rfl) 400 5 ?_
    simp (maxSteps := 4000000) only [Try.results34, XX, Nat.reduceBEq, Nat.reduceLT, Nat.reduceAdd, Nat.reduceMul, Nat.reduceSub, Nat.reduceLeDiff, Nat.reduceEqDiff, Int.reduceToNat, Int.reduceLT, Int.reduceLE, Int.reduceAdd, Int.reduceSub, Int.reduceEq, reduceIte, Nat.reduceBNe, Int.reducePow, Nat.reducePow, Int.reduceMul, Int.reduceNeg, isB_i, isB_b, isB_y, isBv_i, isBv_b, eqCells_t, TT]
    simp (maxSteps := 4000000) only [Try.results34, List.replicate_one, List.flatten_cons, List.flatten_nil, byteC_of, List.append_nil, XX, Nat.reduceBEq, Nat.reduceLT, Nat.reduceAdd, Nat.reduceMul, Nat.reduceSub, Nat.reduceLeDiff, Nat.reduceEqDiff, Int.reduceToNat, Int.reduceLT, Int.reduceLE, Int.reduceAdd, Int.reduceSub, Int.reduceEq, reduceIte, Nat.reduceBNe, Int.reducePow, Nat.reducePow, Int.reduceMul, Int.reduceNeg, isB_i, isB_b, isB_y, isBv_i, isBv_b, eqCells_t, TT]
    exact ⟨_, rfl⟩
  · rintro _ _ ⟨o, rfl, rfl⟩
    exact ⟨.agg [i64 k, .sl 0 0 1 1], [wB true [UInt8.ofInt n]], [some 1], rfl, by simp only [XX, Nat.reduceBEq, Nat.reduceLT, Nat.reduceAdd, Nat.reduceMul, Nat.reduceSub, Nat.reduceLeDiff, Nat.reduceEqDiff, Int.reduceToNat, Int.reduceLT, Int.reduceLE, Int.reduceAdd, Int.reduceSub, Int.reduceEq, reduceIte, Nat.reduceBNe, Int.reducePow, Nat.reducePow, Int.reduceMul, Int.reduceNeg, isB_i, isB_b, isB_y, isBv_i, isBv_b, eqCells_t, TT, ids_bsC, ren_bsC, noRo_bsC, plain_bsC, lt_bsC, ids_byte, ren_byte, noRo_byte, plain_byte, lt_byte], by simp only [XX, Nat.reduceBEq, Nat.reduceLT, Nat.reduceAdd, Nat.reduceMul, Nat.reduceSub, Nat.reduceLeDiff, Nat.reduceEqDiff, Int.reduceToNat, Int.reduceLT, Int.reduceLE, Int.reduceAdd, Int.reduceSub, Int.reduceEq, reduceIte, Nat.reduceBNe, Int.reducePow, Nat.reducePow, Int.reduceMul, Int.reduceNeg, isB_i, isB_b, isB_y, isBv_i, isBv_b, eqCells_t, TT], rfl, rfl⟩
end
end Go.Proofs.Ytflccffjfnfoiaa.Sx
