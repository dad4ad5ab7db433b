/- The symbolic executor, at work: parts that are whole. No condition. -/
import Derived.Test.YtflccffjfnfoiaaOpO
namespace Go.Proofs.Ytflccffjfnfoiaa.Sx
open Go
set_option linter.unusedSimpArgs false
set_option linter.unusedVariables false
set_option maxRecDepth 10000
set_option maxHeartbeats 2000000

theorem open_spec (B sp : List UInt8) (c : Nat) (hc1 : B.length ≤ c) (hc2 : B.length ≤ 140737488351232) : Spec cx.P 35 [.c (roB B sp c)] [] fun s _ => s.plain = true ∧ s = .c (bC (openF B)) := by
  refine spec_of_X cx_ok Try.func35 rfl (by kernel_rfl) (by kernel_rfl) (Nat.le_of_ble_eq_true rfl) 400 4 ?_
  simp (maxSteps := 4000000) only [Try.results35, XX, Nat.reduceBEq, Nat.reduceLT, Nat.reduceAdd, Nat.reduceMul, Nat.reduceSub, Nat.reduceLeDiff, Nat.reduceEqDiff, Int.reduceToNat, Int.reduceLT, Int.reduceLE, Int.reduceAdd, Int.reduceSub, Int.reduceEq, reduceIte, Nat.reduceBNe, Int.reducePow, Nat.reducePow, Int.reduceMul, Int.reduceNeg, isB_i, isB_b, isB_y, isBv_i, isBv_b, eqCells_t, TT]
  refine loop_any cx_ok 400 (fun μ σ => ∃ at_ : Nat, μ = B.length - at_ ∧ at_ ≤ B.length ∧ openF (B.drop at_) = openF B ∧ σ = ⟨⟨4, 0⟩, [(0, .c (roB B sp c)), (3, .c (i64 at_))], []⟩) B.length
    ⟨⟨4, 0⟩, [(0, .c (roB B sp c)), (3, .c (i64 (0 : Nat)))], []⟩ ⟨0, rfl, Nat.zero_le _, rfl, rfl⟩ (.inl ⟨rfl, rfl, rfl, rfl, trivial⟩) ?_
  rintro μ σ ⟨at_, rfl, ha1, hf, rfl⟩
  have hbs : (bsR (B ++ sp)).drop at_ = bsR (B.drop at_ ++ sp) := by rw [rs_drop, List.drop_append_of_le_length ha1]
  have hbl : (B.drop at_).length = B.length - at_ := List.length_drop
  cases hl : B.drop at_ with
  | nil =>
    rw [hl] at hf hbl
    obtain rfl : at_ = B.length := by simp only [List.length_nil] at hbl; omega
    have hb0 : decide ((B.length : Int) < (B.length : Int)) = false := by simp
    simp (maxSteps := 4000000) only [Try.results35, hb0, XX, Nat.reduceBEq, Nat.reduceLT, Nat.reduceAdd, Nat.reduceMul, Nat.reduceSub, Nat.reduceLeDiff, Nat.reduceEqDiff, Int.reduceToNat, Int.reduceLT, Int.reduceLE, Int.reduceAdd, Int.reduceSub, Int.reduceEq, reduceIte, Nat.reduceBNe, Int.reducePow, Nat.reducePow, Int.reduceMul, Int.reduceNeg, isB_i, isB_b, isB_y, isBv_i, isBv_b, eqCells_t, TT]
    rw [← hf, openF]
  | cons x l =>
    rw [hl] at hbs hf hbl
    have hl0 : decide ((at_ : Int) < (B.length : Int)) = true := by simp only [decide_eq_true_eq, List.length_cons] at hbl ⊢; omega
    have hbs' : (bsR (B ++ sp)).drop at_ = byteR x :: bsR (l ++ sp) := hbs
    have hdn : B.drop (at_ + 1) = l := by rw [← List.drop_drop, hl]; rfl
    have t255 : ((255 : UInt8).toNat : Int) = 255 := rfl
    have t0 : ((0 : UInt8).toNat : Int) = 0 := rfl
    have ea : IntKind.i64.wrap ((at_ : Int) + 1) = ((at_ + 1 : Nat) : Int) := by rw [w64] <;> omega
    have ea2 : IntKind.i64.wrap ((at_ : Int) + 2) = ((at_ + 2 : Nat) : Int) := by rw [w64] <;> omega
    simp only [List.length_cons] at hbl
    by_cases hx : x = 255
    · subst hx
      rw [openF_end] at hf
      simp (maxSteps := 4000000) only [Try.results35, hl0, hbs', t255, byteR_sc, XX, Nat.reduceBEq, Nat.reduceLT, Nat.reduceAdd, Nat.reduceMul, Nat.reduceSub, Nat.reduceLeDiff, Nat.reduceEqDiff, Int.reduceToNat, Int.reduceLT, Int.reduceLE, Int.reduceAdd, Int.reduceSub, Int.reduceEq, reduceIte, Nat.reduceBNe, Int.reducePow, Nat.reducePow, Int.reduceMul, Int.reduceNeg, isB_i, isB_b, isB_y, isBv_i, isBv_b, eqCells_t, TT]
      rw [← hf]
      exact ⟨by omega, by omega, rfl⟩
    have dx : decide ((x.toNat : Int) = 255) = false := by
      simp only [decide_eq_false_iff_not]; intro h; exact hx (UInt8.toNat_inj.1 (by show x.toNat = 255; omega))
    by_cases hx0 : x = 0
    · subst hx0
      rw [openF_pad] at hf
      simp (maxSteps := 4000000) only [Try.results35, hl0, hbs', dx, t0, byteR_sc, ea, XX, Nat.reduceBEq, Nat.reduceLT, Nat.reduceAdd, Nat.reduceMul, Nat.reduceSub, Nat.reduceLeDiff, Nat.reduceEqDiff, Int.reduceToNat, Int.reduceLT, Int.reduceLE, Int.reduceAdd, Int.reduceSub, Int.reduceEq, reduceIte, Nat.reduceBNe, Int.reducePow, Nat.reducePow, Int.reduceMul, Int.reduceNeg, isB_i, isB_b, isB_y, isBv_i, isBv_b, eqCells_t, TT]
      refine ⟨by omega, by omega, by omega, by omega, B.length - (at_ + 1), by omega, _, ⟨at_ + 1, rfl, by omega, by rw [hdn]; exact hf, rfl⟩, .inl ⟨rfl, rfl, rfl, rfl, trivial⟩⟩
    have dx0 : decide ((x.toNat : Int) = 0) = false := by
      simp only [decide_eq_false_iff_not]; intro h; exact hx0 (UInt8.toNat_inj.1 (by show x.toNat = 0; omega))
    cases l with
    | nil =>
      rw [openF_one hx hx0] at hf
      have eB : at_ + 1 = B.length := by simp only [List.length_nil] at hbl; omega
      have dB : decide (((at_ + 1 : Nat) : Int) = (B.length : Int)) = true := by simp only [decide_eq_true_eq]; omega
      cases sp with
      | nil =>
        have hb1 : (bsR B).drop (at_ + 1) = [] := by rw [rs_drop, hdn]; rfl
        have hb0 : (bsR B).drop at_ = [byteR x] := by rw [List.append_nil] at hbs'; exact hbs'
        simp (maxSteps := 4000000) only [Try.results35, hl0, hb0, hb1, dx, dx0, dB, ea, ea2, ge0O, binS_uO, conv_uO, binS_ib, binS_bi, byteR_sc, XX, Nat.reduceBEq, Nat.reduceLT, Nat.reduceAdd, Nat.reduceMul, Nat.reduceSub, Nat.reduceLeDiff, Nat.reduceEqDiff, Int.reduceToNat, Int.reduceLT, Int.reduceLE, Int.reduceAdd, Int.reduceSub, Int.reduceEq, reduceIte, Nat.reduceBNe, Int.reducePow, Nat.reducePow, Int.reduceMul, Int.reduceNeg, isB_i, isB_b, isB_y, isBv_i, isBv_b, eqCells_t, TT]
        rw [← hf]
        exact ⟨by omega, by omega, rfl⟩
      | cons y sp =>
        have hb1 : (bsR (B ++ y :: sp)).drop (at_ + 1) = byteR y :: bsR sp := by rw [rs_drop, List.drop_append_of_le_length (by omega), hdn]; rfl
        simp (maxSteps := 4000000) only [Try.results35, hl0, hbs', hb1, dx, dx0, dB, ea, ea2, ge0O, binS_uO, conv_uO, binS_ib, binS_bi, byteR_sc, XX, Nat.reduceBEq, Nat.reduceLT, Nat.reduceAdd, Nat.reduceMul, Nat.reduceSub, Nat.reduceLeDiff, Nat.reduceEqDiff, Int.reduceToNat, Int.reduceLT, Int.reduceLE, Int.reduceAdd, Int.reduceSub, Int.reduceEq, reduceIte, Nat.reduceBNe, Int.reducePow, Nat.reducePow, Int.reduceMul, Int.reduceNeg, isB_i, isB_b, isB_y, isBv_i, isBv_b, eqCells_t, TT]
        rw [← hf]
        exact ⟨by omega, by omega, by omega, by omega, rfl⟩
    | cons n l =>
      have hb1 : (bsR (B ++ sp)).drop (at_ + 1) = byteR n :: bsR (l ++ sp) := by rw [rs_drop, List.drop_append_of_le_length (by omega), hdn]; rfl
      have en : IntKind.i64.wrap (n.toNat : Int) = (n.toNat : Int) := by have := n.toNat_lt; rw [w64] <;> omega
      have bn := n.toNat_lt
      simp only [List.length_cons] at hbl
      have dB : decide (((at_ + 1 : Nat) : Int) = (B.length : Int)) = false := by simp only [decide_eq_false_iff_not]; omega
      have ea3 : IntKind.i64.wrap (((at_ + 2 : Nat) : Int) + (n.toNat : Int)) = ((at_ + 2 + n.toNat : Nat) : Int) := by rw [w64] <;> omega
      by_cases hs : l.length < n.toNat
      · rw [openF_cut hx hx0 hs] at hf
        have dn : decide ((B.length : Int) < ((at_ + 2 + n.toNat : Nat) : Int)) = true := by simp only [decide_eq_true_eq]; omega
        simp (maxSteps := 4000000) only [Try.results35, hl0, hbs', hb1, dx, dx0, dB, ea, ea2, ea3, byteR_sc, dn, en, XX, Nat.reduceBEq, Nat.reduceLT, Nat.reduceAdd, Nat.reduceMul, Nat.reduceSub, Nat.reduceLeDiff, Nat.reduceEqDiff, Int.reduceToNat, Int.reduceLT, Int.reduceLE, Int.reduceAdd, Int.reduceSub, Int.reduceEq, reduceIte, Nat.reduceBNe, Int.reducePow, Nat.reducePow, Int.reduceMul, Int.reduceNeg, isB_i, isB_b, isB_y, isBv_i, isBv_b, eqCells_t, TT]
        rw [← hf]
        exact ⟨by omega, by omega, by omega, by omega, by omega, by omega, rfl⟩
      · rw [openF_next hx hx0 (by omega)] at hf
        have dn : decide ((B.length : Int) < ((at_ + 2 + n.toNat : Nat) : Int)) = false := by simp only [decide_eq_false_iff_not]; omega
        have d2 : B.drop (at_ + 2 + n.toNat) = l.drop n.toNat := by rw [show at_ + 2 + n.toNat = at_ + 1 + (1 + n.toNat) by omega, ← List.drop_drop, hdn, Nat.add_comm 1, List.drop_succ_cons]
        simp (maxSteps := 4000000) only [Try.results35, hl0, hbs', hb1, dx, dx0, dB, ea, ea2, ea3, byteR_sc, dn, en, XX, Nat.reduceBEq, Nat.reduceLT, Nat.reduceAdd, Nat.reduceMul, Nat.reduceSub, Nat.reduceLeDiff, Nat.reduceEqDiff, Int.reduceToNat, Int.reduceLT, Int.reduceLE, Int.reduceAdd, Int.reduceSub, Int.reduceEq, reduceIte, Nat.reduceBNe, Int.reducePow, Nat.reducePow, Int.reduceMul, Int.reduceNeg, isB_i, isB_b, isB_y, isBv_i, isBv_b, eqCells_t, TT]
        exact ⟨by omega, by omega, by omega, by omega, by omega, by omega, by omega, by omega, B.length - (at_ + 2 + n.toNat), by omega, _, ⟨at_ + 2 + n.toNat, rfl, by omega, by rw [d2]; exact hf, rfl⟩, .inl ⟨rfl, rfl, rfl, rfl, trivial⟩⟩
end Go.Proofs.Ytflccffjfnfoiaa.Sx
