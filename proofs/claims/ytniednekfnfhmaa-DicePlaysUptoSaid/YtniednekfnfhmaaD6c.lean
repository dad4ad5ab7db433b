/- The symbolic executor, at work: how long to wait. No condition. -/
import Derived.Test.YtniednekfnfhmaaD6b
namespace Go.Proofs.Ytniednekfnfhmaa.Sx
open Go
set_option linter.unusedSimpArgs false
set_option linter.unusedVariables false
set_option maxRecDepth 10000
set_option maxHeartbeats 1000000

def heldV (n : Int) : Nat := if n < 1 then 1 else if 1125899906842624 < n then 1125899906842624 else n.toNat
theorem heldV_in (n : Int) : 1 ≤ heldV n ∧ heldV n ≤ 1125899906842624 := by
  unfold heldV
  split
  · omega
  · split <;> omega
def dbl (top : Nat) : Nat → Nat → Nat
  | 0, b => b
  | k + 1, b => if b < top then dbl top k (b * 2) else b
theorem dbl_top {top b : Nat} (h : ¬ b < top) : ∀ k, dbl top k b = b
  | 0 => rfl
  | k + 1 => by rw [dbl, if_neg h]
theorem dbl_ge (top : Nat) : ∀ (k b : Nat), 1 ≤ b → 1 ≤ dbl top k b
  | 0, b, h => h
  | k + 1, b, h => by
    rw [dbl]
    split
    · exact dbl_ge top k _ (by omega)
    · exact h
/-- What a wait is about. -/
def waitV (base most tr : Int) : Nat := min (dbl (heldV most) (tr - 1).toNat (heldV base)) (heldV most)
theorem waitV_in (base most tr : Int) : 1 ≤ waitV base most tr ∧ waitV base most tr ≤ 1125899906842624 := by
  have h1 := heldV_in most
  have h2 := heldV_in base
  have h3 := dbl_ge (heldV most) (tr - 1).toNat (heldV base) h2.1
  unfold waitV
  omega

theorem held_spec (n : Int) : Spec cx.P 30 [.c (i64 n), .c (i64 1125899906842624)] [] fun t h' => t.plain = true ∧ t = .c (i64 (heldV n : Nat)) := by
  unfold heldV
  by_cases h1 : n < 1
  · have d1 : decide (n < 1) = true := by simpa using h1
    refine spec_of_X cx_ok Try.func30 rfl (by kernel_rfl) (by kernel_rfl) (Nat.le_of_ble_eq_true rfl) 400 5 ?_
    simp (maxSteps := 4000000) only [Try.results30, XX, Nat.reduceBEq, Nat.reduceLT, Nat.reduceAdd, Nat.reduceMul, Nat.reduceSub, Nat.reduceLeDiff, Nat.reduceEqDiff, Int.reduceToNat, Int.reduceLT, Int.reduceLE, Int.reduceAdd, Int.reduceSub, Int.reduceEq, reduceIte, Nat.reduceBNe, Int.reducePow, Nat.reducePow, Int.reduceMul, Int.reduceNeg, isB_i, isB_b, isB_y, isBv_i, isBv_b, eqCells_t, TT]
    simp (maxSteps := 4000000) only [Try.results30, d1, XX, Nat.reduceBEq, Nat.reduceLT, Nat.reduceAdd, Nat.reduceMul, Nat.reduceSub, Nat.reduceLeDiff, Nat.reduceEqDiff, Int.reduceToNat, Int.reduceLT, Int.reduceLE, Int.reduceAdd, Int.reduceSub, Int.reduceEq, reduceIte, Nat.reduceBNe, Int.reducePow, Nat.reducePow, Int.reduceMul, Int.reduceNeg, isB_i, isB_b, isB_y, isBv_i, isBv_b, eqCells_t, TT]
    rw [if_pos h1]
    rfl
  · have d1 : decide (n < 1) = false := by simpa using h1
    rw [if_neg h1]
    by_cases h2 : 1125899906842624 < n
    · have d2 : decide (1125899906842624 < n) = true := by simpa using h2
      rw [if_pos h2]
      refine spec_of_X cx_ok Try.func30 rfl (by kernel_rfl) (by kernel_rfl) (Nat.le_of_ble_eq_true rfl) 400 5 ?_
      simp (maxSteps := 4000000) only [Try.results30, XX, Nat.reduceBEq, Nat.reduceLT, Nat.reduceAdd, Nat.reduceMul, Nat.reduceSub, Nat.reduceLeDiff, Nat.reduceEqDiff, Int.reduceToNat, Int.reduceLT, Int.reduceLE, Int.reduceAdd, Int.reduceSub, Int.reduceEq, reduceIte, Nat.reduceBNe, Int.reducePow, Nat.reducePow, Int.reduceMul, Int.reduceNeg, isB_i, isB_b, isB_y, isBv_i, isBv_b, eqCells_t, TT]
      simp (maxSteps := 4000000) only [Try.results30, d1, d2, XX, Nat.reduceBEq, Nat.reduceLT, Nat.reduceAdd, Nat.reduceMul, Nat.reduceSub, Nat.reduceLeDiff, Nat.reduceEqDiff, Int.reduceToNat, Int.reduceLT, Int.reduceLE, Int.reduceAdd, Int.reduceSub, Int.reduceEq, reduceIte, Nat.reduceBNe, Int.reducePow, Nat.reducePow, Int.reduceMul, Int.reduceNeg, isB_i, isB_b, isB_y, isBv_i, isBv_b, eqCells_t, TT]
    · have d2 : decide (1125899906842624 < n) = false := by simpa using h2
      rw [if_neg h2, Int.toNat_of_nonneg (by omega)]
      refine spec_of_X cx_ok Try.func30 rfl (by kernel_rfl) (by kernel_rfl) (Nat.le_of_ble_eq_true rfl) 400 5 ?_
      simp (maxSteps := 4000000) only [Try.results30, XX, Nat.reduceBEq, Nat.reduceLT, Nat.reduceAdd, Nat.reduceMul, Nat.reduceSub, Nat.reduceLeDiff, Nat.reduceEqDiff, Int.reduceToNat, Int.reduceLT, Int.reduceLE, Int.reduceAdd, Int.reduceSub, Int.reduceEq, reduceIte, Nat.reduceBNe, Int.reducePow, Nat.reducePow, Int.reduceMul, Int.reduceNeg, isB_i, isB_b, isB_y, isBv_i, isBv_b, eqCells_t, TT]
      simp (maxSteps := 4000000) only [Try.results30, d1, d2, XX, Nat.reduceBEq, Nat.reduceLT, Nat.reduceAdd, Nat.reduceMul, Nat.reduceSub, Nat.reduceLeDiff, Nat.reduceEqDiff, Int.reduceToNat, Int.reduceLT, Int.reduceLE, Int.reduceAdd, Int.reduceSub, Int.reduceEq, reduceIte, Nat.reduceBNe, Int.reducePow, Nat.reducePow, Int.reduceMul, Int.reduceNeg, isB_i, isB_b, isB_y, isBv_i, isBv_b, eqCells_t, TT]

theorem doubled_spec (base most tr : Int) (ht : tr < 9223372036854775808) : Spec cx.P 19 [.c (i64 base), .c (i64 most), .c (i64 tr)] [] fun t h' => t.plain = true ∧ t = .c (i64 (waitV base most tr : Nat)) := by
  refine spec_of_X cx_ok Try.func19 rfl (by kernel_rfl) (by kernel_rfl) (Nat.le_of_ble_eq_true rfl) 400 10 ?_
  simp (maxSteps := 4000000) only [Try.results19, XX, Nat.reduceBEq, Nat.reduceLT, Nat.reduceAdd, Nat.reduceMul, Nat.reduceSub, Nat.reduceLeDiff, Nat.reduceEqDiff, Int.reduceToNat, Int.reduceLT, Int.reduceLE, Int.reduceAdd, Int.reduceSub, Int.reduceEq, reduceIte, Nat.reduceBNe, Int.reducePow, Nat.reducePow, Int.reduceMul, Int.reduceNeg, isB_i, isB_b, isB_y, isBv_i, isBv_b, eqCells_t, TT]
  refine call_plain (held_spec base) rfl ?_
  rintro _ rfl
  simp (maxSteps := 4000000) only [Try.results19, XX, Nat.reduceBEq, Nat.reduceLT, Nat.reduceAdd, Nat.reduceMul, Nat.reduceSub, Nat.reduceLeDiff, Nat.reduceEqDiff, Int.reduceToNat, Int.reduceLT, Int.reduceLE, Int.reduceAdd, Int.reduceSub, Int.reduceEq, reduceIte, Nat.reduceBNe, Int.reducePow, Nat.reducePow, Int.reduceMul, Int.reduceNeg, isB_i, isB_b, isB_y, isBv_i, isBv_b, eqCells_t, TT]
  refine call_plain (held_spec most) rfl ?_
  rintro _ rfl
  simp (maxSteps := 4000000) only [Try.results19, XX, Nat.reduceBEq, Nat.reduceLT, Nat.reduceAdd, Nat.reduceMul, Nat.reduceSub, Nat.reduceLeDiff, Nat.reduceEqDiff, Int.reduceToNat, Int.reduceLT, Int.reduceLE, Int.reduceAdd, Int.reduceSub, Int.reduceEq, reduceIte, Nat.reduceBNe, Int.reducePow, Nat.reducePow, Int.reduceMul, Int.reduceNeg, isB_i, isB_b, isB_y, isBv_i, isBv_b, eqCells_t, TT]
  have g1 := heldV_in base
  have g2 := heldV_in most
  unfold waitV
  generalize heldV base = b0 at *
  generalize heldV most = top at *
  refine loop_any cx_ok 400 (fun μ σ => ∃ (i b : Nat), μ = (tr - i).toNat ∧ 1 ≤ i ∧ b ≤ 2251799813685248 ∧ dbl top (tr - i).toNat b = dbl top (tr - 1).toNat b0 ∧
      σ = ⟨⟨10, 0⟩, [(0, .c (i64 base)), (1, .c (i64 most)), (2, .c (i64 tr)), (7, .c (i64 b)), (8, .c (i64 top)), (9, .c (i64 i))], []⟩) (tr - 1).toNat
    ⟨⟨10, 0⟩, [(0, .c (i64 base)), (1, .c (i64 most)), (2, .c (i64 tr)), (7, .c (i64 b0)), (8, .c (i64 top)), (9, .c (i64 (1 : Nat)))], []⟩ ⟨1, b0, rfl, Nat.le_refl _, by omega, rfl, rfl⟩
    (.inl ⟨rfl, rfl, rfl, rfl, rfl, rfl, rfl, rfl, trivial⟩) ?_
  rintro μ σ ⟨i, b, rfl, hi, hb, hd, rfl⟩
  by_cases h1 : (i : Int) < tr
  · have d1 : decide ((i : Int) < tr) = true := by simpa using h1
    obtain ⟨k, hk⟩ : ∃ k, (tr - i).toNat = k + 1 := ⟨(tr - i).toNat - 1, by omega⟩
    have hk' : (tr - ((i + 1 : Nat) : Int)).toNat = k := by omega
    rw [hk] at hd
    by_cases h2 : b < top
    · have d2 : decide ((b : Int) < (top : Int)) = true := by simp only [decide_eq_true_eq]; omega
      have e1 : IntKind.i64.wrap ((b : Int) * 2) = ((b * 2 : Nat) : Int) := by rw [w64] <;> omega
      have e2 : IntKind.i64.wrap ((i : Int) + 1) = ((i + 1 : Nat) : Int) := by rw [w64] <;> omega
      simp (maxSteps := 4000000) only [Try.results19, d1, d2, e1, e2, XX, Nat.reduceBEq, Nat.reduceLT, Nat.reduceAdd, Nat.reduceMul, Nat.reduceSub, Nat.reduceLeDiff, Nat.reduceEqDiff, Int.reduceToNat, Int.reduceLT, Int.reduceLE, Int.reduceAdd, Int.reduceSub, Int.reduceEq, reduceIte, Nat.reduceBNe, Int.reducePow, Nat.reducePow, Int.reduceMul, Int.reduceNeg, isB_i, isB_b, isB_y, isBv_i, isBv_b, eqCells_t, TT]
      rw [dbl, if_pos h2] at hd
      exact ⟨k, by omega, _, ⟨i + 1, b * 2, hk'.symm, by omega, by omega, by rw [hk']; exact hd, rfl⟩, .inl ⟨rfl, rfl, rfl, rfl, rfl, rfl, rfl, rfl, trivial⟩⟩
    · have d2 : decide ((b : Int) < (top : Int)) = false := by simp only [decide_eq_false_iff_not]; omega
      rw [dbl_top h2] at hd
      simp (maxSteps := 4000000) only [Try.results19, d1, d2, XX, Nat.reduceBEq, Nat.reduceLT, Nat.reduceAdd, Nat.reduceMul, Nat.reduceSub, Nat.reduceLeDiff, Nat.reduceEqDiff, Int.reduceToNat, Int.reduceLT, Int.reduceLE, Int.reduceAdd, Int.reduceSub, Int.reduceEq, reduceIte, Nat.reduceBNe, Int.reducePow, Nat.reducePow, Int.reduceMul, Int.reduceNeg, isB_i, isB_b, isB_y, isBv_i, isBv_b, eqCells_t, TT]
      rw [hd]
      congr 4
      split <;> omega
  · have d1 : decide ((i : Int) < tr) = false := by simpa using h1
    have hk : (tr - i).toNat = 0 := by omega
    rw [hk] at hd
    simp (maxSteps := 4000000) only [Try.results19, d1, XX, Nat.reduceBEq, Nat.reduceLT, Nat.reduceAdd, Nat.reduceMul, Nat.reduceSub, Nat.reduceLeDiff, Nat.reduceEqDiff, Int.reduceToNat, Int.reduceLT, Int.reduceLE, Int.reduceAdd, Int.reduceSub, Int.reduceEq, reduceIte, Nat.reduceBNe, Int.reducePow, Nat.reducePow, Int.reduceMul, Int.reduceNeg, isB_i, isB_b, isB_y, isBv_i, isBv_b, eqCells_t, TT]
    rw [dbl] at hd
    rw [hd]
    congr 4
    split <;> omega

theorem backoff1_spec (H : List SB) (a n w : Nat) (hw : w ≤ 1125899906842624) (hn : n < 4294967296) (ha : H[a]? = some ⟨true, 3, [i64 w]⟩) : Spec cx.P 29 [.c (u64 n), .c (.ptr a 0)] H fun t h' => t = .c (i64 ((w - w / 4 + n % (w / 2 + 1) : Nat) : Int)) ∧ h' = H := by
  have lta := lt_of ha
  refine spec_of_X cx_ok Try.func29 rfl (by kernel_rfl) (by kernel_rfl) (Nat.le_of_ble_eq_true rfl) 400 4 ?_
  simp (maxSteps := 4000000) only [Try.results29, XX, Nat.reduceBEq, Nat.reduceLT, Nat.reduceAdd, Nat.reduceMul, Nat.reduceSub, Nat.reduceLeDiff, Nat.reduceEqDiff, Int.reduceToNat, Int.reduceLT, Int.reduceLE, Int.reduceAdd, Int.reduceSub, Int.reduceEq, reduceIte, Nat.reduceBNe, Int.reducePow, Nat.reducePow, Int.reduceMul, Int.reduceNeg, isB_i, isB_b, isB_y, isBv_i, isBv_b, eqCells_t, TT]
  obtain ⟨ox, mx⟩ : ∃ o, (maskL [a] 0 H)[a]? = some ⟨o, 3, [i64 w]⟩ := maskL_at ha
  have hok := kept_cons ha rfl kept_nil
  have ltx := lt_of mx
  have e2 : (w : Int).tdiv 2 = ((w / 2 : Nat) : Int) := rfl
  have e4 : (w : Int).tdiv 4 = ((w / 4 : Nat) : Int) := rfl
  have f4 : IntKind.i64.wrap ((w / 4 : Nat) : Int) = ((w / 4 : Nat) : Int) := by rw [w64] <;> omega
  have f2 : IntKind.i64.wrap ((w / 2 : Nat) : Int) = ((w / 2 : Nat) : Int) := by rw [w64] <;> omega
  have f3 : IntKind.i64.wrap (((w / 2 : Nat) : Int) + 1) = ((w / 2 + 1 : Nat) : Int) := by rw [w64] <;> omega
  have f5 : IntKind.u64.wrap ((w / 2 + 1 : Nat) : Int) = ((w / 2 + 1 : Nat) : Int) := by rw [wu64] <;> omega
  have f6 : IntKind.i64.wrap ((w : Int) - ((w / 4 : Nat) : Int)) = ((w - w / 4 : Nat) : Int) := by rw [w64] <;> omega
  have e5 : (n : Int).tmod ((w / 2 + 1 : Nat) : Int) = ((n % (w / 2 + 1) : Nat) : Int) := rfl
  have l5 : n % (w / 2 + 1) ≤ n := Nat.mod_le _ _
  have f7 : IntKind.i64.wrap ((n % (w / 2 + 1) : Nat) : Int) = ((n % (w / 2 + 1) : Nat) : Int) := by rw [w64] <;> omega
  have f8 : IntKind.i64.wrap (((w - w / 4 : Nat) : Int) + ((n % (w / 2 + 1) : Nat) : Int)) = ((w - w / 4 + n % (w / 2 + 1) : Nat) : Int) := by rw [w64] <;> omega
  refine draw_of cx_ok (by kernel_rfl) 400 [a] [(0, true), (1, true), (2, true), (3, true), (4, true), (5, true), (6, true), (7, true), (8, true), (9, true), (10, true), (11, true), (12, true)] (by kernel_rfl) (by first | exact hok | simp [*]) ?_
  simp (maxSteps := 4000000) only [Try.results29, ha, mx, lta, ltx, unL_maskL, e2, e4, f4, f2, f3, f5, f6, e5, f7, f8, XX, Nat.reduceBEq, Nat.reduceLT, Nat.reduceAdd, Nat.reduceMul, Nat.reduceSub, Nat.reduceLeDiff, Nat.reduceEqDiff, Int.reduceToNat, Int.reduceLT, Int.reduceLE, Int.reduceAdd, Int.reduceSub, Int.reduceEq, reduceIte, Nat.reduceBNe, Int.reducePow, Nat.reducePow, Int.reduceMul, Int.reduceNeg, isB_i, isB_b, isB_y, isBv_i, isBv_b, eqCells_t, TT]
  omega

theorem backoff_spec (H : List SB) (i w : Nat) (ow : Bool) (L : List Nat) (D : Dc H i w ow L) (hL : L.headD 0 < 4294967296) (base most tr : Int) (ht : tr < 9223372036854775808) : Spec cx.P 18 [.c (.ptr i 0), .c (i64 base), .c (i64 most), .c (i64 tr)] H fun t h' => t = .c (i64 ((waitV base most tr - waitV base most tr / 4 + L.headD 0 % (waitV base most tr / 2 + 1) : Nat) : Int)) ∧ Dc h' i w ow L.tail ∧ KeepD H h' i := by
  have z0 : (#[] : Array Operand).size = 0 := rfl
  obtain ⟨o', pre', sp', hh1, _, _, _, _⟩ := D.ex
  have lti := lt_of hh1
  have m1 : ∀ n : Int, (if 1125899906842624 < (if 1 > n then 1 else n) then 1125899906842624 else if 1 > n then 1 else n) = (heldV n : Int) := fun n => by
    unfold heldV
    repeat' split
    all_goals omega
  have hset : ∀ (G : List SB) (x v : SB), (G ++ [x]).set G.length v = G ++ [v] := fun G x v => by
    rw [List.set_append_right _ _ (Nat.le_refl _), Nat.sub_self]; rfl
  refine spec_of_X cx_ok Try.func18 rfl (by kernel_rfl) (by kernel_rfl) (Nat.le_of_ble_eq_true rfl) 400 11 ?_
  simp (maxSteps := 4000000) only [Try.results18, XX, Nat.reduceBEq, Nat.reduceLT, Nat.reduceAdd, Nat.reduceMul, Nat.reduceSub, Nat.reduceLeDiff, Nat.reduceEqDiff, Int.reduceToNat, Int.reduceLT, Int.reduceLE, Int.reduceAdd, Int.reduceSub, Int.reduceEq, reduceIte, Nat.reduceBNe, Int.reducePow, Nat.reducePow, Int.reduceMul, Int.reduceNeg, isB_i, isB_b, isB_y, isBv_i, isBv_b, eqCells_t, TT]
  simp only [m1]
  simp (maxSteps := 4000000) only [Try.results18, hset, m1, List.append_assoc, List.getElem?_append_left, List.getElem?_append_right, List.length_append, List.length_set, List.set_append_left, gset, List.getElem?_set_ne, Nat.add_sub_cancel_left, Nat.sub_self, Nat.le_refl, Nat.le_add_right, List.replicate_one, List.flatten_cons, List.flatten_nil, rep_flat, XX, Nat.reduceBEq, Nat.reduceLT, Nat.reduceAdd, Nat.reduceMul, Nat.reduceSub, Nat.reduceLeDiff, Nat.reduceEqDiff, Int.reduceToNat, Int.reduceLT, Int.reduceLE, Int.reduceAdd, Int.reduceSub, Int.reduceEq, reduceIte, Nat.reduceBNe, Int.reducePow, Nat.reducePow, Int.reduceMul, Int.reduceNeg, isB_i, isB_b, isB_y, isBv_i, isBv_b, eqCells_t, TT]
  have g1 := heldV_in base
  have g2 := heldV_in most
  have g3 := waitV_in base most tr
  have hW : waitV base most tr = min (dbl (heldV most) (tr - 1).toNat (heldV base)) (heldV most) := rfl
  generalize heldV base = b0 at *
  generalize heldV most = top at *
  generalize waitV base most tr = W at *
  refine loop_any cx_ok 400 (fun μ σ => ∃ (j b : Nat), μ = (tr - j).toNat ∧ 1 ≤ j ∧ b ≤ 2251799813685248 ∧ dbl top (tr - j).toNat b = dbl top (tr - 1).toNat b0 ∧
      σ = ⟨⟨11, H.length⟩, [(0, .c (.ptr i 0)), (1, .c (i64 base)), (2, .c (i64 top)), (3, .c (i64 tr)), (9, .c (.ptr H.length 0)), (10, .c (i64 j))], H ++ [⟨true, 3, [i64 b]⟩]⟩) (tr - 1).toNat
    ⟨⟨11, H.length⟩, [(0, .c (.ptr i 0)), (1, .c (i64 base)), (2, .c (i64 top)), (3, .c (i64 tr)), (9, .c (.ptr H.length 0)), (10, .c (i64 (1 : Nat)))], H ++ [⟨true, 3, [i64 b0]⟩]⟩ ⟨1, b0, rfl, Nat.le_refl _, by omega, rfl, rfl⟩
    (.inl ⟨rfl, rfl, rfl, rfl, rfl, rfl, rfl, rfl, trivial⟩) ?_
  rintro μ σ ⟨j, b, rfl, hi, hb, hd, rfl⟩
  have tailG : b = dbl top (tr - 1).toNat b0 → (if (top : Int) < (b : Int) then (top : Int) else (b : Int)) = (W : Int) := fun h => by
    rw [← h] at hW
    split <;> omega
  by_cases h1 : (j : Int) < tr
  · have d1 : decide ((j : Int) < tr) = true := by simpa using h1
    obtain ⟨k, hk⟩ : ∃ k, (tr - j).toNat = k + 1 := ⟨(tr - j).toNat - 1, by omega⟩
    have hk' : (tr - ((j + 1 : Nat) : Int)).toNat = k := by omega
    rw [hk] at hd
    by_cases h2 : b < top
    · have d2 : decide ((b : Int) < (top : Int)) = true := by simp only [decide_eq_true_eq]; omega
      have e1 : IntKind.i64.wrap ((b : Int) * 2) = ((b * 2 : Nat) : Int) := by rw [w64] <;> omega
      have e2 : IntKind.i64.wrap ((j : Int) + 1) = ((j + 1 : Nat) : Int) := by rw [w64] <;> omega
      simp (maxSteps := 4000000) only [Try.results18, d1, d2, e1, e2, hset, List.append_assoc, List.getElem?_append_left, List.getElem?_append_right, List.length_append, List.length_set, List.set_append_left, gset, List.getElem?_set_ne, Nat.add_sub_cancel_left, Nat.sub_self, Nat.le_refl, Nat.le_add_right, List.replicate_one, List.flatten_cons, List.flatten_nil, rep_flat, XX, Nat.reduceBEq, Nat.reduceLT, Nat.reduceAdd, Nat.reduceMul, Nat.reduceSub, Nat.reduceLeDiff, Nat.reduceEqDiff, Int.reduceToNat, Int.reduceLT, Int.reduceLE, Int.reduceAdd, Int.reduceSub, Int.reduceEq, reduceIte, Nat.reduceBNe, Int.reducePow, Nat.reducePow, Int.reduceMul, Int.reduceNeg, isB_i, isB_b, isB_y, isBv_i, isBv_b, eqCells_t, TT]
      rw [dbl, if_pos h2] at hd
      exact ⟨k, by omega, _, ⟨j + 1, b * 2, hk'.symm, by omega, by omega, by rw [hk']; exact hd, rfl⟩, .inl ⟨rfl, rfl, rfl, rfl, rfl, rfl, rfl, rfl, trivial⟩⟩
    · have d2 : decide ((b : Int) < (top : Int)) = false := by simp only [decide_eq_false_iff_not]; omega
      rw [dbl_top h2] at hd
      have eW := tailG hd
      simp (maxSteps := 4000000) only [Try.results18, d1, d2, hset, eW, z0, List.append_assoc, List.getElem?_append_left, List.getElem?_append_right, List.length_append, List.length_set, List.set_append_left, gset, List.getElem?_set_ne, Nat.add_sub_cancel_left, Nat.sub_self, Nat.le_refl, Nat.le_add_right, List.replicate_one, List.flatten_cons, List.flatten_nil, rep_flat, XX, Nat.reduceBEq, Nat.reduceLT, Nat.reduceAdd, Nat.reduceMul, Nat.reduceSub, Nat.reduceLeDiff, Nat.reduceEqDiff, Int.reduceToNat, Int.reduceLT, Int.reduceLE, Int.reduceAdd, Int.reduceSub, Int.reduceEq, reduceIte, Nat.reduceBNe, Int.reducePow, Nat.reducePow, Int.reduceMul, Int.reduceNeg, isB_i, isB_b, isB_y, isBv_i, isBv_b, eqCells_t, TT]
      refine call_is (made_spec _ i w ow L (D.app _) hL _ [(H.length, 0)] _ fun H' off => backoff1_spec H' H.length _ W (by omega) hL ?_) ?_
      · rw [off.2 _ (by omega), List.getElem?_append_right (Nat.le_refl _), Nat.sub_self]; rfl
      rintro _ H' ⟨rfl, D', off⟩
      simp (maxSteps := 4000000) only [Try.results18, XX, Nat.reduceBEq, Nat.reduceLT, Nat.reduceAdd, Nat.reduceMul, Nat.reduceSub, Nat.reduceLeDiff, Nat.reduceEqDiff, Int.reduceToNat, Int.reduceLT, Int.reduceLE, Int.reduceAdd, Int.reduceSub, Int.reduceEq, reduceIte, Nat.reduceBNe, Int.reducePow, Nat.reducePow, Int.reduceMul, Int.reduceNeg, isB_i, isB_b, isB_y, isBv_i, isBv_b, eqCells_t, TT]
      exact ⟨D', KeepD.of off⟩
  · have d1 : decide ((j : Int) < tr) = false := by simpa using h1
    have hk : (tr - j).toNat = 0 := by omega
    rw [hk] at hd
    rw [dbl] at hd
    have eW := tailG hd
    simp (maxSteps := 4000000) only [Try.results18, d1, hset, eW, z0, List.append_assoc, List.getElem?_append_left, List.getElem?_append_right, List.length_append, List.length_set, List.set_append_left, gset, List.getElem?_set_ne, Nat.add_sub_cancel_left, Nat.sub_self, Nat.le_refl, Nat.le_add_right, List.replicate_one, List.flatten_cons, List.flatten_nil, rep_flat, XX, Nat.reduceBEq, Nat.reduceLT, Nat.reduceAdd, Nat.reduceMul, Nat.reduceSub, Nat.reduceLeDiff, Nat.reduceEqDiff, Int.reduceToNat, Int.reduceLT, Int.reduceLE, Int.reduceAdd, Int.reduceSub, Int.reduceEq, reduceIte, Nat.reduceBNe, Int.reducePow, Nat.reducePow, Int.reduceMul, Int.reduceNeg, isB_i, isB_b, isB_y, isBv_i, isBv_b, eqCells_t, TT]
    refine call_is (made_spec _ i w ow L (D.app _) hL _ [(H.length, 0)] _ fun H' off => backoff1_spec H' H.length _ W (by omega) hL ?_) ?_
    · rw [off.2 _ (by omega), List.getElem?_append_right (Nat.le_refl _), Nat.sub_self]; rfl
    rintro _ H' ⟨rfl, D', off⟩
    simp (maxSteps := 4000000) only [Try.results18, XX, Nat.reduceBEq, Nat.reduceLT, Nat.reduceAdd, Nat.reduceMul, Nat.reduceSub, Nat.reduceLeDiff, Nat.reduceEqDiff, Int.reduceToNat, Int.reduceLT, Int.reduceLE, Int.reduceAdd, Int.reduceSub, Int.reduceEq, reduceIte, Nat.reduceBNe, Int.reducePow, Nat.reducePow, Int.reduceMul, Int.reduceNeg, isB_i, isB_b, isB_y, isBv_i, isBv_b, eqCells_t, TT]
    exact ⟨D', KeepD.of off⟩

end Go.Proofs.Ytniednekfnfhmaa.Sx
