/- The symbolic executor, at work: refusals, loans, sameness. No condition. -/
import Derived.Test.YtfpjabhlfjkhfaaI4e
import Derived.Test.YtfpjabhlfjkhfaaArg
import Derived.Test.YtfpjabhlfjkhfaaOw
namespace Go.Proofs.Ytfpjabhlfjkhfaa.Sx
open Go
set_option linter.unusedSimpArgs false
set_option linter.unusedVariables false
set_option linter.unusedSectionVars false
set_option maxRecDepth 10000
set_option maxHeartbeats 2000000

/-- One message alone. -/
def resG (k c : Int) (r : Nat) (l : List UInt8) (t : SV) (h' : List SB) : Prop := ∃ sp o, t = .agg (icC k c r (slB 0 l sp)) ∧ h' = [wB o (l ++ sp)] ∧ (0 < l.length + sp.length → o = true)
theorem resG_noRo {k c : Int} {r : Nat} {l : List UInt8} {t : SV} {h' : List SB} (h : resG k c r l t h') : t.noRo = true ∧ (h'.all fun b => b.cells.all SC.noRo) = true := by
  obtain ⟨sp, o, rfl, rfl, _⟩ := h
  exact ⟨rfl, by simp only [XX, Nat.reduceBEq, Nat.reduceLT, Nat.reduceAdd, Nat.reduceMul, Nat.reduceSub, Nat.reduceLeDiff, Nat.reduceEqDiff, Int.reduceToNat, Int.reduceLT, Int.reduceLE, Int.reduceAdd, Int.reduceSub, Int.reduceEq, reduceIte, Nat.reduceBNe, Int.reducePow, Nat.reducePow, Int.reduceMul, Int.reduceNeg, isB_i, isB_b, isB_y, isBv_i, isBv_b, eqCells_t, TT, ids_bsC, ren_bsC, noRo_bsC, plain_bsC, lt_bsC, ids_byte, ren_byte, noRo_byte, plain_byte, lt_byte]⟩
theorem resG_of {P : Program} {f : FuncId} {args : List SV} {k c : Int} {r : Nat} {l : List UInt8} (s : Spec P f args [] fun s h' => ∃ w sp o, s = .agg (icC k c r (slB w l sp)) ∧ Buf h' w o l sp) : Spec P f args [] (resG k c r l) :=
  s.wk fun t h' ⟨w, sp, o, h1, b⟩ => ⟨.agg (icC k c r (slB 0 l sp)), [wB o (l ++ sp)], [some w], rfl, by simp only [XX, Nat.reduceBEq, Nat.reduceLT, Nat.reduceAdd, Nat.reduceMul, Nat.reduceSub, Nat.reduceLeDiff, Nat.reduceEqDiff, Int.reduceToNat, Int.reduceLT, Int.reduceLE, Int.reduceAdd, Int.reduceSub, Int.reduceEq, reduceIte, Nat.reduceBNe, Int.reducePow, Nat.reducePow, Int.reduceMul, Int.reduceNeg, isB_i, isB_b, isB_y, isBv_i, isBv_b, eqCells_t, TT, ids_bsC, ren_bsC, noRo_bsC, plain_bsC, lt_bsC, ids_byte, ren_byte, noRo_byte, plain_byte, lt_byte, b.at_], by subst h1; simp only [XX, Nat.reduceBEq, Nat.reduceLT, Nat.reduceAdd, Nat.reduceMul, Nat.reduceSub, Nat.reduceLeDiff, Nat.reduceEqDiff, Int.reduceToNat, Int.reduceLT, Int.reduceLE, Int.reduceAdd, Int.reduceSub, Int.reduceEq, reduceIte, Nat.reduceBNe, Int.reducePow, Nat.reducePow, Int.reduceMul, Int.reduceNeg, isB_i, isB_b, isB_y, isBv_i, isBv_b, eqCells_t, TT, ids_bsC, ren_bsC, noRo_bsC, plain_bsC, lt_bsC, ids_byte, ren_byte, noRo_byte, plain_byte, lt_byte], sp, o, rfl, rfl, b.own⟩

theorem min28 (l : List UInt8) : (if 28 < (l.length : Int) then 28 else (l.length : Int)).toNat = (l.take 28).length ∧ (0 : Int) ≤ (if 28 < (l.length : Int) then 28 else (l.length : Int)) ∧ (if 28 < (l.length : Int) then 28 else (l.length : Int)) ≤ (l.length : Int) := by
  simp only [List.length_take]
  split <;> omega
theorem tk28 (l sp : List UInt8) : bsR (l ++ sp) = bsR (l.take 28 ++ (l.drop 28 ++ sp)) := by rw [← List.append_assoc, List.take_append_drop]

theorem refuse_spec (c : Int) (l sp : List UInt8) (cp : Nat) (hc : l.length ≤ cp) (hl : l.length ≤ 140737488355328) : Spec cx.P 20 [.c (i64 c), .c (roB l sp cp)] [] (resG 3 c 0 (l.take 28)) := by
  refine resG_of ?_
  obtain ⟨m1, m2, m3⟩ := min28 l
  have p := cloneA_spec (l.take 28) (l.drop 28 ++ sp) cp (by simp; omega) (by simp; omega)
  refine spec_of_X cx_ok Try.func20 rfl (by kernel_rfl) (by kernel_rfl) (Nat.le_of_ble_eq_true rfl) 400 5 ?_
  simp (maxSteps := 4000000) only [Try.results20, XX, Nat.reduceBEq, Nat.reduceLT, Nat.reduceAdd, Nat.reduceMul, Nat.reduceSub, Nat.reduceLeDiff, Nat.reduceEqDiff, Int.reduceToNat, Int.reduceLT, Int.reduceLE, Int.reduceAdd, Int.reduceSub, Int.reduceEq, reduceIte, Nat.reduceBNe, Int.reducePow, Nat.reducePow, Int.reduceMul, Int.reduceNeg, isB_i, isB_b, isB_y, isBv_i, isBv_b, eqCells_t, TT]
  rw [m1, tk28]
  refine ⟨⟨m2, by omega, by omega⟩, ?_⟩
  refine call_fz [.c (roB (l.take 28) (l.drop 28 ++ sp) cp)] p (fun t h' h => resS_noRo h) ⟨.inl ⟨rfl, rfl⟩, trivial⟩ ?_
  rintro _ _ ⟨z, o, rfl, rfl, ho⟩
  simp (maxSteps := 4000000) only [Try.results20, ids_bsC, ren_bsC, noRo_bsC, plain_bsC, lt_bsC, ids_byte, ren_byte, noRo_byte, plain_byte, lt_byte, XX, Nat.reduceBEq, Nat.reduceLT, Nat.reduceAdd, Nat.reduceMul, Nat.reduceSub, Nat.reduceLeDiff, Nat.reduceEqDiff, Int.reduceToNat, Int.reduceLT, Int.reduceLE, Int.reduceAdd, Int.reduceSub, Int.reduceEq, reduceIte, Nat.reduceBNe, Int.reducePow, Nat.reducePow, Int.reduceMul, Int.reduceNeg, isB_i, isB_b, isB_y, isBv_i, isBv_b, eqCells_t, TT]
  exact ⟨1, z, o, rfl, rfl, ho⟩

theorem rrefuse_spec (c : Int) (l sp : List UInt8) (cp : Nat) (hc : l.length ≤ cp) (hl : l.length ≤ 140737488355328) : Spec cx.P 22 [.c (i64 c), .c (roB l sp cp)] [] (resG 3 c 0 (l.take 28)) := by
  refine resG_of ?_
  obtain ⟨m1, m2, m3⟩ := min28 l
  have p : Spec cx.P 32 [.c (.v (.slice none 0 0)), .c (roB (l.take 28) (l.drop 28 ++ sp) cp)] [] (resS (l.take 28)) := resS_of (addNR _ _ cp (by simp; omega))
  refine spec_of_X cx_ok Try.func22 rfl (by kernel_rfl) (by kernel_rfl) (Nat.le_of_ble_eq_true rfl) 400 6 ?_
  simp (maxSteps := 4000000) only [Try.results22, XX, Nat.reduceBEq, Nat.reduceLT, Nat.reduceAdd, Nat.reduceMul, Nat.reduceSub, Nat.reduceLeDiff, Nat.reduceEqDiff, Int.reduceToNat, Int.reduceLT, Int.reduceLE, Int.reduceAdd, Int.reduceSub, Int.reduceEq, reduceIte, Nat.reduceBNe, Int.reducePow, Nat.reducePow, Int.reduceMul, Int.reduceNeg, isB_i, isB_b, isB_y, isBv_i, isBv_b, eqCells_t, TT]
  rw [m1, tk28]
  refine ⟨⟨m2, by omega, by omega⟩, ?_⟩
  refine call_fz [.c (.v (.slice none 0 0)), .c (roB (l.take 28) (l.drop 28 ++ sp) cp)] p (fun t h' h => resS_noRo h) ⟨.inl ⟨rfl, rfl⟩, .inl ⟨rfl, rfl⟩, trivial⟩ ?_
  rintro _ _ ⟨z, o, rfl, rfl, ho⟩
  simp (maxSteps := 4000000) only [Try.results22, ids_bsC, ren_bsC, noRo_bsC, plain_bsC, lt_bsC, ids_byte, ren_byte, noRo_byte, plain_byte, lt_byte, XX, Nat.reduceBEq, Nat.reduceLT, Nat.reduceAdd, Nat.reduceMul, Nat.reduceSub, Nat.reduceLeDiff, Nat.reduceEqDiff, Int.reduceToNat, Int.reduceLT, Int.reduceLE, Int.reduceAdd, Int.reduceSub, Int.reduceEq, reduceIte, Nat.reduceBNe, Int.reducePow, Nat.reducePow, Int.reduceMul, Int.reduceNeg, isB_i, isB_b, isB_y, isBv_i, isBv_b, eqCells_t, TT]
  exact ⟨1, z, o, rfl, rfl, ho⟩

theorem isame_spec (k c k' c' : Int) (r r' : Nat) (l l' z z' : List UInt8) (cp cp' : Nat) : Spec cx.P 18 [.agg (icC k c r (roB l z cp)), .agg (icC k' c' r' (roB l' z' cp'))] [] fun s _ => s.plain = true ∧ s = .c (bC (decide (k = k') && decide (c = c') && decide (r = r') && decide (l = l'))) := by
  have m9 : ∀ l sp : List UInt8, (bsR (l ++ sp)).take l.length = bsR l := fun l sp => by rw [rs_take, List.take_left' rfl]
  have e : decide ((r : Int) = (r' : Int)) = decide (r = r') := by rw [decide_eq_decide]; exact Int.ofNat_inj
  refine spec_of_X cx_ok Try.func18 rfl (by kernel_rfl) (by kernel_rfl) (Nat.le_of_ble_eq_true rfl) 400 5 ?_
  simp (maxSteps := 4000000) only [Try.results18, XX, Nat.reduceBEq, Nat.reduceLT, Nat.reduceAdd, Nat.reduceMul, Nat.reduceSub, Nat.reduceLeDiff, Nat.reduceEqDiff, Int.reduceToNat, Int.reduceLT, Int.reduceLE, Int.reduceAdd, Int.reduceSub, Int.reduceEq, reduceIte, Nat.reduceBNe, Int.reducePow, Nat.reducePow, Int.reduceMul, Int.reduceNeg, isB_i, isB_b, isB_y, isBv_i, isBv_b, eqCells_t, TT]
  cases h1 : decide (k = k')
  · simp (maxSteps := 4000000) only [Try.results18, h1, XX, Nat.reduceBEq, Nat.reduceLT, Nat.reduceAdd, Nat.reduceMul, Nat.reduceSub, Nat.reduceLeDiff, Nat.reduceEqDiff, Int.reduceToNat, Int.reduceLT, Int.reduceLE, Int.reduceAdd, Int.reduceSub, Int.reduceEq, reduceIte, Nat.reduceBNe, Int.reducePow, Nat.reducePow, Int.reduceMul, Int.reduceNeg, isB_i, isB_b, isB_y, isBv_i, isBv_b, eqCells_t, TT]
  · cases h2 : decide (c = c')
    · simp (maxSteps := 4000000) only [Try.results18, h1, h2, XX, Nat.reduceBEq, Nat.reduceLT, Nat.reduceAdd, Nat.reduceMul, Nat.reduceSub, Nat.reduceLeDiff, Nat.reduceEqDiff, Int.reduceToNat, Int.reduceLT, Int.reduceLE, Int.reduceAdd, Int.reduceSub, Int.reduceEq, reduceIte, Nat.reduceBNe, Int.reducePow, Nat.reducePow, Int.reduceMul, Int.reduceNeg, isB_i, isB_b, isB_y, isBv_i, isBv_b, eqCells_t, TT]
    · cases h3 : decide (r = r')
      · simp (maxSteps := 4000000) only [Try.results18, h1, h2, e, h3, XX, Nat.reduceBEq, Nat.reduceLT, Nat.reduceAdd, Nat.reduceMul, Nat.reduceSub, Nat.reduceLeDiff, Nat.reduceEqDiff, Int.reduceToNat, Int.reduceLT, Int.reduceLE, Int.reduceAdd, Int.reduceSub, Int.reduceEq, reduceIte, Nat.reduceBNe, Int.reducePow, Nat.reducePow, Int.reduceMul, Int.reduceNeg, isB_i, isB_b, isB_y, isBv_i, isBv_b, eqCells_t, TT]
      · simp (maxSteps := 4000000) only [Try.results18, h1, h2, e, h3, m9, bsR_toSC, strOf_bsC, str_eq, XX, Nat.reduceBEq, Nat.reduceLT, Nat.reduceAdd, Nat.reduceMul, Nat.reduceSub, Nat.reduceLeDiff, Nat.reduceEqDiff, Int.reduceToNat, Int.reduceLT, Int.reduceLE, Int.reduceAdd, Int.reduceSub, Int.reduceEq, reduceIte, Nat.reduceBNe, Int.reducePow, Nat.reducePow, Int.reduceMul, Int.reduceNeg, isB_i, isB_b, isB_y, isBv_i, isBv_b, eqCells_t, TT]
        exact ⟨⟨by simp, isByte_bsC l⟩, by simp, isByte_bsC l'⟩

theorem ilent_spec (k c : Int) (r : Nat) (l sp : List UInt8) (cp : Nat) (hl : l.length ≤ 140737488355328) : Spec cx.P 9 [.agg (icC k c r (roB l sp cp))] [] fun t h' => t = .agg (icC k c r (.sl 0 0 l.length (l.length + 2))) ∧ h' = [wB true (l ++ [71, 72])] := by
  refine Spec.wk (K := fun t h' => t = .agg (icC k c r (.sl 2 0 l.length (l.length + 2))) ∧ h'[2]? = some (wB true (l ++ [71, 72]))) ?_ fun t h' ⟨h1, h2⟩ => ⟨.agg (icC k c r (.sl 0 0 l.length (l.length + 2))), [wB true (l ++ [71, 72])], [some 2], rfl, by simp only [XX, Nat.reduceBEq, Nat.reduceLT, Nat.reduceAdd, Nat.reduceMul, Nat.reduceSub, Nat.reduceLeDiff, Nat.reduceEqDiff, Int.reduceToNat, Int.reduceLT, Int.reduceLE, Int.reduceAdd, Int.reduceSub, Int.reduceEq, reduceIte, Nat.reduceBNe, Int.reducePow, Nat.reducePow, Int.reduceMul, Int.reduceNeg, isB_i, isB_b, isB_y, isBv_i, isBv_b, eqCells_t, TT, ids_bsC, ren_bsC, noRo_bsC, plain_bsC, lt_bsC, ids_byte, ren_byte, noRo_byte, plain_byte, lt_byte, h2], by subst h1; simp only [XX, Nat.reduceBEq, Nat.reduceLT, Nat.reduceAdd, Nat.reduceMul, Nat.reduceSub, Nat.reduceLeDiff, Nat.reduceEqDiff, Int.reduceToNat, Int.reduceLT, Int.reduceLE, Int.reduceAdd, Int.reduceSub, Int.reduceEq, reduceIte, Nat.reduceBNe, Int.reducePow, Nat.reducePow, Int.reduceMul, Int.reduceNeg, isB_i, isB_b, isB_y, isBv_i, isBv_b, eqCells_t, TT, ids_bsC, ren_bsC, noRo_bsC, plain_bsC, lt_bsC, ids_byte, ren_byte, noRo_byte, plain_byte, lt_byte], rfl, rfl⟩
  refine spec_of_X cx_ok Try.func9 rfl (by kernel_rfl) (by kernel_rfl) (Nat.le_of_ble_eq_true rfl) 400 3 ?_
  simp (maxSteps := 4000000) only [Try.results9, XX, Nat.reduceBEq, Nat.reduceLT, Nat.reduceAdd, Nat.reduceMul, Nat.reduceSub, Nat.reduceLeDiff, Nat.reduceEqDiff, Int.reduceToNat, Int.reduceLT, Int.reduceLE, Int.reduceAdd, Int.reduceSub, Int.reduceEq, reduceIte, Nat.reduceBNe, Int.reducePow, Nat.reducePow, Int.reduceMul, Int.reduceNeg, isB_i, isB_b, isB_y, isBv_i, isBv_b, eqCells_t, TT]
  refine call_fz [.c (roB l sp cp)] (lent_spec l sp cp (by omega)) (fun t h' h => by obtain ⟨rfl, rfl⟩ := h; exact ⟨rfl, by simp only [XX, Nat.reduceBEq, Nat.reduceLT, Nat.reduceAdd, Nat.reduceMul, Nat.reduceSub, Nat.reduceLeDiff, Nat.reduceEqDiff, Int.reduceToNat, Int.reduceLT, Int.reduceLE, Int.reduceAdd, Int.reduceSub, Int.reduceEq, reduceIte, Nat.reduceBNe, Int.reducePow, Nat.reducePow, Int.reduceMul, Int.reduceNeg, isB_i, isB_b, isB_y, isBv_i, isBv_b, eqCells_t, TT, ids_bsC, ren_bsC, noRo_bsC, plain_bsC, lt_bsC, ids_byte, ren_byte, noRo_byte, plain_byte, lt_byte]⟩) ⟨.inl ⟨rfl, rfl⟩, trivial⟩ ?_
  rintro _ _ ⟨rfl, rfl⟩
  simp (maxSteps := 4000000) only [Try.results9, ids_bsC, ren_bsC, noRo_bsC, plain_bsC, lt_bsC, ids_byte, ren_byte, noRo_byte, plain_byte, lt_byte, XX, Nat.reduceBEq, Nat.reduceLT, Nat.reduceAdd, Nat.reduceMul, Nat.reduceSub, Nat.reduceLeDiff, Nat.reduceEqDiff, Int.reduceToNat, Int.reduceLT, Int.reduceLE, Int.reduceAdd, Int.reduceSub, Int.reduceEq, reduceIte, Nat.reduceBNe, Int.reducePow, Nat.reducePow, Int.reduceMul, Int.reduceNeg, isB_i, isB_b, isB_y, isBv_i, isBv_b, eqCells_t, TT]

end Go.Proofs.Ytfpjabhlfjkhfaa.Sx
