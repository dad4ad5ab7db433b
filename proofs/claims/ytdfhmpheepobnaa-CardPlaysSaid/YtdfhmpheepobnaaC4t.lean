/- The symbolic executor, at work: both cards at the end. No condition. -/
import Derived.Test.YtdfhmpheepobnaaC4s
namespace Go.Proofs.Ytdfhmpheepobnaa.Sx
open Go
set_option linter.unusedSimpArgs false
set_option linter.unusedVariables false
set_option maxRecDepth 10000
set_option maxHeartbeats 2000000

section
variable {S : Nat → Prop} {H : List SB} {p c w1 w2 rc rr rt bk : Nat} {k : CK} {es : List OE}

/-- Behind some calls: they stand alike. -/
def Runs (S : Nat → Prop) (H : List SB) (c w1 w2 rc rr rt bk : Nat) (es : List OE) (n : Nat) (h' : List SB) (S' : Nat → Prop) (k' : CK) (es' : List OE) : Prop :=
  J4 S' h' c w1 w2 rc rr rt bk k' k' es' ∧ k'.ok ∧ Kp (X6 c w1 w2 rc rr rt) H h' ∧ (∀ i, S i → S' i) ∧ (∀ i, S' i → S i ∨ H.length ≤ i) ∧ es'.length ≤ es.length + n
theorem Runs.zero (J : J4 S H c w1 w2 rc rr rt bk k k es) (ok : k.ok) : Runs S H c w1 w2 rc rr rt bk es 0 H S k es := ⟨J, ok, Kp.rfl' _, fun _ h => h, fun _ h => .inl h, Nat.le_refl _⟩
theorem Runs.step {n : Nat} {H1 h' : List SB} {S1 : Nat → Prop} {k1 : CK} {es1 : List OE} {t : SV} (R : Runs S H c w1 w2 rc rr rt bk es n H1 S1 k1 es1) (P : StepP S1 H1 c w1 w2 rc rr rt bk es1 t h') : t = .c (bC true) ∧ ∃ S2 k2 es2, Runs S H c w1 w2 rc rr rt bk es (n + 1) h' S2 k2 es2 := by
  obtain ⟨J, ok, K, s1, s2, l⟩ := R
  obtain ⟨ht, S2, k2, es2, J2, ok2, K2, q1, q2, l2⟩ := P
  exact ⟨ht, S2, k2, es2, J2, ok2, K.trans K2, fun i h => q1 i (s1 i h), fun i h => (q2 i h).elim (s2 i) fun h => .inr (Nat.le_trans K.1 h), by omega⟩
theorem Kp.pair {H1 : List SB} (K : Kp (X6 c w1 w2 rc rr rt) H H1) (hp : H[p]? = some (pairB c rc bk)) (np : ¬ X6 c w1 w2 rc rr rt p) : H1[p]? = some (pairB c rc bk) :=
  K.2 p _ hp np (by decide : (55 : Nat) ≠ _) (by decide : (55 : Nat) ≠ _) (by decide : (55 : Nat) ≠ _)

theorem last_spec (J : J4 S H c w1 w2 rc rr rt bk k k es) (ok : k.ok) (hp : H[p]? = some (pairB c rc bk)) (hn : es.length ≤ 4398046510000) : Spec cx.P 18 [.c (.ptr p 0)] H fun t h' => t = .c (bC true) ∧ ∃ S' k' es', Runs S H c w1 w2 rc rr rt bk es 200 h' S' k' es' := by
  have np := x6_p J hp
  have ltp := lt_of hp
  obtain ⟨lr, lt, cr, ct, R, X, Y⟩ := J.R
  have n1 := R.n1
  have n2 := R.n2
  refine spec_of_X cx_ok Try.func18 rfl (by kernel_rfl) (by kernel_rfl) (Nat.le_of_ble_eq_true rfl) 400 9 ?_
  simp (maxSteps := 4000000) only [Try.results18, XX, Nat.reduceBEq, Nat.reduceLT, Nat.reduceAdd, Nat.reduceMul, Nat.reduceSub, Nat.reduceLeDiff, Nat.reduceEqDiff, Int.reduceToNat, Int.reduceLT, Int.reduceLE, Int.reduceAdd, Int.reduceSub, Int.reduceEq, reduceIte, Nat.reduceBNe, Int.reducePow, Nat.reducePow, Int.reduceMul, Int.reduceNeg, isB_i, isB_b, isB_y, isBv_i, isBv_b, eqCells_t, TT]
  simp (maxSteps := 4000000) only [Try.results18, hp, ltp, XX, Nat.reduceBEq, Nat.reduceLT, Nat.reduceAdd, Nat.reduceMul, Nat.reduceSub, Nat.reduceLeDiff, Nat.reduceEqDiff, Int.reduceToNat, Int.reduceLT, Int.reduceLE, Int.reduceAdd, Int.reduceSub, Int.reduceEq, reduceIte, Nat.reduceBNe, Int.reducePow, Nat.reducePow, Int.reduceMul, Int.reduceNeg, isB_i, isB_b, isB_y, isBv_i, isBv_b, eqCells_t, TT]
  refine call_is (rrings_spec R) ?_
  rintro _ h' ⟨rfl, eh⟩
  rw [eh]
  clear eh h'
  simp (maxSteps := 4000000) only [Try.results18, XX, Nat.reduceBEq, Nat.reduceLT, Nat.reduceAdd, Nat.reduceMul, Nat.reduceSub, Nat.reduceLeDiff, Nat.reduceEqDiff, Int.reduceToNat, Int.reduceLT, Int.reduceLE, Int.reduceAdd, Int.reduceSub, Int.reduceEq, reduceIte, Nat.reduceBNe, Int.reducePow, Nat.reducePow, Int.reduceMul, Int.reduceNeg, isB_i, isB_b, isB_y, isBv_i, isBv_b, eqCells_t, TT]
  refine loop_any cx_ok 400 (fun μ σ => ∃ (i : Nat) (H' : List SB) (S' : Nat → Prop) (k' : CK) (es' : List OE), μ = k.rx.length - i ∧ i ≤ k.rx.length ∧ Runs S H c w1 w2 rc rr rt bk es i H' S' k' es' ∧
      σ = ⟨⟨9, H.length⟩, [(0, .c (.ptr p 0)), (3, .c (i64 k.rx.length)), (4, .c (i64 k.tx.length)), (5, .c (i64 i))], H'⟩) k.rx.length
    ⟨⟨9, H.length⟩, [(0, .c (.ptr p 0)), (3, .c (i64 k.rx.length)), (4, .c (i64 k.tx.length)), (5, .c (i64 (0 : Nat)))], H⟩ ⟨0, _, _, _, _, rfl, Nat.zero_le _, Runs.zero J ok, rfl⟩ (.inl ⟨rfl, rfl, rfl, rfl, rfl, rfl, trivial⟩) ?_
  rintro μ σ ⟨i, H1, S1, k1, es1, rfl, hi, R1, rfl⟩
  by_cases hlt : i < k.rx.length
  · have hd : decide ((i : Int) < (k.rx.length : Int)) = true := by simp only [decide_eq_true_eq]; omega
    have e3 : IntKind.i64.wrap ((i : Int) + 1) = ((i + 1 : Nat) : Int) := by rw [w64] <;> omega
    simp (maxSteps := 4000000) only [Try.results18, hd, XX, Nat.reduceBEq, Nat.reduceLT, Nat.reduceAdd, Nat.reduceMul, Nat.reduceSub, Nat.reduceLeDiff, Nat.reduceEqDiff, Int.reduceToNat, Int.reduceLT, Int.reduceLE, Int.reduceAdd, Int.reduceSub, Int.reduceEq, reduceIte, Nat.reduceBNe, Int.reducePow, Nat.reducePow, Int.reduceMul, Int.reduceNeg, isB_i, isB_b, isB_y, isBv_i, isBv_b, eqCells_t, TT]
    refine call_is (stp3_spec R1.1 R1.2.1 (R1.2.2.1.pair hp np) i _ (by have := R1.2.2.2.2.2; omega)) ?_
    intro s h' P
    obtain ⟨rfl, S2, k2, es2, R2⟩ := R1.step P
    simp (maxSteps := 4000000) only [Try.results18, e3, XX, Nat.reduceBEq, Nat.reduceLT, Nat.reduceAdd, Nat.reduceMul, Nat.reduceSub, Nat.reduceLeDiff, Nat.reduceEqDiff, Int.reduceToNat, Int.reduceLT, Int.reduceLE, Int.reduceAdd, Int.reduceSub, Int.reduceEq, reduceIte, Nat.reduceBNe, Int.reducePow, Nat.reducePow, Int.reduceMul, Int.reduceNeg, isB_i, isB_b, isB_y, isBv_i, isBv_b, eqCells_t, TT]
    exact ⟨k.rx.length - (i + 1), by omega, _, ⟨i + 1, h', S2, k2, es2, rfl, by omega, R2, rfl⟩, .inl ⟨rfl, rfl, rfl, rfl, rfl, rfl, trivial⟩⟩
  obtain rfl : i = k.rx.length := by omega
  have hd : decide ((k.rx.length : Int) < (k.rx.length : Int)) = false := by simp
  simp (maxSteps := 4000000) only [Try.results18, hd, XX, Nat.reduceBEq, Nat.reduceLT, Nat.reduceAdd, Nat.reduceMul, Nat.reduceSub, Nat.reduceLeDiff, Nat.reduceEqDiff, Int.reduceToNat, Int.reduceLT, Int.reduceLE, Int.reduceAdd, Int.reduceSub, Int.reduceEq, reduceIte, Nat.reduceBNe, Int.reducePow, Nat.reducePow, Int.reduceMul, Int.reduceNeg, isB_i, isB_b, isB_y, isBv_i, isBv_b, eqCells_t, TT]
  refine loop_any cx_ok 400 (fun μ σ => ∃ (i : Nat) (H' : List SB) (S' : Nat → Prop) (k' : CK) (es' : List OE), μ = k.tx.length - i ∧ i ≤ k.tx.length ∧ Runs S H c w1 w2 rc rr rt bk es (k.rx.length + i) H' S' k' es' ∧
      σ = ⟨⟨9, H.length⟩, [(0, .c (.ptr p 0)), (3, .c (i64 k.rx.length)), (4, .c (i64 k.tx.length)), (7, .c (i64 i))], H'⟩) k.tx.length
    ⟨⟨9, H.length⟩, [(0, .c (.ptr p 0)), (3, .c (i64 k.rx.length)), (4, .c (i64 k.tx.length)), (7, .c (i64 (0 : Nat)))], H1⟩ ⟨0, _, _, _, _, rfl, Nat.zero_le _, R1, rfl⟩ (.inl ⟨rfl, rfl, rfl, rfl, rfl, rfl, trivial⟩) ?_
  clear hd
  rintro μ σ ⟨i, H2, S2, k2, es2, rfl, hi, R2, rfl⟩
  by_cases hlt : i < k.tx.length
  · have hd : decide ((i : Int) < (k.tx.length : Int)) = true := by simp only [decide_eq_true_eq]; omega
    have e3 : IntKind.i64.wrap ((i : Int) + 1) = ((i + 1 : Nat) : Int) := by rw [w64] <;> omega
    simp (maxSteps := 4000000) only [Try.results18, hd, XX, Nat.reduceBEq, Nat.reduceLT, Nat.reduceAdd, Nat.reduceMul, Nat.reduceSub, Nat.reduceLeDiff, Nat.reduceEqDiff, Int.reduceToNat, Int.reduceLT, Int.reduceLE, Int.reduceAdd, Int.reduceSub, Int.reduceEq, reduceIte, Nat.reduceBNe, Int.reducePow, Nat.reducePow, Int.reduceMul, Int.reduceNeg, isB_i, isB_b, isB_y, isBv_i, isBv_b, eqCells_t, TT]
    refine call_is (stp4_spec R2.1 R2.2.1 (R2.2.2.1.pair hp np) i _ (by have := R2.2.2.2.2.2; omega)) ?_
    intro s h' P
    obtain ⟨rfl, S3, k3, es3, R3⟩ := R2.step P
    simp (maxSteps := 4000000) only [Try.results18, e3, XX, Nat.reduceBEq, Nat.reduceLT, Nat.reduceAdd, Nat.reduceMul, Nat.reduceSub, Nat.reduceLeDiff, Nat.reduceEqDiff, Int.reduceToNat, Int.reduceLT, Int.reduceLE, Int.reduceAdd, Int.reduceSub, Int.reduceEq, reduceIte, Nat.reduceBNe, Int.reducePow, Nat.reducePow, Int.reduceMul, Int.reduceNeg, isB_i, isB_b, isB_y, isBv_i, isBv_b, eqCells_t, TT]
    exact ⟨k.tx.length - (i + 1), by omega, _, ⟨i + 1, h', S3, k3, es3, rfl, by omega, R3, rfl⟩, .inl ⟨rfl, rfl, rfl, rfl, rfl, rfl, trivial⟩⟩
  obtain rfl : i = k.tx.length := by omega
  have hd : decide ((k.tx.length : Int) < (k.tx.length : Int)) = false := by simp
  simp (maxSteps := 4000000) only [Try.results18, hd, XX, Nat.reduceBEq, Nat.reduceLT, Nat.reduceAdd, Nat.reduceMul, Nat.reduceSub, Nat.reduceLeDiff, Nat.reduceEqDiff, Int.reduceToNat, Int.reduceLT, Int.reduceLE, Int.reduceAdd, Int.reduceSub, Int.reduceEq, reduceIte, Nat.reduceBNe, Int.reducePow, Nat.reducePow, Int.reduceMul, Int.reduceNeg, isB_i, isB_b, isB_y, isBv_i, isBv_b, eqCells_t, TT]
  refine call_is (stp7_spec R2.1 R2.2.1 (R2.2.2.1.pair hp np) 0 _) ?_
  intro s h' P
  obtain ⟨rfl, S3, k3, es3, R3⟩ := R2.step P
  simp (maxSteps := 4000000) only [Try.results18, XX, Nat.reduceBEq, Nat.reduceLT, Nat.reduceAdd, Nat.reduceMul, Nat.reduceSub, Nat.reduceLeDiff, Nat.reduceEqDiff, Int.reduceToNat, Int.reduceLT, Int.reduceLE, Int.reduceAdd, Int.reduceSub, Int.reduceEq, reduceIte, Nat.reduceBNe, Int.reducePow, Nat.reducePow, Int.reduceMul, Int.reduceNeg, isB_i, isB_b, isB_y, isBv_i, isBv_b, eqCells_t, TT]
  obtain ⟨q1, q2, q3, q4, q5, q6⟩ := R3
  exact ⟨S3, k3, es3, q1, q2, q3, q4, q5, by omega⟩
end
end Go.Proofs.Ytdfhmpheepobnaa.Sx
