/- The symbolic executor, at work: what the laws lean on, part 3. No condition. -/
import Derived.Test.YtgegddefcgfhgaaZ2
namespace Go.Proofs.Ytgegddefcgfhgaa.Sx
open Go
set_option linter.unusedSimpArgs false
set_option linter.unusedVariables false
set_option maxRecDepth 10000
set_option maxHeartbeats 8000000
theorem decode_spec (b sp : List UInt8) (c : Nat) (hl : b.length ≤ 140737488355328) (hc : b.length ≤ c) : Spec cx.P 10 [.c (roB b sp c)] [] (resD (decF b)) := by
  by_cases h1 : b.length < 240
  · rw [show decF b = noM 5 by unfold decF; rw [if_pos h1]]
    refine resD_nil ?_
    have d1 : decide ((b.length : Int) < 240) = true := by simp only [decide_eq_true_eq]; omega
    refine spec_of_X cx_ok Try.func10 rfl (by kernel_rfl) (by kernel_rfl) (Nat.le_of_ble_eq_true rfl) 400 92 ?_
    simp (maxSteps := 4000000) only [Try.results10, XX, Nat.reduceBEq, Nat.reduceLT, Nat.reduceAdd, Nat.reduceMul, Nat.reduceSub, Nat.reduceLeDiff, Nat.reduceEqDiff, Int.reduceToNat, Int.reduceLT, Int.reduceLE, Int.reduceAdd, Int.reduceSub, Int.reduceEq, reduceIte, Nat.reduceBNe, Int.reducePow, Nat.reducePow, Int.reduceMul, Int.reduceNeg, isB_i, isB_b, isB_y, isBv_i, isBv_b, eqCells_t, TT]
    simp (maxSteps := 4000000) only [Try.results10, d1, XX, Nat.reduceBEq, Nat.reduceLT, Nat.reduceAdd, Nat.reduceMul, Nat.reduceSub, Nat.reduceLeDiff, Nat.reduceEqDiff, Int.reduceToNat, Int.reduceLT, Int.reduceLE, Int.reduceAdd, Int.reduceSub, Int.reduceEq, reduceIte, Nat.reduceBNe, Int.reducePow, Nat.reducePow, Int.reduceMul, Int.reduceNeg, isB_i, isB_b, isB_y, isBv_i, isBv_b, eqCells_t, TT]
    rfl
  have d1 : decide ((b.length : Int) < 240) = false := by simp only [decide_eq_false_iff_not]; omega
  obtain ⟨R0, i0⟩ := drop1 (sp := sp) (l := b) (k := 0) (by omega)
  obtain ⟨R1, i1⟩ := drop1 (sp := sp) (l := b) (k := 1) (by omega)
  obtain ⟨R2, i2⟩ := drop1 (sp := sp) (l := b) (k := 2) (by omega)
  by_cases h2 : ((b.getD 0 0).toNat ≠ 1 ∧ (b.getD 0 0).toNat ≠ 2) ∨ (b.getD 1 0).toNat ≠ 1 ∨ (b.getD 2 0).toNat ≠ 6
  · rw [show decF b = noM 160 by unfold decF; rw [if_neg h1, if_pos h2]]
    refine resD_nil ?_
    have d2 : (decide (((b.getD 0 0).toNat : Int) < 1) || decide (2 < ((b.getD 0 0).toNat : Int)) || !decide (((b.getD 1 0).toNat : Int) = 1) || !decide (((b.getD 2 0).toNat : Int) = 6)) = true := by
      simp only [Bool.or_eq_true, Bool.not_eq_true', decide_eq_true_eq, decide_eq_false_iff_not]
      omega
    refine spec_of_X cx_ok Try.func10 rfl (by kernel_rfl) (by kernel_rfl) (Nat.le_of_ble_eq_true rfl) 400 92 ?_
    simp (maxSteps := 4000000) only [Try.results10, XX, Nat.reduceBEq, Nat.reduceLT, Nat.reduceAdd, Nat.reduceMul, Nat.reduceSub, Nat.reduceLeDiff, Nat.reduceEqDiff, Int.reduceToNat, Int.reduceLT, Int.reduceLE, Int.reduceAdd, Int.reduceSub, Int.reduceEq, reduceIte, Nat.reduceBNe, Int.reducePow, Nat.reducePow, Int.reduceMul, Int.reduceNeg, isB_i, isB_b, isB_y, isBv_i, isBv_b, eqCells_t, TT]
    simp (maxSteps := 4000000) only [Try.results10, d1, i0, i1, i2, d2, XX, Nat.reduceBEq, Nat.reduceLT, Nat.reduceAdd, Nat.reduceMul, Nat.reduceSub, Nat.reduceLeDiff, Nat.reduceEqDiff, Int.reduceToNat, Int.reduceLT, Int.reduceLE, Int.reduceAdd, Int.reduceSub, Int.reduceEq, reduceIte, Nat.reduceBNe, Int.reducePow, Nat.reducePow, Int.reduceMul, Int.reduceNeg, isB_i, isB_b, isB_y, isBv_i, isBv_b, eqCells_t, TT]
    exact ⟨by omega, by omega, fun _ => by omega, fun _ => by omega, fun _ => by omega, fun _ => by omega, fun _ => by omega, fun _ => by omega, rfl⟩
  have a0 : (b.getD 0 0).toNat = 1 ∨ (b.getD 0 0).toNat = 2 := by omega
  have a1 : (b.getD 1 0).toNat = 1 := by omega
  have a2 : (b.getD 2 0).toNat = 6 := by omega
  have d2 : (decide (((b.getD 0 0).toNat : Int) < 1) || decide (2 < ((b.getD 0 0).toNat : Int)) || !decide (((b.getD 1 0).toNat : Int) = 1) || !decide (((b.getD 2 0).toNat : Int) = 6)) = false := by
    simp only [Bool.or_eq_false_iff, Bool.not_eq_false', decide_eq_true_eq, decide_eq_false_iff_not]
    omega
  have dr : ∀ k, k ≤ 240 → (bsR (b ++ sp)).drop k = bsR (b.drop k ++ sp) := fun k hk => by rw [rs_drop, List.drop_append_of_le_length (by omega)]
  have t4 : ((bsR (b ++ sp)).drop 236).take 4 = bsR ((b.drop 236).take 4) := by rw [dr 236 (by omega), rs_take, List.take_append_of_le_length (by rw [List.length_drop]; omega)]
  have l4 : 4 ≤ ((bsR (b ++ sp)).drop 236).length := by rw [dr 236 (by omega), rs_len, List.length_append, List.length_drop]; omega
  have m4 : ∀ e : Bool, decide ((b.drop 236).take 4 = [99, 130, 83, 99]) = e → ((⟨((b.drop 236).take 4).toArray⟩ : ByteArray).toList == (⟨#[99, 130, 83, 99]⟩ : ByteArray).toList) = e := fun e he => by rw [← he]; exact str_eq _ [99, 130, 83, 99]
  generalize hX4 : (b.drop 236).take 4 = X4 at *
  by_cases h3 : X4 ≠ [99, 130, 83, 99]
  · rw [show decF b = noM 161 by unfold decF; rw [if_neg h1, if_neg h2, hX4, if_pos h3]]
    refine resD_nil ?_
    have m5 := m4 false (decide_eq_false h3)
    refine spec_of_X cx_ok Try.func10 rfl (by kernel_rfl) (by kernel_rfl) (Nat.le_of_ble_eq_true rfl) 400 92 ?_
    simp (maxSteps := 4000000) only [Try.results10, XX, Nat.reduceBEq, Nat.reduceLT, Nat.reduceAdd, Nat.reduceMul, Nat.reduceSub, Nat.reduceLeDiff, Nat.reduceEqDiff, Int.reduceToNat, Int.reduceLT, Int.reduceLE, Int.reduceAdd, Int.reduceSub, Int.reduceEq, reduceIte, Nat.reduceBNe, Int.reducePow, Nat.reducePow, Int.reduceMul, Int.reduceNeg, isB_i, isB_b, isB_y, isBv_i, isBv_b, eqCells_t, TT]
    simp (maxSteps := 4000000) only [Try.results10, d1, i0, i1, i2, d2, t4, bsR_toSC, strOf_bsC, m5, XX, Nat.reduceBEq, Nat.reduceLT, Nat.reduceAdd, Nat.reduceMul, Nat.reduceSub, Nat.reduceLeDiff, Nat.reduceEqDiff, Int.reduceToNat, Int.reduceLT, Int.reduceLE, Int.reduceAdd, Int.reduceSub, Int.reduceEq, reduceIte, Nat.reduceBNe, Int.reducePow, Nat.reducePow, Int.reduceMul, Int.reduceNeg, isB_i, isB_b, isB_y, isBv_i, isBv_b, eqCells_t, TT]
    exact ⟨by omega, by omega, fun _ => by omega, fun _ => by omega, fun _ => by omega, fun _ => by omega, fun _ => by omega, fun _ => by omega, by omega, ⟨l4, isByte_bsC _⟩, rfl⟩
  have m5 := m4 true (decide_eq_true (by simpa using h3))
  have h3' : decF b = match parseA [b.drop 240] [] with
    | .error e => noM e
    | .ok is => match bothF is with
      | none => noM 162
      | some k => match parseA (partsK b k) [] with
        | .error e => noM e
        | .ok is' => (decM b k, delP is', 0) := by
    unfold decF; rw [if_neg h1, if_neg h2, hX4, if_neg h3]; rfl
  rw [h3']
  have t240 := dr 240 (by omega)
  have lb : (b.drop 240).length = b.length - 240 := List.length_drop
  have hpp := parse_spec [(b.drop 240, sp, c - 240)] [] 1 (by intro p hp; simp only [List.mem_singleton] at hp; subst hp; exact ⟨by dsimp only; omega, by dsimp only; omega⟩) (by simp) (by simp [lenP]; omega)
  rw [show bytesP [(b.drop 240, sp, c - 240)] = [b.drop 240] from rfl] at hpp
  have e240 : b.length - 240 = (b.drop 240).length := lb.symm
  cases hx : parseA [b.drop 240] [] with
  | error e =>
    rw [hx] at hpp
    dsimp only
    refine resD_nil ?_
    have de : decide (e = 0) = false := by rcases parseA_err _ _ _ hx with rfl | rfl <;> rfl
    refine spec_of_X cx_ok Try.func10 rfl (by kernel_rfl) (by kernel_rfl) (Nat.le_of_ble_eq_true rfl) 400 92 ?_
    simp (maxSteps := 4000000) only [Try.results10, XX, Nat.reduceBEq, Nat.reduceLT, Nat.reduceAdd, Nat.reduceMul, Nat.reduceSub, Nat.reduceLeDiff, Nat.reduceEqDiff, Int.reduceToNat, Int.reduceLT, Int.reduceLE, Int.reduceAdd, Int.reduceSub, Int.reduceEq, reduceIte, Nat.reduceBNe, Int.reducePow, Nat.reducePow, Int.reduceMul, Int.reduceNeg, isB_i, isB_b, isB_y, isBv_i, isBv_b, eqCells_t, TT]
    simp (maxSteps := 4000000) only [Try.results10, d1, i0, i1, i2, d2, t4, bsR_toSC, strOf_bsC, m5, t240, e240, List.flatten_cons, List.flatten_nil, List.cons_append, List.nil_append, List.append_nil, List.replicate_succ, List.replicate_zero, List.drop_succ_cons, List.drop_zero, List.length_cons, List.length_nil, Nat.reduceAdd, Nat.reduceLeDiff, reduceIte, XX, Nat.reduceBEq, Nat.reduceLT, Nat.reduceAdd, Nat.reduceMul, Nat.reduceSub, Nat.reduceLeDiff, Nat.reduceEqDiff, Int.reduceToNat, Int.reduceLT, Int.reduceLE, Int.reduceAdd, Int.reduceSub, Int.reduceEq, reduceIte, Nat.reduceBNe, Int.reducePow, Nat.reducePow, Int.reduceMul, Int.reduceNeg, isB_i, isB_b, isB_y, isBv_i, isBv_b, eqCells_t, TT]
    refine ⟨by omega, by omega, fun _ => by omega, fun _ => by omega, fun _ => by omega, fun _ => by omega, fun _ => by omega, fun _ => by omega, by omega, ⟨l4, isByte_bsC _⟩, by omega, ?_⟩
    refine call_opts [.c (partsV [(b.drop 240, sp, c - 240)] [] 1)] hpp ⟨fzO_rows rfl rfl ⟨frO_ro, trivial⟩, trivial⟩ ?_
    rintro t o es r O hw hpi
    obtain rfl : es = [] := List.map_eq_nil_iff.1 hpi
    simp (maxSteps := 4000000) only [Try.results10, parE, de, List.length_nil, XX, Nat.reduceBEq, Nat.reduceLT, Nat.reduceAdd, Nat.reduceMul, Nat.reduceSub, Nat.reduceLeDiff, Nat.reduceEqDiff, Int.reduceToNat, Int.reduceLT, Int.reduceLE, Int.reduceAdd, Int.reduceSub, Int.reduceEq, reduceIte, Nat.reduceBNe, Int.reducePow, Nat.reducePow, Int.reduceMul, Int.reduceNeg, isB_i, isB_b, isB_y, isBv_i, isBv_b, eqCells_t, TT]
    rfl
  | ok is =>
    rw [hx] at hpp
    dsimp only
    obtain ⟨Gd, hs⟩ := parseA_good _ _ _ goodP_nil hx
    have hN : (is.map fun p => p.2.length).sum ≤ 140737488355328 := by simp at hs; omega
    exact resD_out (decode_ok b sp c hl hc h1 d1 R0 R1 R2 i0 i1 i2 d2 X4 t4 l4 m5 t240 e240 is hpp hN Gd)
end Go.Proofs.Ytgegddefcgfhgaa.Sx
namespace Go.Proofs.Ytgegddefcgfhgaa.Sx
open Go
set_option linter.unusedSimpArgs false
set_option linter.unusedVariables false
set_option maxRecDepth 10000
set_option maxHeartbeats 8000000
/-- A call that gives a message. -/
theorem call_dec {P : Program} {xn : XN} {f : FuncId} {args : List SV} (args0 : List SV) {dst : Option Tmp} {k : List KI} {nm : NB} {tm : List (Nat × SV)} {hp : List SB} {Q : XE → St → Prop} {x : BM × List PI × Int}
    (s : Spec P f args0 [] (resD x)) (ha : frA true (fun _ => true) (renF [] hp.length) 0 hp args args0)
    (hk : ∀ (t : List SB) (o : Bool) (es : List PE) (r : Nat), Opts (hp ++ t) hp.length o es r → (∀ e ∈ es, hp.length < e.w) → es.map PE.pi = x.2.1 →
      xn k ⟨nm, put dst (.tup [(true, boC x.1 (.sl hp.length 0 es.length (es.length + r))), (false, [i64 x.2.2])]) tm, hp ++ t⟩ Q) : CallGoal P xn f args dst k ⟨nm, tm, hp⟩ Q := by
  refine call_fz args0 s (fun t h' => resD_noRo) ha ?_
  rintro _ _ ⟨o, es, r, rfl, rfl, h1, h2, h3⟩
  have e1 : renF [] hp.length 0 = hp.length := rfl
  have e2 : (rowC (numF 1 es) r).map (SC.ren (renF [] hp.length)) = rowC (numF (hp.length + 1) es) r := by
    have a1 := row_ren (renF [] hp.length) r 1 (es := numF (hp.length + 1) es) ?_
    · have : numF 1 (numF (hp.length + 1) es) = numF 1 es := by
        have g : ∀ (k m : Nat) (es : List PE), numF k (numF m es) = numF k es := by
          intro k m es
          induction es generalizing k m with
          | nil => rfl
          | cons e es ih => simp only [numF, ih]
        exact g _ _ _
      rw [this] at a1
      exact a1
    · intro i e he
      obtain ⟨f, hf, rfl⟩ := numF_at he
      show hp.length + (1 + i - 0) = hp.length + 1 + i
      omega
  have e3 : (winsC es).map (SB.ren (renF [] hp.length)) = winsC es := by
    rw [List.map_map]
    refine List.map_congr_left fun e he => ?_
    show SB.mk _ _ (List.map _ (bsC _)) = _
    rw [ren_bsC]
  have := hk (optB o (rowC (numF (hp.length + 1) es) r) :: winsC es) o (numF (hp.length + 1) es) r ⟨?_, by rw [numF_len]; exact h1, fun i e he => ?_, fun i j e f hij he hf => ?_⟩ (fun e he => ?_) (by rw [numF_pi, h3])
  · rw [numF_len] at this
    simp only [List.map_cons, e3]
    show xn k ⟨nm, put dst (.tup [(true, boC x.1 (SC.sl (renF [] hp.length 0) 0 es.length (es.length + r))), (false, [i64 x.2.2])]) tm, hp ++ (⟨o, _, (rowC (numF 1 es) r).map (SC.ren (renF [] hp.length))⟩ :: winsC es)⟩ Q
    rw [e2, e1]
    exact this
  · rw [List.getElem?_append_right (Nat.le_refl _), Nat.sub_self]; rfl
  · obtain ⟨f, hf, rfl⟩ := numF_at he
    refine ⟨?_, h2 f (List.mem_of_getElem? hf)⟩
    show (hp ++ _)[hp.length + 1 + i]? = _
    rw [List.getElem?_append_right (by omega), show hp.length + 1 + i - hp.length = i + 1 by omega, List.getElem?_cons_succ, List.getElem?_map, hf]; rfl
  · obtain ⟨f1, hf1, rfl⟩ := numF_at he
    obtain ⟨f2, hf2, rfl⟩ := numF_at hf
    show hp.length + 1 + i ≠ hp.length + 1 + j
    omega
  · obtain ⟨i, hi⟩ := List.mem_iff_getElem?.1 he
    obtain ⟨f, hf, rfl⟩ := numF_at hi
    show hp.length < hp.length + 1 + i
    omega
/-- A message alone. -/
def resM (m : BM) (is : List PI) (s : SV) (h' : List SB) : Prop := ∃ o es r, s = .agg (boC m (.sl 0 0 es.length (es.length + r))) ∧
  h' = optB o (rowC (numF 1 es) r) :: winsC es ∧ (0 < es.length + r → o = true) ∧ (∀ e ∈ es, 0 < e.d.length + e.sp.length → e.o = true) ∧ es.map PE.pi = is
theorem resM_noRo {m : BM} {is : List PI} {t : SV} {h' : List SB} (h : resM m is t h') : t.noRo = true ∧ (h'.all fun b => b.cells.all SC.noRo) = true := by
  obtain ⟨o, es, r, rfl, rfl, _⟩ := h
  refine ⟨rfl, ?_⟩
  rw [List.all_cons, Bool.and_eq_true]
  refine ⟨noRo_row _ _, ?_⟩
  rw [List.all_map, List.all_eq_true]
  intro e _
  exact noRo_bsC _
theorem resM_of {P : Program} {f : FuncId} {args : List SV} {m : BM} {is : List PI} (s : Spec P f args [] fun s h' => ∃ iO o es r, s = .agg (boC m (.sl iO 0 es.length (es.length + r))) ∧ Opts h' iO o es r ∧ es.map PE.pi = is) : Spec P f args [] (resM m is) :=
  s.wk fun t h' h => by
    obtain ⟨iO, o, es, r, rfl, O, hp⟩ := h
    have hpi : (some iO :: es.map fun e => some e.w) = (iO :: es.map PE.w).map some := by simp
    refine ⟨.agg (boC m (.sl 0 0 es.length (es.length + r))), optB o (rowC (numF 1 es) r) :: winsC es, some iO :: es.map fun e => some e.w, ?_, ⟨?_, wkHp_wins O.at_⟩, .inl ⟨rfl, rfl⟩, o, es, r, rfl, rfl, O.own, fun e he => ?_, hp⟩
    · rw [hpi]; exact piBase_all _ _ O.nodup
    · rw [O.row]
      refine ⟨.inl ⟨row_ids _ _ _ _ fun i hi => ?_, (row_ren _ _ _ _ fun i e he => ?_).symm⟩, fun h => ⟨h, rfl⟩⟩
      · unfold isW
        rw [Nat.add_comm, List.getElem?_cons_succ, List.getElem?_map, List.getElem?_eq_getElem hi]; rfl
      · unfold srcW
        rw [Nat.add_comm, List.getElem?_cons_succ, List.getElem?_map, he]; rfl
    · obtain ⟨i, hi⟩ := List.mem_iff_getElem?.1 he
      exact (O.at_ i e hi).2
/-- A call that gives a message alone. -/
theorem call_msg {P : Program} {xn : XN} {f : FuncId} {args : List SV} (args0 : List SV) {dst : Option Tmp} {k : List KI} {nm : NB} {tm : List (Nat × SV)} {hp : List SB} {Q : XE → St → Prop} {m : BM} {is : List PI}
    (s : Spec P f args0 [] (resM m is)) (ha : frA true (fun _ => true) (renF [] hp.length) 0 hp args args0)
    (hk : ∀ (t : List SB) (o : Bool) (es : List PE) (r : Nat), Opts (hp ++ t) hp.length o es r → (∀ e ∈ es, hp.length < e.w) → es.map PE.pi = is →
      xn k ⟨nm, put dst (.agg (boC m (.sl hp.length 0 es.length (es.length + r)))) tm, hp ++ t⟩ Q) : CallGoal P xn f args dst k ⟨nm, tm, hp⟩ Q := by
  refine call_fz args0 s (fun t h' => resM_noRo) ha ?_
  rintro _ _ ⟨o, es, r, rfl, rfl, h1, h2, h3⟩
  have e1 : renF [] hp.length 0 = hp.length := rfl
  have e2 : (rowC (numF 1 es) r).map (SC.ren (renF [] hp.length)) = rowC (numF (hp.length + 1) es) r := by
    have a1 := row_ren (renF [] hp.length) r 1 (es := numF (hp.length + 1) es) ?_
    · have : numF 1 (numF (hp.length + 1) es) = numF 1 es := by
        have g : ∀ (k m : Nat) (es : List PE), numF k (numF m es) = numF k es := by
          intro k m es
          induction es generalizing k m with
          | nil => rfl
          | cons e es ih => simp only [numF, ih]
        exact g _ _ _
      rw [this] at a1
      exact a1
    · intro i e he
      obtain ⟨f, hf, rfl⟩ := numF_at he
      show hp.length + (1 + i - 0) = hp.length + 1 + i
      omega
  have e3 : (winsC es).map (SB.ren (renF [] hp.length)) = winsC es := by
    rw [List.map_map]
    refine List.map_congr_left fun e he => ?_
    show SB.mk _ _ (List.map _ (bsC _)) = _
    rw [ren_bsC]
  have := hk (optB o (rowC (numF (hp.length + 1) es) r) :: winsC es) o (numF (hp.length + 1) es) r ⟨?_, by rw [numF_len]; exact h1, fun i e he => ?_, fun i j e f hij he hf => ?_⟩ (fun e he => ?_) (by rw [numF_pi, h3])
  · rw [numF_len] at this
    simp only [List.map_cons, e3]
    show xn k ⟨nm, put dst (.agg (boC m (SC.sl (renF [] hp.length 0) 0 es.length (es.length + r)))) tm, hp ++ (⟨o, _, (rowC (numF 1 es) r).map (SC.ren (renF [] hp.length))⟩ :: winsC es)⟩ Q
    rw [e2, e1]
    exact this
  · rw [List.getElem?_append_right (Nat.le_refl _), Nat.sub_self]; rfl
  · obtain ⟨f, hf, rfl⟩ := numF_at he
    refine ⟨?_, h2 f (List.mem_of_getElem? hf)⟩
    show (hp ++ _)[hp.length + 1 + i]? = _
    rw [List.getElem?_append_right (by omega), show hp.length + 1 + i - hp.length = i + 1 by omega, List.getElem?_cons_succ, List.getElem?_map, hf]; rfl
  · obtain ⟨f1, hf1, rfl⟩ := numF_at he
    obtain ⟨f2, hf2, rfl⟩ := numF_at hf
    show hp.length + 1 + i ≠ hp.length + 1 + j
    omega
  · obtain ⟨i, hi⟩ := List.mem_iff_getElem?.1 he
    obtain ⟨f, hf, rfl⟩ := numF_at hi
    show hp.length < hp.length + 1 + i
    omega
theorem bo_fz {r : Nat → Nat} {n : Nat} {H : List SB} {m : BM} {o o' : SC} (h : frC true (fun _ => true) r n H o o') : frV true (fun _ => true) r n H (.agg (boC m o)) (.agg (boC m o')) :=
  .inr (.inr ⟨_, _, rfl, rfl, .inl ⟨rfl, rfl⟩, .inl ⟨rfl, rfl⟩, .inl ⟨rfl, rfl⟩, .inl ⟨rfl, rfl⟩, .inl ⟨rfl, rfl⟩, .inl ⟨rfl, rfl⟩, .inl ⟨rfl, rfl⟩, .inl ⟨rfl, rfl⟩, .inl ⟨rfl, rfl⟩, .inl ⟨rfl, rfl⟩, .inl ⟨rfl, rfl⟩, .inl ⟨rfl, rfl⟩, .inl ⟨rfl, rfl⟩, .inl ⟨rfl, rfl⟩, .inl ⟨rfl, rfl⟩, .inl ⟨rfl, rfl⟩, .inl ⟨rfl, rfl⟩, h, trivial⟩)
theorem Opts.frc {r : Nat → Nat} {n : Nat} {H : List SB} {iO : Nat} {o : Bool} {es : List PE} {rm : Nat} (O : Opts H iO o es rm) : frC true (fun _ => true) r n H (.sl iO 0 es.length (es.length + rm)) (roO (es.map PE.oi) [] (es.length + rm)) := by
  rcases O.fz (r := r) (n := n) with ⟨_, h⟩ | ⟨x, y, h1, h2, h3⟩ | ⟨_, _, h1, _⟩
  · cases h
  · cases h1; cases h2; exact h3
  · cases h1
theorem type_spec (m : BM) (xs sp : List OI) (c : Nat) (hok : ∀ x ∈ xs, x.ok) (hn : xs.length ≤ 140737488355328) : Spec cx.P 21 [.agg (boC m (roO xs sp c))] [] fun s _ => s.plain = true ∧ s = .c (i64 (smallO xs 53).1) := by
  have r := small_spec xs sp c hok hn 53
  refine spec_of_X cx_ok Try.func21 rfl (by kernel_rfl) (by kernel_rfl) (Nat.le_of_ble_eq_true rfl) 400 4 ?_
  simp (maxSteps := 4000000) only [Try.results21, XX, Nat.reduceBEq, Nat.reduceLT, Nat.reduceAdd, Nat.reduceMul, Nat.reduceSub, Nat.reduceLeDiff, Nat.reduceEqDiff, Int.reduceToNat, Int.reduceLT, Int.reduceLE, Int.reduceAdd, Int.reduceSub, Int.reduceEq, reduceIte, Nat.reduceBNe, Int.reducePow, Nat.reducePow, Int.reduceMul, Int.reduceNeg, isB_i, isB_b, isB_y, isBv_i, isBv_b, eqCells_t, TT]
  refine call_pureF [.c (roO xs sp c), .c (i64 53)] r ⟨.inl ⟨rfl, rfl⟩, .inl ⟨rfl, rfl⟩, trivial⟩ ?_
  rintro _ rfl
  simp (maxSteps := 4000000) only [Try.results21, XX, Nat.reduceBEq, Nat.reduceLT, Nat.reduceAdd, Nat.reduceMul, Nat.reduceSub, Nat.reduceLeDiff, Nat.reduceEqDiff, Int.reduceToNat, Int.reduceLT, Int.reduceLE, Int.reduceAdd, Int.reduceSub, Int.reduceEq, reduceIte, Nat.reduceBNe, Int.reducePow, Nat.reducePow, Int.reduceMul, Int.reduceNeg, isB_i, isB_b, isB_y, isBv_i, isBv_b, eqCells_t, TT]
theorem clip_spec (H : List SB) (iO n c : Nat) (hnc : n ≤ c) : Spec cx.P 79 [.c (.sl iO 0 n c)] H fun s h' => s = .c (.sl iO 0 n n) ∧ h' = H := by
  refine spec_of_X cx_ok Try.func79 rfl (by kernel_rfl) (by kernel_rfl) (Nat.le_of_ble_eq_true rfl) 400 3 ?_
  simp (maxSteps := 4000000) only [Try.results79, XX, Nat.reduceBEq, Nat.reduceLT, Nat.reduceAdd, Nat.reduceMul, Nat.reduceSub, Nat.reduceLeDiff, Nat.reduceEqDiff, Int.reduceToNat, Int.reduceLT, Int.reduceLE, Int.reduceAdd, Int.reduceSub, Int.reduceEq, reduceIte, Nat.reduceBNe, Int.reducePow, Nat.reducePow, Int.reduceMul, Int.reduceNeg, isB_i, isB_b, isB_y, isBv_i, isBv_b, eqCells_t, TT]
  omega
theorem behind0_spec (H : List SB) (iO n c : Nat) (hnc : n ≤ c) : Spec cx.P 42 [.c (.sl iO 0 n c), .c nilS] H fun s h' => s = .c (.sl iO 0 n n) ∧ h' = H := by
  refine spec_of_X cx_ok Try.func42 rfl (by kernel_rfl) (by kernel_rfl) (Nat.le_of_ble_eq_true rfl) 400 10 ?_
  simp (maxSteps := 4000000) only [Try.results42, XX, Nat.reduceBEq, Nat.reduceLT, Nat.reduceAdd, Nat.reduceMul, Nat.reduceSub, Nat.reduceLeDiff, Nat.reduceEqDiff, Int.reduceToNat, Int.reduceLT, Int.reduceLE, Int.reduceAdd, Int.reduceSub, Int.reduceEq, reduceIte, Nat.reduceBNe, Int.reducePow, Nat.reducePow, Int.reduceMul, Int.reduceNeg, isB_i, isB_b, isB_y, isBv_i, isBv_b, eqCells_t, TT]
  refine loop_rounds cx_ok 400 1 ?_
  simp (maxSteps := 4000000) only [Try.results42, XX, Nat.reduceBEq, Nat.reduceLT, Nat.reduceAdd, Nat.reduceMul, Nat.reduceSub, Nat.reduceLeDiff, Nat.reduceEqDiff, Int.reduceToNat, Int.reduceLT, Int.reduceLE, Int.reduceAdd, Int.reduceSub, Int.reduceEq, reduceIte, Nat.reduceBNe, Int.reducePow, Nat.reducePow, Int.reduceMul, Int.reduceNeg, isB_i, isB_b, isB_y, isBv_i, isBv_b, eqCells_t, TT]
  refine call_is (clip_spec H iO n c hnc) ?_
  rintro _ _ ⟨rfl, rfl⟩
  simp (maxSteps := 4000000) only [Try.results42, XX, Nat.reduceBEq, Nat.reduceLT, Nat.reduceAdd, Nat.reduceMul, Nat.reduceSub, Nat.reduceLeDiff, Nat.reduceEqDiff, Int.reduceToNat, Int.reduceLT, Int.reduceLE, Int.reduceAdd, Int.reduceSub, Int.reduceEq, reduceIte, Nat.reduceBNe, Int.reducePow, Nat.reducePow, Int.reduceMul, Int.reduceNeg, isB_i, isB_b, isB_y, isBv_i, isBv_b, eqCells_t, TT]
theorem maskL_len (L : List Nat) : ∀ (h : List SB) (k : Nat), (maskL L k h).length = h.length
  | [], _ => rfl
  | b :: r, k => by simp [maskL, maskL_len L r (k + 1)]
theorem gen_draw {P : Program} {id : Nat} {ops : Array Oper} {k : List KI} {nm : NB} {tm : List (Nat × SV)} {hp : List SB} {Q : XE → St → Prop} (p : List SB → Prop) (h0 : p hp) (h : ∀ H, p H → DrawGoal P id ops k ⟨nm, tm, H⟩ Q) : DrawGoal P id ops k ⟨nm, tm, hp⟩ Q := h hp h0
theorem ask0_spec (kind : Int) (mac : M6) (xid : Nat) (secs : Nat) (ci : Nat) (hs : secs ≤ 65535) : Spec cx.P 16 [.c (i64 kind), .agg [byteC mac.a, byteC mac.b, byteC mac.c, byteC mac.d, byteC mac.e, byteC mac.f], .c (i32 xid), .c (i64 secs), .c (i32 ci), .c nilS] [] (resM ⟨1, 0, xid, secs, true, ci, 0, 0, 0, mac, [], []⟩ [(53, [UInt8.ofInt kind])]) := by
  refine resM_of ?_
  have dm : (if (0 : Int) > (secs : Int) then (0 : Int) else (secs : Int)) = (secs : Int) := by split <;> omega
  have dm2 : (if (65535 : Int) < (secs : Int) then (65535 : Int) else (secs : Int)) = (secs : Int) := by split <;> omega
  refine spec_of_X cx_ok Try.func16 rfl (by kernel_rfl) (by kernel_rfl) (Nat.le_of_ble_eq_true rfl) 400 13 ?_
  simp (maxSteps := 4000000) only [Try.results16, XX, Nat.reduceBEq, Nat.reduceLT, Nat.reduceAdd, Nat.reduceMul, Nat.reduceSub, Nat.reduceLeDiff, Nat.reduceEqDiff, Int.reduceToNat, Int.reduceLT, Int.reduceLE, Int.reduceAdd, Int.reduceSub, Int.reduceEq, reduceIte, Nat.reduceBNe, Int.reducePow, Nat.reducePow, Int.reduceMul, Int.reduceNeg, isB_i, isB_b, isB_y, isBv_i, isBv_b, eqCells_t, TT]
  refine gen_draw (fun G => G[0]? = some ⟨true, 26, [byteC mac.a, byteC mac.b, byteC mac.c, byteC mac.d, byteC mac.e, byteC mac.f]⟩ ∧ G[1]? = some ⟨true, 29, boC BM.zero nilS⟩ ∧ G.length = 2) ⟨rfl, rfl, rfl⟩ ?_
  rintro G ⟨u0, u1, lG⟩
  obtain ⟨oF, mf⟩ := maskL_at (L := [0]) u0
  have m1 : (maskL [0] 0 G)[1]? = some ⟨true, 29, boC BM.zero nilS⟩ := (maskL_off (by simp)).trans u1
  have hok := kept_cons u0 rfl kept_nil
  have lm : (maskL [0] 0 G).length = 2 := by rw [maskL_len, lG]
  refine draw_of cx_ok (by kernel_rfl) 400 [0] [(0, true), (1, true), (2, true), (3, true), (4, true), (5, true), (6, true), (9, true), (7, false), (8, false), (10, false), (11, true), (12, false)] (by kernel_rfl) (by first | exact hok | simp [*]) ?_
  simp (maxSteps := 4000000) only [Try.results16, mf, m1, dm, dm2, List.append_assoc, List.getElem?_append_left, List.getElem?_append_right, List.length_append, List.length_set, List.set_append_left, gset, List.getElem?_set_ne, Nat.add_sub_cancel_left, Nat.sub_self, Nat.le_refl, Nat.le_add_right, List.replicate_one, List.flatten_cons, List.flatten_nil, rep_flat, XX, Nat.reduceBEq, Nat.reduceLT, Nat.reduceAdd, Nat.reduceMul, Nat.reduceSub, Nat.reduceLeDiff, Nat.reduceEqDiff, Int.reduceToNat, Int.reduceLT, Int.reduceLE, Int.reduceAdd, Int.reduceSub, Int.reduceEq, reduceIte, Nat.reduceBNe, Int.reducePow, Nat.reducePow, Int.reduceMul, Int.reduceNeg, isB_i, isB_b, isB_y, isBv_i, isBv_b, eqCells_t, TT]
  refine call_fz [.c (i64 53), .c (i64 kind)] (byte_spec 53 kind) (fun t h' h => by obtain ⟨rfl, rfl⟩ := h; exact ⟨rfl, by simp only [XX, Nat.reduceBEq, Nat.reduceLT, Nat.reduceAdd, Nat.reduceMul, Nat.reduceSub, Nat.reduceLeDiff, Nat.reduceEqDiff, Int.reduceToNat, Int.reduceLT, Int.reduceLE, Int.reduceAdd, Int.reduceSub, Int.reduceEq, reduceIte, Nat.reduceBNe, Int.reducePow, Nat.reducePow, Int.reduceMul, Int.reduceNeg, isB_i, isB_b, isB_y, isBv_i, isBv_b, eqCells_t, TT, ids_bsC, ren_bsC, noRo_bsC, plain_bsC, lt_bsC, ids_byte, ren_byte, noRo_byte, plain_byte, lt_byte]⟩) ⟨.inl ⟨rfl, rfl⟩, .inl ⟨rfl, rfl⟩, trivial⟩ ?_
  rintro _ _ ⟨rfl, rfl⟩
  simp (maxSteps := 4000000) only [Try.results16, ids_bsC, ren_bsC, noRo_bsC, plain_bsC, lt_bsC, ids_byte, ren_byte, noRo_byte, plain_byte, lt_byte, lm, List.flatten_cons, List.flatten_nil, List.cons_append, List.nil_append, List.append_nil, List.length_append, List.length_cons, List.length_nil, Nat.reduceAdd, List.replicate_one, List.drop_succ_cons, List.drop_zero, Nat.reduceLeDiff, reduceIte, XX, Nat.reduceBEq, Nat.reduceLT, Nat.reduceAdd, Nat.reduceMul, Nat.reduceSub, Nat.reduceLeDiff, Nat.reduceEqDiff, Int.reduceToNat, Int.reduceLT, Int.reduceLE, Int.reduceAdd, Int.reduceSub, Int.reduceEq, reduceIte, Nat.reduceBNe, Int.reducePow, Nat.reducePow, Int.reduceMul, Int.reduceNeg, isB_i, isB_b, isB_y, isBv_i, isBv_b, eqCells_t, TT]
  refine call_is (behind0_spec _ 3 1 1 (Nat.le_refl _)) ?_
  rintro _ _ ⟨rfl, rfl⟩
  simp (maxSteps := 4000000) only [Try.results16, m1, lm, List.append_assoc, List.getElem?_append_left, List.getElem?_append_right, List.length_append, List.length_set, List.set_append_left, gset, List.getElem?_set_ne, Nat.add_sub_cancel_left, Nat.sub_self, Nat.le_refl, Nat.le_add_right, List.replicate_one, List.flatten_cons, List.flatten_nil, rep_flat, XX, Nat.reduceBEq, Nat.reduceLT, Nat.reduceAdd, Nat.reduceMul, Nat.reduceSub, Nat.reduceLeDiff, Nat.reduceEqDiff, Int.reduceToNat, Int.reduceLT, Int.reduceLE, Int.reduceAdd, Int.reduceSub, Int.reduceEq, reduceIte, Nat.reduceBNe, Int.reducePow, Nat.reducePow, Int.reduceMul, Int.reduceNeg, isB_i, isB_b, isB_y, isBv_i, isBv_b, eqCells_t, TT]
  have key : ∀ (Y : List SB) k, k ≠ 0 → (unL [0] 0 G Y)[k]? = Y[k]? := fun Y k hk => unL_off (by simp; omega)
  have g2 : ∀ (x a b' : SB), ((maskL [0] 0 G).set 1 x ++ [a, b'])[1]? = some x := fun x a b' => by rw [List.getElem?_append_left (by rw [List.length_set, lm]; omega), List.getElem?_set_self (by omega)]
  have g3 : ∀ (x a b' : SB), ((maskL [0] 0 G).set 1 x ++ [a, b'])[2]? = some a := fun x a b' => by rw [List.getElem?_append_right (by rw [List.length_set, lm]; omega), List.length_set, lm]; rfl
  have g4 : ∀ (x a b' : SB), ((maskL [0] 0 G).set 1 x ++ [a, b'])[3]? = some b' := fun x a b' => by rw [List.getElem?_append_right (by rw [List.length_set, lm]; omega), List.length_set, lm]; rfl
  rw [key _ 1 (by decide), g2]
  refine ⟨Nat.le_refl _, 3, true, [⟨53, [UInt8.ofInt kind], 2, [], true⟩], 0, rfl, ⟨by rw [key _ 3 (by decide), g4]; rfl, fun _ => rfl, fun i e he => ?_, fun i j e f hij he hf => ?_⟩, rfl⟩
  · match i, he with
    | 0, he => cases he; exact ⟨by rw [key _ 2 (by decide), g3]; rfl, fun _ => rfl⟩
  · match i, j, he, hf with
    | 0, 0, _, _ => omega
end Go.Proofs.Ytgegddefcgfhgaa.Sx
namespace Go.Proofs.Ytgegddefcgfhgaa.Sx
open Go
set_option linter.unusedSimpArgs false
set_option linter.unusedVariables false
set_option maxRecDepth 10000
set_option maxHeartbeats 8000000
theorem answer0_spec (m : BM) (xs sp : List OI) (c0 : Nat) (kind : Int) (yi si : Nat) (hsi : si < 4294967296) : Spec cx.P 17 [.c (i64 kind), .agg (boC m (roO xs sp c0)), .c (i32 yi), .c (i32 si), .c nilS] [] (resM ⟨2, 0, m.xid, 0, m.all, if kind = 5 then m.ci else 0, yi, 0, 0, m.mac, [], []⟩ [(53, [UInt8.ofInt kind]), (54, be4 si)]) := by
  refine resM_of ?_
  refine spec_of_X cx_ok Try.func17 rfl (by kernel_rfl) (by kernel_rfl) (Nat.le_of_ble_eq_true rfl) 400 12 ?_
  simp (maxSteps := 4000000) only [Try.results17, XX, Nat.reduceBEq, Nat.reduceLT, Nat.reduceAdd, Nat.reduceMul, Nat.reduceSub, Nat.reduceLeDiff, Nat.reduceEqDiff, Int.reduceToNat, Int.reduceLT, Int.reduceLE, Int.reduceAdd, Int.reduceSub, Int.reduceEq, reduceIte, Nat.reduceBNe, Int.reducePow, Nat.reducePow, Int.reduceMul, Int.reduceNeg, isB_i, isB_b, isB_y, isBv_i, isBv_b, eqCells_t, TT]
  refine gen_draw (fun G => G[0]? = some ⟨true, 29, boC m (roO xs sp c0)⟩ ∧ G[1]? = some ⟨true, 29, boC BM.zero nilS⟩ ∧ G.length = 2) ⟨rfl, rfl, rfl⟩ ?_
  rintro G ⟨u0, u1, lG⟩
  obtain ⟨oF, mf⟩ := maskL_at (L := [0]) u0
  have m1 : (maskL [0] 0 G)[1]? = some ⟨true, 29, boC BM.zero nilS⟩ := (maskL_off (by simp)).trans u1
  have hok := kept_cons u0 rfl kept_nil
  have lm : (maskL [0] 0 G).length = 2 := by rw [maskL_len, lG]
  refine draw2_of cx_ok (by kernel_rfl) 400 [0] (.pair [(0, true), (1, true), (2, true), (3, true), (4, true), (5, true), (6, true), (7, true), (9, true), (12, true)] 8 15 (.pair [] 10 15 (.pair [] 11 15 (.pair [] 13 15 (.done [(14, true), (15, false), (16, false)]) (.done [(13, false), (14, true), (16, false)])) (.done [(11, false), (13, false), (14, true), (16, false)])) (.done [(10, false), (11, false), (13, false), (14, true), (16, false)])) (.done [(8, false), (10, false), (11, false), (13, false), (14, true), (16, false)])) (by kernel_rfl) (by first | exact hok | simp [*]) ?_
  simp (maxSteps := 4000000) only [Try.results17, PXT_done, PXT_pair, mf, m1, lm, List.append_assoc, List.getElem?_append_left, List.getElem?_append_right, List.length_append, List.length_set, List.set_append_left, gset, List.getElem?_set_ne, Nat.add_sub_cancel_left, Nat.sub_self, Nat.le_refl, Nat.le_add_right, List.replicate_one, List.flatten_cons, List.flatten_nil, rep_flat, XX, Nat.reduceBEq, Nat.reduceLT, Nat.reduceAdd, Nat.reduceMul, Nat.reduceSub, Nat.reduceLeDiff, Nat.reduceEqDiff, Int.reduceToNat, Int.reduceLT, Int.reduceLE, Int.reduceAdd, Int.reduceSub, Int.reduceEq, reduceIte, Nat.reduceBNe, Int.reducePow, Nat.reducePow, Int.reduceMul, Int.reduceNeg, isB_i, isB_b, isB_y, isBv_i, isBv_b, eqCells_t, TT]
  obtain ⟨_, m1b⟩ := List.getElem?_eq_some_iff.1 m1
  obtain ⟨_, mfb⟩ := List.getElem?_eq_some_iff.1 mf
  have key : ∀ (Y : List SB) k, k ≠ 0 → (unL [0] 0 G Y)[k]? = Y[k]? := fun Y k hk => unL_off (by simp; omega)
  refine ⟨?_, ?_⟩
  · refine call_fz [.c (i64 53), .c (i64 kind)] (byte_spec 53 kind) (fun t h' h => by obtain ⟨rfl, rfl⟩ := h; exact ⟨rfl, by simp only [XX, Nat.reduceBEq, Nat.reduceLT, Nat.reduceAdd, Nat.reduceMul, Nat.reduceSub, Nat.reduceLeDiff, Nat.reduceEqDiff, Int.reduceToNat, Int.reduceLT, Int.reduceLE, Int.reduceAdd, Int.reduceSub, Int.reduceEq, reduceIte, Nat.reduceBNe, Int.reducePow, Nat.reducePow, Int.reduceMul, Int.reduceNeg, isB_i, isB_b, isB_y, isBv_i, isBv_b, eqCells_t, TT, ids_bsC, ren_bsC, noRo_bsC, plain_bsC, lt_bsC, ids_byte, ren_byte, noRo_byte, plain_byte, lt_byte]⟩) ⟨.inl ⟨rfl, rfl⟩, .inl ⟨rfl, rfl⟩, trivial⟩ ?_
    rintro _ _ ⟨rfl, rfl⟩
    simp (maxSteps := 4000000) only [Try.results17, PXT_done, PXT_pair, ids_bsC, ren_bsC, noRo_bsC, plain_bsC, lt_bsC, ids_byte, ren_byte, noRo_byte, plain_byte, lt_byte, lm, List.flatten_cons, List.flatten_nil, List.cons_append, List.nil_append, List.append_nil, List.length_append, List.length_cons, List.length_nil, Nat.reduceAdd, List.replicate_succ, List.replicate_zero, List.drop_succ_cons, List.drop_zero, Nat.reduceLeDiff, reduceIte, List.append_assoc, XX, Nat.reduceBEq, Nat.reduceLT, Nat.reduceAdd, Nat.reduceMul, Nat.reduceSub, Nat.reduceLeDiff, Nat.reduceEqDiff, Int.reduceToNat, Int.reduceLT, Int.reduceLE, Int.reduceAdd, Int.reduceSub, Int.reduceEq, reduceIte, Nat.reduceBNe, Int.reducePow, Nat.reducePow, Int.reduceMul, Int.reduceNeg, isB_i, isB_b, isB_y, isBv_i, isBv_b, eqCells_t, TT]
    refine ⟨?_, ?_⟩
    · refine call_fz [.c (i64 54), .c (i32 si)] (numbered_spec 54 si hsi) (fun t h' h => by obtain ⟨rfl, rfl⟩ := h; exact ⟨rfl, by simp only [XX, Nat.reduceBEq, Nat.reduceLT, Nat.reduceAdd, Nat.reduceMul, Nat.reduceSub, Nat.reduceLeDiff, Nat.reduceEqDiff, Int.reduceToNat, Int.reduceLT, Int.reduceLE, Int.reduceAdd, Int.reduceSub, Int.reduceEq, reduceIte, Nat.reduceBNe, Int.reducePow, Nat.reducePow, Int.reduceMul, Int.reduceNeg, isB_i, isB_b, isB_y, isBv_i, isBv_b, eqCells_t, TT, ids_bsC, ren_bsC, noRo_bsC, plain_bsC, lt_bsC, ids_byte, ren_byte, noRo_byte, plain_byte, lt_byte]⟩) ⟨.inl ⟨rfl, rfl⟩, .inl ⟨rfl, rfl⟩, trivial⟩ ?_
      rintro _ _ ⟨rfl, rfl⟩
      simp (maxSteps := 4000000) only [Try.results17, PXT_done, PXT_pair, ids_bsC, ren_bsC, noRo_bsC, plain_bsC, lt_bsC, ids_byte, ren_byte, noRo_byte, plain_byte, lt_byte, lm, List.flatten_cons, List.flatten_nil, List.cons_append, List.nil_append, List.append_nil, List.length_append, List.length_cons, List.length_nil, Nat.reduceAdd, List.replicate_succ, List.replicate_zero, List.drop_succ_cons, List.drop_zero, Nat.reduceLeDiff, reduceIte, List.append_assoc, XX, Nat.reduceBEq, Nat.reduceLT, Nat.reduceAdd, Nat.reduceMul, Nat.reduceSub, Nat.reduceLeDiff, Nat.reduceEqDiff, Int.reduceToNat, Int.reduceLT, Int.reduceLE, Int.reduceAdd, Int.reduceSub, Int.reduceEq, reduceIte, Nat.reduceBNe, Int.reducePow, Nat.reducePow, Int.reduceMul, Int.reduceNeg, isB_i, isB_b, isB_y, isBv_i, isBv_b, eqCells_t, TT]
      refine ⟨⟨?_, ?_⟩, ?_⟩
      · refine call_is (behind0_spec _ 4 2 2 (Nat.le_refl _)) ?_
        rintro _ _ ⟨rfl, rfl⟩
        simp (maxSteps := 4000000) only [Try.results17, PXT_done, PXT_pair, mf, m1, lm, List.flatten_cons, List.flatten_nil, List.cons_append, List.nil_append, List.append_nil, List.length_append, List.length_cons, List.length_nil, Nat.reduceAdd, List.replicate_succ, List.replicate_zero, List.drop_succ_cons, List.drop_zero, Nat.reduceLeDiff, reduceIte, List.append_assoc, List.append_assoc, List.getElem?_append_left, List.getElem?_append_right, List.length_append, List.length_set, List.set_append_left, gset, List.getElem?_set_ne, Nat.add_sub_cancel_left, Nat.sub_self, Nat.le_refl, Nat.le_add_right, List.replicate_one, List.flatten_cons, List.flatten_nil, rep_flat, XX, Nat.reduceBEq, Nat.reduceLT, Nat.reduceAdd, Nat.reduceMul, Nat.reduceSub, Nat.reduceLeDiff, Nat.reduceEqDiff, Int.reduceToNat, Int.reduceLT, Int.reduceLE, Int.reduceAdd, Int.reduceSub, Int.reduceEq, reduceIte, Nat.reduceBNe, Int.reducePow, Nat.reducePow, Int.reduceMul, Int.reduceNeg, isB_i, isB_b, isB_y, isBv_i, isBv_b, eqCells_t, TT]
        refine gen_hpB (fun H => H[0]? = some ⟨true, 29, boC m (roO xs sp c0)⟩ ∧ H[1]? = some ⟨true, 29, boC BM.zero nilS⟩ ∧ H[5]? = some ⟨true, 29, boC ⟨2, 0, m.xid, 0, m.all, 0, yi, 0, 0, m.mac, [], []⟩ (.sl 4 0 2 2)⟩ ∧ Opts H 4 true [⟨53, [UInt8.ofInt kind], 2, [], true⟩, ⟨54, be4 si, 3, [], true⟩] 0) ⟨?_, ?_, ?_, ⟨?_, fun _ => rfl, fun j e he => ?_, fun j l e f hij he hf => ?_⟩⟩ ?_
        · rw [unL_get]; simp [List.getElem?_append, List.getElem?_set, lm, mf, m1]; rw [u0]
        · rw [key _ 1 (by decide)]; simp [List.getElem?_append, List.getElem?_set, lm, mf, m1, m1b] <;> rfl
        · rw [key _ 5 (by decide)]; simp [List.getElem?_append, List.getElem?_set, lm, mf, m1, m1b] <;> rfl
        · rw [key _ 4 (by decide)]; simp [List.getElem?_append, List.getElem?_set, lm, mf, m1, m1b] <;> rfl
        · match j, he with
          | 0, he => cases he; exact ⟨by rw [key _ 2 (by decide)]; simp [List.getElem?_append, List.getElem?_set, lm, mf, m1, m1b] <;> rfl, fun _ => rfl⟩
          | 1, he => cases he; exact ⟨by rw [key _ 3 (by decide)]; simp [List.getElem?_append, List.getElem?_set, lm, mf, m1, m1b] <;> rfl, fun _ => rfl⟩
        · match j, l, he, hf with
          | 0, 0, _, _ => omega
          | 1, 1, _, _ => omega
          | 0, 1, he, hf => cases he; cases hf; show (2 : Nat) ≠ 3; decide
          | 1, 0, he, hf => cases he; cases hf; show (3 : Nat) ≠ 2; decide
        rintro H ⟨a0, a1, aq, O⟩
        have la0 := lt_of a0
        have la1 := lt_of a1
        have laq := lt_of aq
        by_cases hk : kind = 5
        · have dk : decide (kind = 5) = true := by simpa using hk
          rw [if_pos hk]
          simp (maxSteps := 4000000) only [Try.results17, dk, a0, a1, aq, la0, la1, laq, List.append_assoc, List.getElem?_append_left, List.getElem?_append_right, List.length_append, List.length_set, List.set_append_left, gset, List.getElem?_set_ne, Nat.add_sub_cancel_left, Nat.sub_self, Nat.le_refl, Nat.le_add_right, List.replicate_one, List.flatten_cons, List.flatten_nil, rep_flat, XX, Nat.reduceBEq, Nat.reduceLT, Nat.reduceAdd, Nat.reduceMul, Nat.reduceSub, Nat.reduceLeDiff, Nat.reduceEqDiff, Int.reduceToNat, Int.reduceLT, Int.reduceLE, Int.reduceAdd, Int.reduceSub, Int.reduceEq, reduceIte, Nat.reduceBNe, Int.reducePow, Nat.reducePow, Int.reduceMul, Int.reduceNeg, isB_i, isB_b, isB_y, isBv_i, isBv_b, eqCells_t, TT]
          have a1' : ∀ X, (H.set 5 X)[1]? = some ⟨true, 29, boC BM.zero nilS⟩ := fun X => by rw [List.getElem?_set_ne (by decide)]; exact a1
          exact ⟨4, true, [⟨53, [UInt8.ofInt kind], 2, [], true⟩, ⟨54, be4 si, 3, [], true⟩], 0, rfl, opts_set (opts_set O aq (fun h => absurd (show (29 : Nat) = 74 from h) (by decide)) (fun h => absurd (show (29 : Nat) = 5 from h) (by decide))) (a1' _) (fun h => absurd (show (29 : Nat) = 74 from h) (by decide)) (fun h => absurd (show (29 : Nat) = 5 from h) (by decide)), rfl⟩
        · have dk : decide (kind = 5) = false := by simpa using hk
          rw [if_neg hk]
          simp (maxSteps := 4000000) only [Try.results17, dk, a0, a1, aq, la0, la1, laq, List.append_assoc, List.getElem?_append_left, List.getElem?_append_right, List.length_append, List.length_set, List.set_append_left, gset, List.getElem?_set_ne, Nat.add_sub_cancel_left, Nat.sub_self, Nat.le_refl, Nat.le_add_right, List.replicate_one, List.flatten_cons, List.flatten_nil, rep_flat, XX, Nat.reduceBEq, Nat.reduceLT, Nat.reduceAdd, Nat.reduceMul, Nat.reduceSub, Nat.reduceLeDiff, Nat.reduceEqDiff, Int.reduceToNat, Int.reduceLT, Int.reduceLE, Int.reduceAdd, Int.reduceSub, Int.reduceEq, reduceIte, Nat.reduceBNe, Int.reducePow, Nat.reducePow, Int.reduceMul, Int.reduceNeg, isB_i, isB_b, isB_y, isBv_i, isBv_b, eqCells_t, TT]
          exact ⟨4, true, [⟨53, [UInt8.ofInt kind], 2, [], true⟩, ⟨54, be4 si, 3, [], true⟩], 0, rfl, opts_set O a1 (fun h => absurd (show (29 : Nat) = 74 from h) (by decide)) (fun h => absurd (show (29 : Nat) = 5 from h) (by decide)), rfl⟩
      · refine call_is (behind0_spec _ 4 2 2 (Nat.le_refl _)) ?_
        rintro _ _ ⟨rfl, rfl⟩
        simp (maxSteps := 4000000) only [Try.results17, PXT_done, PXT_pair, mf, m1, lm, List.flatten_cons, List.flatten_nil, List.cons_append, List.nil_append, List.append_nil, List.length_append, List.length_cons, List.length_nil, Nat.reduceAdd, List.replicate_succ, List.replicate_zero, List.drop_succ_cons, List.drop_zero, Nat.reduceLeDiff, reduceIte, List.append_assoc, List.append_assoc, List.getElem?_append_left, List.getElem?_append_right, List.length_append, List.length_set, List.set_append_left, gset, List.getElem?_set_ne, Nat.add_sub_cancel_left, Nat.sub_self, Nat.le_refl, Nat.le_add_right, List.replicate_one, List.flatten_cons, List.flatten_nil, rep_flat, XX, Nat.reduceBEq, Nat.reduceLT, Nat.reduceAdd, Nat.reduceMul, Nat.reduceSub, Nat.reduceLeDiff, Nat.reduceEqDiff, Int.reduceToNat, Int.reduceLT, Int.reduceLE, Int.reduceAdd, Int.reduceSub, Int.reduceEq, reduceIte, Nat.reduceBNe, Int.reducePow, Nat.reducePow, Int.reduceMul, Int.reduceNeg, isB_i, isB_b, isB_y, isBv_i, isBv_b, eqCells_t, TT]
        refine gen_hpB (fun H => H[0]? = some ⟨true, 29, boC m (roO xs sp c0)⟩ ∧ H[1]? = some ⟨true, 29, boC BM.zero nilS⟩ ∧ H[5]? = some ⟨true, 29, boC ⟨2, 0, m.xid, 0, m.all, 0, yi, 0, 0, m.mac, [], []⟩ (.sl 4 0 2 2)⟩ ∧ Opts H 4 true [⟨53, [UInt8.ofInt kind], 2, [], true⟩, ⟨54, be4 si, 3, [], true⟩] 0) ⟨?_, ?_, ?_, ⟨?_, fun _ => rfl, fun j e he => ?_, fun j l e f hij he hf => ?_⟩⟩ ?_
        · rw [unL_get]; simp [List.getElem?_append, List.getElem?_set, lm, mf, m1]; rw [u0]
        · rw [key _ 1 (by decide)]; simp [List.getElem?_append, List.getElem?_set, lm, mf, m1, m1b] <;> rfl
        · rw [key _ 5 (by decide)]; simp [List.getElem?_append, List.getElem?_set, lm, mf, m1, m1b] <;> rfl
        · rw [key _ 4 (by decide)]; simp [List.getElem?_append, List.getElem?_set, lm, mf, m1, m1b] <;> rfl
        · match j, he with
          | 0, he => cases he; exact ⟨by rw [key _ 2 (by decide)]; simp [List.getElem?_append, List.getElem?_set, lm, mf, m1, m1b] <;> rfl, fun _ => rfl⟩
          | 1, he => cases he; exact ⟨by rw [key _ 3 (by decide)]; simp [List.getElem?_append, List.getElem?_set, lm, mf, m1, m1b] <;> rfl, fun _ => rfl⟩
        · match j, l, he, hf with
          | 0, 0, _, _ => omega
          | 1, 1, _, _ => omega
          | 0, 1, he, hf => cases he; cases hf; show (2 : Nat) ≠ 3; decide
          | 1, 0, he, hf => cases he; cases hf; show (3 : Nat) ≠ 2; decide
        rintro H ⟨a0, a1, aq, O⟩
        have la0 := lt_of a0
        have la1 := lt_of a1
        have laq := lt_of aq
        by_cases hk : kind = 5
        · have dk : decide (kind = 5) = true := by simpa using hk
          rw [if_pos hk]
          simp (maxSteps := 4000000) only [Try.results17, dk, a0, a1, aq, la0, la1, laq, List.append_assoc, List.getElem?_append_left, List.getElem?_append_right, List.length_append, List.length_set, List.set_append_left, gset, List.getElem?_set_ne, Nat.add_sub_cancel_left, Nat.sub_self, Nat.le_refl, Nat.le_add_right, List.replicate_one, List.flatten_cons, List.flatten_nil, rep_flat, XX, Nat.reduceBEq, Nat.reduceLT, Nat.reduceAdd, Nat.reduceMul, Nat.reduceSub, Nat.reduceLeDiff, Nat.reduceEqDiff, Int.reduceToNat, Int.reduceLT, Int.reduceLE, Int.reduceAdd, Int.reduceSub, Int.reduceEq, reduceIte, Nat.reduceBNe, Int.reducePow, Nat.reducePow, Int.reduceMul, Int.reduceNeg, isB_i, isB_b, isB_y, isBv_i, isBv_b, eqCells_t, TT]
          have a1' : ∀ X, (H.set 5 X)[1]? = some ⟨true, 29, boC BM.zero nilS⟩ := fun X => by rw [List.getElem?_set_ne (by decide)]; exact a1
          exact ⟨4, true, [⟨53, [UInt8.ofInt kind], 2, [], true⟩, ⟨54, be4 si, 3, [], true⟩], 0, rfl, opts_set (opts_set O aq (fun h => absurd (show (29 : Nat) = 74 from h) (by decide)) (fun h => absurd (show (29 : Nat) = 5 from h) (by decide))) (a1' _) (fun h => absurd (show (29 : Nat) = 74 from h) (by decide)) (fun h => absurd (show (29 : Nat) = 5 from h) (by decide)), rfl⟩
        · have dk : decide (kind = 5) = false := by simpa using hk
          rw [if_neg hk]
          simp (maxSteps := 4000000) only [Try.results17, dk, a0, a1, aq, la0, la1, laq, List.append_assoc, List.getElem?_append_left, List.getElem?_append_right, List.length_append, List.length_set, List.set_append_left, gset, List.getElem?_set_ne, Nat.add_sub_cancel_left, Nat.sub_self, Nat.le_refl, Nat.le_add_right, List.replicate_one, List.flatten_cons, List.flatten_nil, rep_flat, XX, Nat.reduceBEq, Nat.reduceLT, Nat.reduceAdd, Nat.reduceMul, Nat.reduceSub, Nat.reduceLeDiff, Nat.reduceEqDiff, Int.reduceToNat, Int.reduceLT, Int.reduceLE, Int.reduceAdd, Int.reduceSub, Int.reduceEq, reduceIte, Nat.reduceBNe, Int.reducePow, Nat.reducePow, Int.reduceMul, Int.reduceNeg, isB_i, isB_b, isB_y, isBv_i, isBv_b, eqCells_t, TT]
          exact ⟨4, true, [⟨53, [UInt8.ofInt kind], 2, [], true⟩, ⟨54, be4 si, 3, [], true⟩], 0, rfl, opts_set O a1 (fun h => absurd (show (29 : Nat) = 74 from h) (by decide)) (fun h => absurd (show (29 : Nat) = 5 from h) (by decide)), rfl⟩
      · refine call_is (behind0_spec _ 5 2 2 (Nat.le_refl _)) ?_
        rintro _ _ ⟨rfl, rfl⟩
        simp (maxSteps := 4000000) only [Try.results17, PXT_done, PXT_pair, mf, m1, lm, List.flatten_cons, List.flatten_nil, List.cons_append, List.nil_append, List.append_nil, List.length_append, List.length_cons, List.length_nil, Nat.reduceAdd, List.replicate_succ, List.replicate_zero, List.drop_succ_cons, List.drop_zero, Nat.reduceLeDiff, reduceIte, List.append_assoc, List.append_assoc, List.getElem?_append_left, List.getElem?_append_right, List.length_append, List.length_set, List.set_append_left, gset, List.getElem?_set_ne, Nat.add_sub_cancel_left, Nat.sub_self, Nat.le_refl, Nat.le_add_right, List.replicate_one, List.flatten_cons, List.flatten_nil, rep_flat, XX, Nat.reduceBEq, Nat.reduceLT, Nat.reduceAdd, Nat.reduceMul, Nat.reduceSub, Nat.reduceLeDiff, Nat.reduceEqDiff, Int.reduceToNat, Int.reduceLT, Int.reduceLE, Int.reduceAdd, Int.reduceSub, Int.reduceEq, reduceIte, Nat.reduceBNe, Int.reducePow, Nat.reducePow, Int.reduceMul, Int.reduceNeg, isB_i, isB_b, isB_y, isBv_i, isBv_b, eqCells_t, TT]
        refine gen_hpB (fun H => H[0]? = some ⟨true, 29, boC m (roO xs sp c0)⟩ ∧ H[1]? = some ⟨true, 29, boC BM.zero nilS⟩ ∧ H[4]? = some ⟨true, 29, boC ⟨2, 0, m.xid, 0, m.all, 0, yi, 0, 0, m.mac, [], []⟩ (.sl 5 0 2 2)⟩ ∧ Opts H 5 true [⟨53, [UInt8.ofInt kind], 2, [], true⟩, ⟨54, be4 si, 3, [], true⟩] 0) ⟨?_, ?_, ?_, ⟨?_, fun _ => rfl, fun j e he => ?_, fun j l e f hij he hf => ?_⟩⟩ ?_
        · rw [unL_get]; simp [List.getElem?_append, List.getElem?_set, lm, mf, m1]; rw [u0]
        · rw [key _ 1 (by decide)]; simp [List.getElem?_append, List.getElem?_set, lm, mf, m1, m1b] <;> rfl
        · rw [key _ 4 (by decide)]; simp [List.getElem?_append, List.getElem?_set, lm, mf, m1, m1b] <;> rfl
        · rw [key _ 5 (by decide)]; simp [List.getElem?_append, List.getElem?_set, lm, mf, m1, m1b] <;> rfl
        · match j, he with
          | 0, he => cases he; exact ⟨by rw [key _ 2 (by decide)]; simp [List.getElem?_append, List.getElem?_set, lm, mf, m1, m1b] <;> rfl, fun _ => rfl⟩
          | 1, he => cases he; exact ⟨by rw [key _ 3 (by decide)]; simp [List.getElem?_append, List.getElem?_set, lm, mf, m1, m1b] <;> rfl, fun _ => rfl⟩
        · match j, l, he, hf with
          | 0, 0, _, _ => omega
          | 1, 1, _, _ => omega
          | 0, 1, he, hf => cases he; cases hf; show (2 : Nat) ≠ 3; decide
          | 1, 0, he, hf => cases he; cases hf; show (3 : Nat) ≠ 2; decide
        rintro H ⟨a0, a1, aq, O⟩
        have la0 := lt_of a0
        have la1 := lt_of a1
        have laq := lt_of aq
        by_cases hk : kind = 5
        · have dk : decide (kind = 5) = true := by simpa using hk
          rw [if_pos hk]
          simp (maxSteps := 4000000) only [Try.results17, dk, a0, a1, aq, la0, la1, laq, List.append_assoc, List.getElem?_append_left, List.getElem?_append_right, List.length_append, List.length_set, List.set_append_left, gset, List.getElem?_set_ne, Nat.add_sub_cancel_left, Nat.sub_self, Nat.le_refl, Nat.le_add_right, List.replicate_one, List.flatten_cons, List.flatten_nil, rep_flat, XX, Nat.reduceBEq, Nat.reduceLT, Nat.reduceAdd, Nat.reduceMul, Nat.reduceSub, Nat.reduceLeDiff, Nat.reduceEqDiff, Int.reduceToNat, Int.reduceLT, Int.reduceLE, Int.reduceAdd, Int.reduceSub, Int.reduceEq, reduceIte, Nat.reduceBNe, Int.reducePow, Nat.reducePow, Int.reduceMul, Int.reduceNeg, isB_i, isB_b, isB_y, isBv_i, isBv_b, eqCells_t, TT]
          have a1' : ∀ X, (H.set 4 X)[1]? = some ⟨true, 29, boC BM.zero nilS⟩ := fun X => by rw [List.getElem?_set_ne (by decide)]; exact a1
          exact ⟨5, true, [⟨53, [UInt8.ofInt kind], 2, [], true⟩, ⟨54, be4 si, 3, [], true⟩], 0, rfl, opts_set (opts_set O aq (fun h => absurd (show (29 : Nat) = 74 from h) (by decide)) (fun h => absurd (show (29 : Nat) = 5 from h) (by decide))) (a1' _) (fun h => absurd (show (29 : Nat) = 74 from h) (by decide)) (fun h => absurd (show (29 : Nat) = 5 from h) (by decide)), rfl⟩
        · have dk : decide (kind = 5) = false := by simpa using hk
          rw [if_neg hk]
          simp (maxSteps := 4000000) only [Try.results17, dk, a0, a1, aq, la0, la1, laq, List.append_assoc, List.getElem?_append_left, List.getElem?_append_right, List.length_append, List.length_set, List.set_append_left, gset, List.getElem?_set_ne, Nat.add_sub_cancel_left, Nat.sub_self, Nat.le_refl, Nat.le_add_right, List.replicate_one, List.flatten_cons, List.flatten_nil, rep_flat, XX, Nat.reduceBEq, Nat.reduceLT, Nat.reduceAdd, Nat.reduceMul, Nat.reduceSub, Nat.reduceLeDiff, Nat.reduceEqDiff, Int.reduceToNat, Int.reduceLT, Int.reduceLE, Int.reduceAdd, Int.reduceSub, Int.reduceEq, reduceIte, Nat.reduceBNe, Int.reducePow, Nat.reducePow, Int.reduceMul, Int.reduceNeg, isB_i, isB_b, isB_y, isBv_i, isBv_b, eqCells_t, TT]
          exact ⟨5, true, [⟨53, [UInt8.ofInt kind], 2, [], true⟩, ⟨54, be4 si, 3, [], true⟩], 0, rfl, opts_set O a1 (fun h => absurd (show (29 : Nat) = 74 from h) (by decide)) (fun h => absurd (show (29 : Nat) = 5 from h) (by decide)), rfl⟩
    · refine call_fz [.c (i64 54), .c (i32 si)] (numbered_spec 54 si hsi) (fun t h' h => by obtain ⟨rfl, rfl⟩ := h; exact ⟨rfl, by simp only [XX, Nat.reduceBEq, Nat.reduceLT, Nat.reduceAdd, Nat.reduceMul, Nat.reduceSub, Nat.reduceLeDiff, Nat.reduceEqDiff, Int.reduceToNat, Int.reduceLT, Int.reduceLE, Int.reduceAdd, Int.reduceSub, Int.reduceEq, reduceIte, Nat.reduceBNe, Int.reducePow, Nat.reducePow, Int.reduceMul, Int.reduceNeg, isB_i, isB_b, isB_y, isBv_i, isBv_b, eqCells_t, TT, ids_bsC, ren_bsC, noRo_bsC, plain_bsC, lt_bsC, ids_byte, ren_byte, noRo_byte, plain_byte, lt_byte]⟩) ⟨.inl ⟨rfl, rfl⟩, .inl ⟨rfl, rfl⟩, trivial⟩ ?_
      rintro _ _ ⟨rfl, rfl⟩
      simp (maxSteps := 4000000) only [Try.results17, PXT_done, PXT_pair, ids_bsC, ren_bsC, noRo_bsC, plain_bsC, lt_bsC, ids_byte, ren_byte, noRo_byte, plain_byte, lt_byte, lm, List.flatten_cons, List.flatten_nil, List.cons_append, List.nil_append, List.append_nil, List.length_append, List.length_cons, List.length_nil, Nat.reduceAdd, List.replicate_succ, List.replicate_zero, List.drop_succ_cons, List.drop_zero, Nat.reduceLeDiff, reduceIte, List.append_assoc, XX, Nat.reduceBEq, Nat.reduceLT, Nat.reduceAdd, Nat.reduceMul, Nat.reduceSub, Nat.reduceLeDiff, Nat.reduceEqDiff, Int.reduceToNat, Int.reduceLT, Int.reduceLE, Int.reduceAdd, Int.reduceSub, Int.reduceEq, reduceIte, Nat.reduceBNe, Int.reducePow, Nat.reducePow, Int.reduceMul, Int.reduceNeg, isB_i, isB_b, isB_y, isBv_i, isBv_b, eqCells_t, TT]
      refine call_is (behind0_spec _ 5 2 2 (Nat.le_refl _)) ?_
      rintro _ _ ⟨rfl, rfl⟩
      simp (maxSteps := 4000000) only [Try.results17, PXT_done, PXT_pair, mf, m1, lm, List.flatten_cons, List.flatten_nil, List.cons_append, List.nil_append, List.append_nil, List.length_append, List.length_cons, List.length_nil, Nat.reduceAdd, List.replicate_succ, List.replicate_zero, List.drop_succ_cons, List.drop_zero, Nat.reduceLeDiff, reduceIte, List.append_assoc, List.append_assoc, List.getElem?_append_left, List.getElem?_append_right, List.length_append, List.length_set, List.set_append_left, gset, List.getElem?_set_ne, Nat.add_sub_cancel_left, Nat.sub_self, Nat.le_refl, Nat.le_add_right, List.replicate_one, List.flatten_cons, List.flatten_nil, rep_flat, XX, Nat.reduceBEq, Nat.reduceLT, Nat.reduceAdd, Nat.reduceMul, Nat.reduceSub, Nat.reduceLeDiff, Nat.reduceEqDiff, Int.reduceToNat, Int.reduceLT, Int.reduceLE, Int.reduceAdd, Int.reduceSub, Int.reduceEq, reduceIte, Nat.reduceBNe, Int.reducePow, Nat.reducePow, Int.reduceMul, Int.reduceNeg, isB_i, isB_b, isB_y, isBv_i, isBv_b, eqCells_t, TT]
      refine gen_hpB (fun H => H[0]? = some ⟨true, 29, boC m (roO xs sp c0)⟩ ∧ H[1]? = some ⟨true, 29, boC BM.zero nilS⟩ ∧ H[3]? = some ⟨true, 29, boC ⟨2, 0, m.xid, 0, m.all, 0, yi, 0, 0, m.mac, [], []⟩ (.sl 5 0 2 2)⟩ ∧ Opts H 5 true [⟨53, [UInt8.ofInt kind], 2, [], true⟩, ⟨54, be4 si, 4, [], true⟩] 0) ⟨?_, ?_, ?_, ⟨?_, fun _ => rfl, fun j e he => ?_, fun j l e f hij he hf => ?_⟩⟩ ?_
      · rw [unL_get]; simp [List.getElem?_append, List.getElem?_set, lm, mf, m1]; rw [u0]
      · rw [key _ 1 (by decide)]; simp [List.getElem?_append, List.getElem?_set, lm, mf, m1, m1b] <;> rfl
      · rw [key _ 3 (by decide)]; simp [List.getElem?_append, List.getElem?_set, lm, mf, m1, m1b] <;> rfl
      · rw [key _ 5 (by decide)]; simp [List.getElem?_append, List.getElem?_set, lm, mf, m1, m1b] <;> rfl
      · match j, he with
        | 0, he => cases he; exact ⟨by rw [key _ 2 (by decide)]; simp [List.getElem?_append, List.getElem?_set, lm, mf, m1, m1b] <;> rfl, fun _ => rfl⟩
        | 1, he => cases he; exact ⟨by rw [key _ 4 (by decide)]; simp [List.getElem?_append, List.getElem?_set, lm, mf, m1, m1b] <;> rfl, fun _ => rfl⟩
      · match j, l, he, hf with
        | 0, 0, _, _ => omega
        | 1, 1, _, _ => omega
        | 0, 1, he, hf => cases he; cases hf; show (2 : Nat) ≠ 4; decide
        | 1, 0, he, hf => cases he; cases hf; show (4 : Nat) ≠ 2; decide
      rintro H ⟨a0, a1, aq, O⟩
      have la0 := lt_of a0
      have la1 := lt_of a1
      have laq := lt_of aq
      by_cases hk : kind = 5
      · have dk : decide (kind = 5) = true := by simpa using hk
        rw [if_pos hk]
        simp (maxSteps := 4000000) only [Try.results17, dk, a0, a1, aq, la0, la1, laq, List.append_assoc, List.getElem?_append_left, List.getElem?_append_right, List.length_append, List.length_set, List.set_append_left, gset, List.getElem?_set_ne, Nat.add_sub_cancel_left, Nat.sub_self, Nat.le_refl, Nat.le_add_right, List.replicate_one, List.flatten_cons, List.flatten_nil, rep_flat, XX, Nat.reduceBEq, Nat.reduceLT, Nat.reduceAdd, Nat.reduceMul, Nat.reduceSub, Nat.reduceLeDiff, Nat.reduceEqDiff, Int.reduceToNat, Int.reduceLT, Int.reduceLE, Int.reduceAdd, Int.reduceSub, Int.reduceEq, reduceIte, Nat.reduceBNe, Int.reducePow, Nat.reducePow, Int.reduceMul, Int.reduceNeg, isB_i, isB_b, isB_y, isBv_i, isBv_b, eqCells_t, TT]
        have a1' : ∀ X, (H.set 3 X)[1]? = some ⟨true, 29, boC BM.zero nilS⟩ := fun X => by rw [List.getElem?_set_ne (by decide)]; exact a1
        exact ⟨5, true, [⟨53, [UInt8.ofInt kind], 2, [], true⟩, ⟨54, be4 si, 4, [], true⟩], 0, rfl, opts_set (opts_set O aq (fun h => absurd (show (29 : Nat) = 74 from h) (by decide)) (fun h => absurd (show (29 : Nat) = 5 from h) (by decide))) (a1' _) (fun h => absurd (show (29 : Nat) = 74 from h) (by decide)) (fun h => absurd (show (29 : Nat) = 5 from h) (by decide)), rfl⟩
      · have dk : decide (kind = 5) = false := by simpa using hk
        rw [if_neg hk]
        simp (maxSteps := 4000000) only [Try.results17, dk, a0, a1, aq, la0, la1, laq, List.append_assoc, List.getElem?_append_left, List.getElem?_append_right, List.length_append, List.length_set, List.set_append_left, gset, List.getElem?_set_ne, Nat.add_sub_cancel_left, Nat.sub_self, Nat.le_refl, Nat.le_add_right, List.replicate_one, List.flatten_cons, List.flatten_nil, rep_flat, XX, Nat.reduceBEq, Nat.reduceLT, Nat.reduceAdd, Nat.reduceMul, Nat.reduceSub, Nat.reduceLeDiff, Nat.reduceEqDiff, Int.reduceToNat, Int.reduceLT, Int.reduceLE, Int.reduceAdd, Int.reduceSub, Int.reduceEq, reduceIte, Nat.reduceBNe, Int.reducePow, Nat.reducePow, Int.reduceMul, Int.reduceNeg, isB_i, isB_b, isB_y, isBv_i, isBv_b, eqCells_t, TT]
        exact ⟨5, true, [⟨53, [UInt8.ofInt kind], 2, [], true⟩, ⟨54, be4 si, 4, [], true⟩], 0, rfl, opts_set O a1 (fun h => absurd (show (29 : Nat) = 74 from h) (by decide)) (fun h => absurd (show (29 : Nat) = 5 from h) (by decide)), rfl⟩
  · refine call_fz [.c (i64 53), .c (i64 kind)] (byte_spec 53 kind) (fun t h' h => by obtain ⟨rfl, rfl⟩ := h; exact ⟨rfl, by simp only [XX, Nat.reduceBEq, Nat.reduceLT, Nat.reduceAdd, Nat.reduceMul, Nat.reduceSub, Nat.reduceLeDiff, Nat.reduceEqDiff, Int.reduceToNat, Int.reduceLT, Int.reduceLE, Int.reduceAdd, Int.reduceSub, Int.reduceEq, reduceIte, Nat.reduceBNe, Int.reducePow, Nat.reducePow, Int.reduceMul, Int.reduceNeg, isB_i, isB_b, isB_y, isBv_i, isBv_b, eqCells_t, TT, ids_bsC, ren_bsC, noRo_bsC, plain_bsC, lt_bsC, ids_byte, ren_byte, noRo_byte, plain_byte, lt_byte]⟩) ⟨.inl ⟨rfl, rfl⟩, .inl ⟨rfl, rfl⟩, trivial⟩ ?_
    rintro _ _ ⟨rfl, rfl⟩
    simp (maxSteps := 4000000) only [Try.results17, PXT_done, PXT_pair, ids_bsC, ren_bsC, noRo_bsC, plain_bsC, lt_bsC, ids_byte, ren_byte, noRo_byte, plain_byte, lt_byte, lm, List.flatten_cons, List.flatten_nil, List.cons_append, List.nil_append, List.append_nil, List.length_append, List.length_cons, List.length_nil, Nat.reduceAdd, List.replicate_succ, List.replicate_zero, List.drop_succ_cons, List.drop_zero, Nat.reduceLeDiff, reduceIte, List.append_assoc, XX, Nat.reduceBEq, Nat.reduceLT, Nat.reduceAdd, Nat.reduceMul, Nat.reduceSub, Nat.reduceLeDiff, Nat.reduceEqDiff, Int.reduceToNat, Int.reduceLT, Int.reduceLE, Int.reduceAdd, Int.reduceSub, Int.reduceEq, reduceIte, Nat.reduceBNe, Int.reducePow, Nat.reducePow, Int.reduceMul, Int.reduceNeg, isB_i, isB_b, isB_y, isBv_i, isBv_b, eqCells_t, TT]
    refine call_fz [.c (i64 54), .c (i32 si)] (numbered_spec 54 si hsi) (fun t h' h => by obtain ⟨rfl, rfl⟩ := h; exact ⟨rfl, by simp only [XX, Nat.reduceBEq, Nat.reduceLT, Nat.reduceAdd, Nat.reduceMul, Nat.reduceSub, Nat.reduceLeDiff, Nat.reduceEqDiff, Int.reduceToNat, Int.reduceLT, Int.reduceLE, Int.reduceAdd, Int.reduceSub, Int.reduceEq, reduceIte, Nat.reduceBNe, Int.reducePow, Nat.reducePow, Int.reduceMul, Int.reduceNeg, isB_i, isB_b, isB_y, isBv_i, isBv_b, eqCells_t, TT, ids_bsC, ren_bsC, noRo_bsC, plain_bsC, lt_bsC, ids_byte, ren_byte, noRo_byte, plain_byte, lt_byte]⟩) ⟨.inl ⟨rfl, rfl⟩, .inl ⟨rfl, rfl⟩, trivial⟩ ?_
    rintro _ _ ⟨rfl, rfl⟩
    simp (maxSteps := 4000000) only [Try.results17, PXT_done, PXT_pair, ids_bsC, ren_bsC, noRo_bsC, plain_bsC, lt_bsC, ids_byte, ren_byte, noRo_byte, plain_byte, lt_byte, lm, List.flatten_cons, List.flatten_nil, List.cons_append, List.nil_append, List.append_nil, List.length_append, List.length_cons, List.length_nil, Nat.reduceAdd, List.replicate_succ, List.replicate_zero, List.drop_succ_cons, List.drop_zero, Nat.reduceLeDiff, reduceIte, List.append_assoc, XX, Nat.reduceBEq, Nat.reduceLT, Nat.reduceAdd, Nat.reduceMul, Nat.reduceSub, Nat.reduceLeDiff, Nat.reduceEqDiff, Int.reduceToNat, Int.reduceLT, Int.reduceLE, Int.reduceAdd, Int.reduceSub, Int.reduceEq, reduceIte, Nat.reduceBNe, Int.reducePow, Nat.reducePow, Int.reduceMul, Int.reduceNeg, isB_i, isB_b, isB_y, isBv_i, isBv_b, eqCells_t, TT]
    refine call_is (behind0_spec _ 5 2 2 (Nat.le_refl _)) ?_
    rintro _ _ ⟨rfl, rfl⟩
    simp (maxSteps := 4000000) only [Try.results17, PXT_done, PXT_pair, mf, m1, lm, List.flatten_cons, List.flatten_nil, List.cons_append, List.nil_append, List.append_nil, List.length_append, List.length_cons, List.length_nil, Nat.reduceAdd, List.replicate_succ, List.replicate_zero, List.drop_succ_cons, List.drop_zero, Nat.reduceLeDiff, reduceIte, List.append_assoc, List.append_assoc, List.getElem?_append_left, List.getElem?_append_right, List.length_append, List.length_set, List.set_append_left, gset, List.getElem?_set_ne, Nat.add_sub_cancel_left, Nat.sub_self, Nat.le_refl, Nat.le_add_right, List.replicate_one, List.flatten_cons, List.flatten_nil, rep_flat, XX, Nat.reduceBEq, Nat.reduceLT, Nat.reduceAdd, Nat.reduceMul, Nat.reduceSub, Nat.reduceLeDiff, Nat.reduceEqDiff, Int.reduceToNat, Int.reduceLT, Int.reduceLE, Int.reduceAdd, Int.reduceSub, Int.reduceEq, reduceIte, Nat.reduceBNe, Int.reducePow, Nat.reducePow, Int.reduceMul, Int.reduceNeg, isB_i, isB_b, isB_y, isBv_i, isBv_b, eqCells_t, TT]
    refine gen_hpB (fun H => H[0]? = some ⟨true, 29, boC m (roO xs sp c0)⟩ ∧ H[1]? = some ⟨true, 29, boC BM.zero nilS⟩ ∧ H[2]? = some ⟨true, 29, boC ⟨2, 0, m.xid, 0, m.all, 0, yi, 0, 0, m.mac, [], []⟩ (.sl 5 0 2 2)⟩ ∧ Opts H 5 true [⟨53, [UInt8.ofInt kind], 3, [], true⟩, ⟨54, be4 si, 4, [], true⟩] 0) ⟨?_, ?_, ?_, ⟨?_, fun _ => rfl, fun j e he => ?_, fun j l e f hij he hf => ?_⟩⟩ ?_
    · rw [unL_get]; simp [List.getElem?_append, List.getElem?_set, lm, mf, m1]; rw [u0]
    · rw [key _ 1 (by decide)]; simp [List.getElem?_append, List.getElem?_set, lm, mf, m1, m1b] <;> rfl
    · rw [key _ 2 (by decide)]; simp [List.getElem?_append, List.getElem?_set, lm, mf, m1, m1b] <;> rfl
    · rw [key _ 5 (by decide)]; simp [List.getElem?_append, List.getElem?_set, lm, mf, m1, m1b] <;> rfl
    · match j, he with
      | 0, he => cases he; exact ⟨by rw [key _ 3 (by decide)]; simp [List.getElem?_append, List.getElem?_set, lm, mf, m1, m1b] <;> rfl, fun _ => rfl⟩
      | 1, he => cases he; exact ⟨by rw [key _ 4 (by decide)]; simp [List.getElem?_append, List.getElem?_set, lm, mf, m1, m1b] <;> rfl, fun _ => rfl⟩
    · match j, l, he, hf with
      | 0, 0, _, _ => omega
      | 1, 1, _, _ => omega
      | 0, 1, he, hf => cases he; cases hf; show (3 : Nat) ≠ 4; decide
      | 1, 0, he, hf => cases he; cases hf; show (4 : Nat) ≠ 3; decide
    rintro H ⟨a0, a1, aq, O⟩
    have la0 := lt_of a0
    have la1 := lt_of a1
    have laq := lt_of aq
    by_cases hk : kind = 5
    · have dk : decide (kind = 5) = true := by simpa using hk
      rw [if_pos hk]
      simp (maxSteps := 4000000) only [Try.results17, dk, a0, a1, aq, la0, la1, laq, List.append_assoc, List.getElem?_append_left, List.getElem?_append_right, List.length_append, List.length_set, List.set_append_left, gset, List.getElem?_set_ne, Nat.add_sub_cancel_left, Nat.sub_self, Nat.le_refl, Nat.le_add_right, List.replicate_one, List.flatten_cons, List.flatten_nil, rep_flat, XX, Nat.reduceBEq, Nat.reduceLT, Nat.reduceAdd, Nat.reduceMul, Nat.reduceSub, Nat.reduceLeDiff, Nat.reduceEqDiff, Int.reduceToNat, Int.reduceLT, Int.reduceLE, Int.reduceAdd, Int.reduceSub, Int.reduceEq, reduceIte, Nat.reduceBNe, Int.reducePow, Nat.reducePow, Int.reduceMul, Int.reduceNeg, isB_i, isB_b, isB_y, isBv_i, isBv_b, eqCells_t, TT]
      have a1' : ∀ X, (H.set 2 X)[1]? = some ⟨true, 29, boC BM.zero nilS⟩ := fun X => by rw [List.getElem?_set_ne (by decide)]; exact a1
      exact ⟨5, true, [⟨53, [UInt8.ofInt kind], 3, [], true⟩, ⟨54, be4 si, 4, [], true⟩], 0, rfl, opts_set (opts_set O aq (fun h => absurd (show (29 : Nat) = 74 from h) (by decide)) (fun h => absurd (show (29 : Nat) = 5 from h) (by decide))) (a1' _) (fun h => absurd (show (29 : Nat) = 74 from h) (by decide)) (fun h => absurd (show (29 : Nat) = 5 from h) (by decide)), rfl⟩
    · have dk : decide (kind = 5) = false := by simpa using hk
      rw [if_neg hk]
      simp (maxSteps := 4000000) only [Try.results17, dk, a0, a1, aq, la0, la1, laq, List.append_assoc, List.getElem?_append_left, List.getElem?_append_right, List.length_append, List.length_set, List.set_append_left, gset, List.getElem?_set_ne, Nat.add_sub_cancel_left, Nat.sub_self, Nat.le_refl, Nat.le_add_right, List.replicate_one, List.flatten_cons, List.flatten_nil, rep_flat, XX, Nat.reduceBEq, Nat.reduceLT, Nat.reduceAdd, Nat.reduceMul, Nat.reduceSub, Nat.reduceLeDiff, Nat.reduceEqDiff, Int.reduceToNat, Int.reduceLT, Int.reduceLE, Int.reduceAdd, Int.reduceSub, Int.reduceEq, reduceIte, Nat.reduceBNe, Int.reducePow, Nat.reducePow, Int.reduceMul, Int.reduceNeg, isB_i, isB_b, isB_y, isBv_i, isBv_b, eqCells_t, TT]
      exact ⟨5, true, [⟨53, [UInt8.ofInt kind], 3, [], true⟩, ⟨54, be4 si, 4, [], true⟩], 0, rfl, opts_set O a1 (fun h => absurd (show (29 : Nat) = 74 from h) (by decide)) (fun h => absurd (show (29 : Nat) = 5 from h) (by decide)), rfl⟩
end Go.Proofs.Ytgegddefcgfhgaa.Sx
namespace Go.Proofs.Ytgegddefcgfhgaa.Sx
open Go
set_option linter.unusedSimpArgs false
set_option linter.unusedVariables false
set_option maxRecDepth 10000
set_option maxHeartbeats 2000000
def frontB (m : BM) : List UInt8 := [UInt8.ofInt m.op, 1, 6, UInt8.ofInt m.hops] ++ be4 m.xid ++ be2 m.secs.toNat ++ flagB m ++ be4 m.ci ++ be4 m.yi ++ be4 m.si ++ be4 m.gi ++ m.mac.l ++ List.replicate 10 0
def padB (l : List UInt8) (n : Nat) : List UInt8 := l ++ List.replicate (n - l.length) 0
theorem padB_len {l : List UInt8} {n : Nat} (h : l.length ≤ n) : (padB l n).length = n := by simp [padB]; omega
theorem frontB_len (m : BM) : (frontB m).length = 44 := by
  unfold frontB flagB
  cases m.all <;> rfl
theorem encB_form (m : BM) (o bh : List UInt8) : encB m o ++ bh = frontB m ++ (padB m.sname 64 ++ (padB m.file 128 ++ ([99, 130, 83, 99] ++ (o ++ (List.replicate (60 - o.length) 0 ++ bh))))) := by
  simp only [encB, frontB, padB, List.append_assoc]
theorem textF_pad : ∀ {l : List UInt8} (n : Nat), (0 : UInt8) ∉ l → textF (l ++ List.replicate n 0) = l
  | [], 0, _ => rfl
  | [], n + 1, _ => by rw [List.nil_append, List.replicate_succ, textF, if_pos rfl]
  | x :: l, n, h => by
    have hx : x ≠ 0 := fun e => h (by rw [e]; exact List.mem_cons_self ..)
    rw [List.cons_append, textF, if_neg hx, textF_pad n (fun e => h (List.mem_cons_of_mem _ e))]
theorem front_get (m : BM) (R : List UInt8) : (frontB m ++ R).getD 0 0 = UInt8.ofInt m.op ∧ (frontB m ++ R).getD 1 0 = 1 ∧ (frontB m ++ R).getD 2 0 = 6 ∧ (frontB m ++ R).getD 3 0 = UInt8.ofInt m.hops ∧ (frontB m ++ R).getD 10 0 = (if m.all then 128 else 0) ∧ macAt (frontB m ++ R) = m.mac := by
  unfold frontB flagB
  cases m.all <;> exact ⟨rfl, rfl, rfl, rfl, rfl, rfl⟩
theorem be2_num {n : Nat} (h : n < 65536) : (UInt8.ofNat (n / 256)).toNat * 256 + (UInt8.ofNat n).toNat = n := by
  simp only [UInt8.toNat_ofNat']; omega
theorem be4_num {n : Nat} (h : n < 4294967296) : (((UInt8.ofNat (n / 16777216)).toNat * 256 + (UInt8.ofNat (n / 65536)).toNat) * 256 + (UInt8.ofNat (n / 256)).toNat) * 256 + (UInt8.ofNat n).toNat = n := by
  simp only [UInt8.toNat_ofNat']; omega
theorem front_num (m : BM) (hm : m.ok) (hs : m.secs.toNat < 65536) (R : List UInt8) : get4 (frontB m ++ R) 4 = m.xid ∧ get2 (frontB m ++ R) 8 = m.secs.toNat ∧ get4 (frontB m ++ R) 12 = m.ci ∧ get4 (frontB m ++ R) 16 = m.yi ∧ get4 (frontB m ++ R) 20 = m.si ∧ get4 (frontB m ++ R) 24 = m.gi := by
  refine ⟨.trans ?_ (be4_num hm.xid), .trans ?_ (be2_num hs), .trans ?_ (be4_num hm.ci), .trans ?_ (be4_num hm.yi), .trans ?_ (be4_num hm.si), .trans ?_ (be4_num hm.gi)⟩ <;> (unfold frontB flagB; cases m.all <;> rfl)
theorem ofInt_small {n : Int} (h : 0 ≤ n) (h2 : n < 256) : ((UInt8.ofInt n).toNat : Int) = n := by
  rw [← ofInt_nat h, UInt8.toNat_ofNat']; omega
theorem parse_pad {xs : List OI} (h : ¬ Bad xs) (hl : xs.length ≤ 64) (R : List UInt8) : parseA [(encAll xs ++ [255]) ++ R] [] = .ok (piL xs) := by
  rw [parseA, pack_parse h hl]; rfl
theorem bothF_none {is : List PI} (h : ∀ p ∈ is, p.1 ≠ 52) : bothF is = some 0 := by
  unfold bothF
  rw [List.find?_eq_none.2 fun p hp => by simpa using h p hp]
theorem delP_none {is : List PI} (h : ∀ p ∈ is, p.1 ≠ 52) : delP is = is := by
  rw [delP, List.filter_eq_self]
  intro p hp
  simpa using h p hp
theorem refF_zero {m : BM} {xs : List OI} (h : refF m xs = 0) : badB m = false ∧ zeroB m = false ∧ longB m = false ∧ overB xs = false := by
  unfold refF at h
  cases h1 : badB m || zeroB m with
  | true => rw [h1] at h; exact absurd h (by simp)
  | false =>
    rw [h1] at h
    cases h2 : longB m with
    | true => rw [h2] at h; exact absurd h (by simp)
    | false =>
      rw [h2] at h
      cases h3 : overB xs with
      | true => rw [h3] at h; exact absurd h (by simp)
      | false => exact ⟨(Bool.or_eq_false_iff.1 h1).1, (Bool.or_eq_false_iff.1 h1).2, rfl, rfl⟩
/-- What was written is read as it was, whatever stands behind it. -/
theorem dec_enc (m : BM) (hm : m.ok) (xs : List OI) (bh : List UInt8) (h0 : refF m xs = 0) (hb : ¬ Bad xs) (hl : xs.length ≤ 64) : decF (encB m (encAll xs ++ [255]) ++ bh) = (m, piL xs, 0) := by
  obtain ⟨b1, b2, b3, b4⟩ := refF_zero h0
  have hs : 0 ≤ m.secs ∧ m.secs ≤ 65535 ∧ 0 ≤ m.hops ∧ m.hops ≤ 255 ∧ (m.op = 1 ∨ m.op = 2) := by
    unfold badB at b1
    simp at b1
    omega
  have hl2 : m.sname.length ≤ 63 ∧ m.file.length ≤ 127 := by
    unfold longB at b3
    simp at b3
    omega
  have hz : (0 : UInt8) ∉ m.sname ∧ (0 : UInt8) ∉ m.file := by
    unfold zeroB at b2
    simpa using b2
  have h52 : ∀ p ∈ piL xs, p.1 ≠ 52 := by
    intro p hp
    obtain ⟨x, hx, rfl⟩ := List.mem_map.1 hp
    unfold overB at b4
    rw [List.any_eq_false] at b4
    simpa using b4 x hx
  rw [encB_form]
  have d44 : ∀ R : List UInt8, (frontB m ++ R).drop 44 = R := fun R => List.drop_left' (frontB_len m)
  have q44 := padB_len (l := m.sname) (n := 64) (by omega)
  have q108 := padB_len (l := m.file) (n := 128) (by omega)
  obtain ⟨R, hR⟩ : ∃ R, R = List.replicate (60 - (encAll xs ++ [255]).length) 0 ++ bh := ⟨_, rfl⟩
  rw [← hR]
  obtain ⟨Y, hY⟩ : ∃ Y, Y = padB m.sname 64 ++ (padB m.file 128 ++ ([99, 130, 83, 99] ++ ((encAll xs ++ [255]) ++ R))) := ⟨_, rfl⟩
  rw [← hY]
  have e44 : (frontB m ++ Y).drop 44 = Y := d44 Y
  have e108 : (frontB m ++ Y).drop 108 = padB m.file 128 ++ ([99, 130, 83, 99] ++ ((encAll xs ++ [255]) ++ R)) := by
    rw [show 108 = 44 + 64 from rfl, ← List.drop_drop, e44, hY, List.drop_left' q44]
  have e236 : (frontB m ++ Y).drop 236 = [99, 130, 83, 99] ++ ((encAll xs ++ [255]) ++ R) := by
    rw [show 236 = 108 + 128 from rfl, ← List.drop_drop, e108, List.drop_left' q108]
  have e240 : (frontB m ++ Y).drop 240 = (encAll xs ++ [255]) ++ R := by
    rw [show 240 = 236 + 4 from rfl, ← List.drop_drop, e236]; rfl
  have lY : ¬ (frontB m ++ Y).length < 240 := by
    have := congrArg List.length e236
    rw [List.length_drop] at this
    simp at this ⊢
    omega
  obtain ⟨g0, g1, g2, g3, g10, gm⟩ := front_get m Y
  obtain ⟨n1, n2, n3, n4, n5, n6⟩ := front_num m hm (by omega) Y
  have o1 := ofInt_small (n := m.op) (by omega) (by omega)
  have o2 := ofInt_small (n := m.hops) (by omega) (by omega)
  unfold decF
  rw [if_neg lY, if_neg (by rw [g0, g1, g2]; have : (6 : UInt8).toNat = 6 := rfl; have : (1 : UInt8).toNat = 1 := rfl; omega), if_neg (by rw [e236]; simp), e240, parse_pad hb hl R]
  dsimp only
  rw [bothF_none h52]
  dsimp only
  have hp : partsK (frontB m ++ Y) 0 = [(encAll xs ++ [255]) ++ R] := by rw [partsK, e240]; rfl
  rw [hp, parse_pad hb hl R]
  dsimp only
  rw [delP_none h52]
  have t1 : textF (((frontB m ++ Y).drop 44).take 64) = m.sname := by
    rw [e44, hY, List.take_left' q44]; exact textF_pad _ hz.1
  have t2 : textF (((frontB m ++ Y).drop 108).take 128) = m.file := by
    rw [e108, List.take_left' q108]; exact textF_pad _ hz.2
  have ha : decide (128 ≤ (if m.all then (128 : UInt8) else 0).toNat) = m.all := by cases m.all <;> rfl
  have hsn : ((m.secs.toNat : Nat) : Int) = m.secs := by omega
  have : decM (frontB m ++ Y) 0 = m := by
    simp only [decM, g0, g3, g10, gm, n1, n2, n3, n4, n5, n6, t1, t2, o1, o2, ha, hsn]
    simp
  rw [this]
end Go.Proofs.Ytgegddefcgfhgaa.Sx
namespace Go.Proofs.Ytgegddefcgfhgaa.Sx
open Go
set_option linter.unusedSimpArgs false
set_option linter.unusedVariables false
set_option maxRecDepth 10000
set_option maxHeartbeats 2000000
abbrev marksO : List SC := [i64 (-71), nilS, i64 (-72), nilS]
abbrev rowL (es : List PE) : List SC := rowC es 0 ++ marksO
/-- Options that were lent, in memory. -/
structure LentO (H : List SB) (iO : Nat) (es : List PE) : Prop where
  row : H[iO]? = some (optB true (rowL es))
  at_ : ∀ (i : Nat) (e : PE), es[i]? = some e → H[e.w]? = some (wB e.o (e.d ++ e.sp)) ∧ (0 < e.d.length + e.sp.length → e.o = true)
  ne : ∀ (i j : Nat) (e f : PE), i ≠ j → es[i]? = some e → es[j]? = some f → e.w ≠ f.w
  sp : ∀ e ∈ es, e.sp = [71, 72] ∧ e.o = true
theorem LentO.neR {H : List SB} {iO : Nat} {es : List PE} {i : Nat} {e : PE} (O : LentO H iO es) (h : es[i]? = some e) : e.w ≠ iO :=
  ne_of_ty (O.at_ i e h).1 O.row (fun h => absurd h (by decide : (5 : Nat) ≠ 74))
theorem LentO.mono {H H' : List SB} {iO : Nat} {es : List PE} (O : LentO H iO es) (h : ∀ k, k < H.length → H'[k]? = H[k]?) : LentO H' iO es :=
  ⟨(h _ (lt_of O.row)).trans O.row, fun i e he => ⟨(h _ (lt_of (O.at_ i e he).1)).trans (O.at_ i e he).1, (O.at_ i e he).2⟩, O.ne, O.sp⟩
theorem LentO.app {H : List SB} {iO : Nat} {es : List PE} (O : LentO H iO es) (t : List SB) : LentO (H ++ t) iO es := O.mono fun k hk => List.getElem?_append_left hk
theorem LentO.fz {r : Nat → Nat} {n : Nat} {H : List SB} {iO : Nat} {es : List PE} (O : LentO H iO es) : frV true (fun _ => true) r n H (.c (.sl iO 0 es.length (es.length + 2))) (.c (roO (es.map PE.oi) [] (es.length + 2))) := by
  refine .inr (.inl ⟨_, _, rfl, rfl, .inr ⟨rfl, .inl ⟨_, _, _, rfl, ?_⟩⟩⟩)
  rw [List.length_map, List.append_nil]
  refine .inr (.inr ⟨iO, 0, rfl, .inr ⟨rfl, _, O.row, rfl, ?_⟩⟩)
  have := frL_rows (Z := (List.replicate 0 zeroO).flatten ++ marksO) O.at_
  rw [List.drop_zero]
  simp only [rowL, rowC, List.append_assoc]
  exact this
end Go.Proofs.Ytgegddefcgfhgaa.Sx
namespace Go.Proofs.Ytgegddefcgfhgaa.Sx
open Go
set_option linter.unusedSimpArgs false
set_option linter.unusedVariables false
set_option maxRecDepth 10000
set_option maxHeartbeats 2000000
theorem LentO.lt {H : List SB} {iO : Nat} {es : List PE} (L : LentO H iO es) {e : PE} (he : e ∈ es) : e.w < H.length := by
  obtain ⟨i, hi⟩ := List.mem_iff_getElem?.1 he
  exact lt_of (L.at_ i e hi).1
end Go.Proofs.Ytgegddefcgfhgaa.Sx
namespace Go.Proofs.Ytgegddefcgfhgaa.Sx
open Go
set_option linter.unusedSimpArgs false
set_option linter.unusedVariables false
set_option maxRecDepth 10000
set_option maxHeartbeats 8000000
abbrev mL : BM := ⟨1, 0, 1234, 5, true, 0, 0, 0, 0, ⟨2, 0, 0, 0, 0, 7⟩, [], []⟩
theorem mL_ok : mL.ok := ⟨by decide, by decide, by decide, by decide, by decide, by decide, by decide, by decide, by decide, by decide⟩
theorem one_pi {es : List PE} {a : PI} (h : es.map PE.pi = [a]) : ∃ e, es = [e] ∧ e.k = a.1 ∧ e.d = a.2 := by
  obtain ⟨e1, r1, rfl, h1, h2⟩ := List.map_eq_cons_iff.1 h
  obtain rfl := List.map_eq_nil_iff.1 h2
  subst h1
  exact ⟨e1, rfl, rfl, rfl⟩
theorem one_good {x : OI} (h1 : 0 < x.k) (h2 : x.k < 255) : ¬ Bad [x] := by
  rintro ⟨i, y, hi, hb⟩
  match i, hi with
  | 0, hi =>
    cases hi
    rcases hb with h | h | ⟨z, hz, _⟩
    · omega
    · omega
    · exact absurd hz (by simp)
theorem live_spec : Spec cx.P 9 [] [] fun s _ => s.plain = true ∧ s = .c (bC true) := by
  have a0 := ask0_spec 1 ⟨2, 0, 0, 0, 0, 7⟩ 1234 5 0 (by decide)
  refine spec_of_X cx_ok Try.func9 rfl (by kernel_rfl) (by kernel_rfl) (Nat.le_of_ble_eq_true rfl) 400 8 ?_
  simp (maxSteps := 4000000) only [Try.results9, XX, Nat.reduceBEq, Nat.reduceLT, Nat.reduceAdd, Nat.reduceMul, Nat.reduceSub, Nat.reduceLeDiff, Nat.reduceEqDiff, Int.reduceToNat, Int.reduceLT, Int.reduceLE, Int.reduceAdd, Int.reduceSub, Int.reduceEq, reduceIte, Nat.reduceBNe, Int.reducePow, Nat.reducePow, Int.reduceMul, Int.reduceNeg, isB_i, isB_b, isB_y, isBv_i, isBv_b, eqCells_t, TT]
  refine call_msg [.c (i64 1), .agg [byteC 2, byteC 0, byteC 0, byteC 0, byteC 0, byteC 7], .c (i32 (1234 : Nat)), .c (i64 (5 : Nat)), .c (i32 (0 : Nat)), .c nilS] a0 ⟨.inl ⟨rfl, rfl⟩, .inl ⟨rfl, rfl⟩, .inl ⟨rfl, rfl⟩, .inl ⟨rfl, rfl⟩, .inl ⟨rfl, rfl⟩, .inl ⟨rfl, rfl⟩, trivial⟩ ?_
  rintro t o es r O hw hpi
  obtain ⟨⟨ek, ed, ew, esp, eo⟩, rfl, hk, hd⟩ := one_pi hpi
  dsimp only at hk hd
  subst hk; subst hd
  simp only [List.nil_append, List.length_nil] at O ⊢
  refine gen_hp (fun H => Opts H 0 o [⟨53, [1], ew, esp, eo⟩] r) O ?_
  clear O hw hpi t
  rintro H O
  obtain ⟨E1, hE1⟩ : ∃ E1 : List PE, E1 = [⟨53, [1], ew, esp, eo⟩] := ⟨_, rfl⟩
  have hok := O.oks (by intro e he; simp only [List.mem_cons, List.not_mem_nil, or_false] at he; subst he; exact ⟨by show (1 : Nat) ≤ _; decide, by show (-9223372036854775808 : Int) ≤ 53 ∧ (53 : Int) < 9223372036854775808; decide⟩)
  have hp1 : piL ([(⟨53, [1], ew, esp, eo⟩ : PE)].map PE.oi) = [(53, [1])] := rfl
  have nb := one_good (x := (⟨53, [1], ew, esp, eo⟩ : PE).oi) (by decide : (0 : Int) < 53) (by decide : (53 : Int) < 255)
  have eA : encAll ([(⟨53, [1], ew, esp, eo⟩ : PE)].map PE.oi) = [53, 1, 1] := by simp [encAll, encO, encN, pieceL, pcs, PE.oi]; try decide
  have sA : szO ([(⟨53, [1], ew, esp, eo⟩ : PE)].map PE.oi) = 3 := by simp [szO, pcs, PE.oi]
  have pk : packF ([(⟨53, [1], ew, esp, eo⟩ : PE)].map PE.oi) 1232 = ([53, 1, 1, 255], 0) := by
    have := packF_ok (room := 1232) (xs := [(⟨53, [1], ew, esp, eo⟩ : PE)].map PE.oi) nb (by simp) (by rw [sA]; decide)
    rw [eA] at this; exact this
  have r0 : refF mL ([(⟨53, [1], ew, esp, eo⟩ : PE)].map PE.oi) = 0 := rfl
  have q1 := encode_spec mL mL_ok ([(⟨53, [1], ew, esp, eo⟩ : PE)].map PE.oi) [] (1 + r) hok (by simp) (by show 2 ≤ 8589934592; decide)
  rw [show encF mL ([(⟨53, [1], ew, esp, eo⟩ : PE)].map PE.oi) = (encB mL [53, 1, 1, 255], 0) by unfold encF; rw [if_pos r0, pk]; rfl] at q1
  dsimp only at q1
  have D0 := dec_enc mL mL_ok ([(⟨53, [1], ew, esp, eo⟩ : PE)].map PE.oi) [] r0 nb (by simp)
  rw [List.append_nil, hp1, eA] at D0
  replace D0 : decF (encB mL [53, 1, 1, 255]) = (mL, [(53, [1])], 0) := D0
  clear r0 pk
  simp (maxSteps := 4000000) only [Try.results9, set_end, List.append_assoc, List.getElem?_append_left, List.getElem?_append_right, List.length_append, List.length_set, List.set_append_left, gset, List.getElem?_set_ne, Nat.add_sub_cancel_left, Nat.sub_self, Nat.le_refl, Nat.le_add_right, List.replicate_one, List.flatten_cons, List.flatten_nil, rep_flat, XX, Nat.reduceBEq, Nat.reduceLT, Nat.reduceAdd, Nat.reduceMul, Nat.reduceSub, Nat.reduceLeDiff, Nat.reduceEqDiff, Int.reduceToNat, Int.reduceLT, Int.reduceLE, Int.reduceAdd, Int.reduceSub, Int.reduceEq, reduceIte, Nat.reduceBNe, Int.reducePow, Nat.reducePow, Int.reduceMul, Int.reduceNeg, isB_i, isB_b, isB_y, isBv_i, isBv_b, eqCells_t, TT]
  obtain ⟨im, him⟩ : ∃ im, im = H.length := ⟨_, rfl⟩
  refine gen_call16 (fun G => Opts G 0 o [⟨53, [1], ew, esp, eo⟩] r ∧ G[im]? = some ⟨true, 29, boC mL (.sl 0 0 1 (1 + r))⟩) ⟨O.app _, by rw [him, List.getElem?_append_right (Nat.le_refl _), Nat.sub_self]; rfl⟩ ?_
  rw [← him]
  clear O
  rintro G ⟨O, gm⟩
  refine call_fz [.agg (boC mL (roO ([(⟨53, [1], ew, esp, eo⟩ : PE)].map PE.oi) [] (1 + r)))] q1 (fun t h' h => resB_noRo h) ⟨bo_fz O.frc, trivial⟩ ?_
  rintro _ _ ⟨z, ob, rfl, rfl, hob⟩
  have lB : (encB mL [53, 1, 1, 255]).length = 300 := by decide
  have b7 : (encB mL [53, 1, 1, 255])[7]? = some 210 := by decide
  have b236 : (encB mL [53, 1, 1, 255])[236]? = some 99 := by decide
  have b242 : (encB mL [53, 1, 1, 255])[242]? = some 1 := by decide
  have b243 : (encB mL [53, 1, 1, 255])[243]? = some 255 := by decide
  obtain rfl : ob = true := hob (by rw [lB]; omega)
  clear q1 eA sA nb
  generalize encB mL [53, 1, 1, 255] = B at *
  obtain ⟨iB, hiB⟩ : ∃ iB, iB = G.length := ⟨_, rfl⟩
  rw [← hiB]
  refine gen_hp (fun K => Opts K 0 o [⟨53, [1], ew, esp, eo⟩] r ∧ K[im]? = some ⟨true, 29, boC mL (.sl 0 0 1 (1 + r))⟩ ∧ K[iB]? = some (wB true (B ++ z))) ⟨O.app _, (List.getElem?_append_left (lt_of gm)).trans gm, by rw [hiB, List.getElem?_append_right (Nat.le_refl _), Nat.sub_self]; show some (SB.mk _ _ (List.map _ (bsC _))) = _; rw [ren_bsC]⟩ ?_
  clear O gm hiB
  rintro K ⟨O, gm, gB⟩
  simp (maxSteps := 4000000) only [Try.results9, ids_bsC, ren_bsC, noRo_bsC, plain_bsC, lt_bsC, ids_byte, ren_byte, noRo_byte, plain_byte, lt_byte, XX, Nat.reduceBEq, Nat.reduceLT, Nat.reduceAdd, Nat.reduceMul, Nat.reduceSub, Nat.reduceLeDiff, Nat.reduceEqDiff, Int.reduceToNat, Int.reduceLT, Int.reduceLE, Int.reduceAdd, Int.reduceSub, Int.reduceEq, reduceIte, Nat.reduceBNe, Int.reducePow, Nat.reducePow, Int.reduceMul, Int.reduceNeg, isB_i, isB_b, isB_y, isBv_i, isBv_b, eqCells_t, TT]
  have q2 := decode_spec B z (B.length + z.length) (by omega) (by omega)
  rw [D0] at q2
  refine call_dec [.c (roB B z (B.length + z.length))] q2 ⟨.inr (.inl ⟨_, _, rfl, rfl, fz_sl gB rfl rfl⟩), trivial⟩ ?_
  rintro t o2 es2 r2 O2 hw2 hpi2
  obtain ⟨⟨fk, fd, fw, fsp, fo⟩, rfl, hk, hd⟩ := one_pi hpi2
  dsimp only at hk hd
  subst hk; subst hd
  obtain ⟨iX, hiX⟩ : ∃ iX, iX = K.length := ⟨_, rfl⟩
  rw [← hiX] at O2 ⊢
  refine gen_hp (fun G => Opts G 0 o [⟨53, [1], ew, esp, eo⟩] r ∧ Opts G iX o2 [⟨53, [1], fw, fsp, fo⟩] r2 ∧ G[im]? = some ⟨true, 29, boC mL (.sl 0 0 1 (1 + r))⟩ ∧ G[iB]? = some (wB true (B ++ z))) ⟨O.app _, O2, (List.getElem?_append_left (lt_of gm)).trans gm, (List.getElem?_append_left (lt_of gB)).trans gB⟩ ?_
  clear O O2 gm gB hiX hw2 hpi2 q2
  rintro G ⟨O, O2, gm, gB⟩
  simp (maxSteps := 4000000) only [Try.results9, set_end, List.append_assoc, List.getElem?_append_left, List.getElem?_append_right, List.length_append, List.length_set, List.set_append_left, gset, List.getElem?_set_ne, Nat.add_sub_cancel_left, Nat.sub_self, Nat.le_refl, Nat.le_add_right, List.replicate_one, List.flatten_cons, List.flatten_nil, rep_flat, XX, Nat.reduceBEq, Nat.reduceLT, Nat.reduceAdd, Nat.reduceMul, Nat.reduceSub, Nat.reduceLeDiff, Nat.reduceEqDiff, Int.reduceToNat, Int.reduceLT, Int.reduceLE, Int.reduceAdd, Int.reduceSub, Int.reduceEq, reduceIte, Nat.reduceBNe, Int.reducePow, Nat.reducePow, Int.reduceMul, Int.reduceNeg, isB_i, isB_b, isB_y, isBv_i, isBv_b, eqCells_t, TT]
  obtain ⟨ix, hix⟩ : ∃ ix, ix = G.length := ⟨_, rfl⟩
  have hok2 : ∀ x ∈ ([⟨53, [1], fw, fsp, fo⟩] : List PE).map PE.oi, x.ok := O2.oks (by intro e he; simp only [List.mem_cons, List.not_mem_nil, or_false] at he; subst he; exact ⟨by show (1 : Nat) ≤ _; decide, by show (-9223372036854775808 : Int) ≤ 53 ∧ (53 : Int) < 9223372036854775808; decide⟩)
  have a1 := answer0_spec mL (([⟨53, [1], fw, fsp, fo⟩] : List PE).map PE.oi) [] (1 + r2) 5 7 9 (by decide)
  refine gen_call16 (fun K => Opts K 0 o [⟨53, [1], ew, esp, eo⟩] r ∧ Opts K iX o2 [⟨53, [1], fw, fsp, fo⟩] r2 ∧ K[im]? = some ⟨true, 29, boC mL (.sl 0 0 1 (1 + r))⟩ ∧ K[iB]? = some (wB true (B ++ z)) ∧ K[ix]? = some ⟨true, 29, boC mL (.sl iX 0 1 (1 + r2))⟩) ⟨O.app _, O2.app _, (List.getElem?_append_left (lt_of gm)).trans gm, (List.getElem?_append_left (lt_of gB)).trans gB, by rw [hix, List.getElem?_append_right (Nat.le_refl _), Nat.sub_self]; rfl⟩ ?_
  rw [← hix]
  clear O O2 gm gB hix
  rintro K ⟨O, O2, gm, gB, gx⟩
  refine call_msg [.c (i64 5), .agg (boC mL (roO (([⟨53, [1], fw, fsp, fo⟩] : List PE).map PE.oi) [] (1 + r2))), .c (i32 (7 : Nat)), .c (i32 (9 : Nat)), .c nilS] a1 ⟨.inl ⟨rfl, rfl⟩, bo_fz O2.frc, .inl ⟨rfl, rfl⟩, .inl ⟨rfl, rfl⟩, .inl ⟨rfl, rfl⟩, trivial⟩ ?_
  rintro t o3 es3 r3 O3 hw3 hpi3
  obtain ⟨gA, gB', rfl, hA1, hA2, hB1, hB2⟩ := two_pi hpi3
  obtain ⟨iA, hiA⟩ : ∃ iA, iA = K.length := ⟨_, rfl⟩
  rw [← hiA] at O3 ⊢
  refine gen_hp (fun G => Opts G 0 o [⟨53, [1], ew, esp, eo⟩] r ∧ Opts G iX o2 [⟨53, [1], fw, fsp, fo⟩] r2 ∧ G[im]? = some ⟨true, 29, boC mL (.sl 0 0 1 (1 + r))⟩ ∧ G[iB]? = some (wB true (B ++ z)) ∧ G[ix]? = some ⟨true, 29, boC mL (.sl iX 0 1 (1 + r2))⟩ ∧ Opts G iA o3 [gA, gB'] r3) ⟨O.app _, O2.app _, (List.getElem?_append_left (lt_of gm)).trans gm, (List.getElem?_append_left (lt_of gB)).trans gB, (List.getElem?_append_left (lt_of gx)).trans gx, O3⟩ ?_
  clear O O2 O3 gm gB gx hw3 hpi3 a1 hiA
  rintro G ⟨O, O2, gm, gB, gx, O3⟩
  have lm := lt_of gm
  have lx := lt_of gx
  have lB := lt_of gB
  simp (maxSteps := 4000000) only [Try.results9, set_end, gm, gx, gB, lm, lx, lB, List.append_assoc, List.getElem?_append_left, List.getElem?_append_right, List.length_append, List.length_set, List.set_append_left, gset, List.getElem?_set_ne, Nat.add_sub_cancel_left, Nat.sub_self, Nat.le_refl, Nat.le_add_right, List.replicate_one, List.flatten_cons, List.flatten_nil, rep_flat, XX, Nat.reduceBEq, Nat.reduceLT, Nat.reduceAdd, Nat.reduceMul, Nat.reduceSub, Nat.reduceLeDiff, Nat.reduceEqDiff, Int.reduceToNat, Int.reduceLT, Int.reduceLE, Int.reduceAdd, Int.reduceSub, Int.reduceEq, reduceIte, Nat.reduceBNe, Int.reducePow, Nat.reducePow, Int.reduceMul, Int.reduceNeg, isB_i, isB_b, isB_y, isBv_i, isBv_b, eqCells_t, TT]
  refine gen_call16 (fun K => Opts K 0 o [⟨53, [1], ew, esp, eo⟩] r ∧ Opts K iX o2 [⟨53, [1], fw, fsp, fo⟩] r2 ∧ K[im]? = some ⟨true, 29, boC mL (.sl 0 0 1 (1 + r))⟩ ∧ K[iB]? = some (wB true (B ++ z)) ∧ K[ix]? = some ⟨true, 29, boC mL (.sl iX 0 1 (1 + r2))⟩ ∧ Opts K iA o3 [gA, gB'] r3 ∧ K[G.length]? = some ⟨true, 29, boC ⟨2, 0, 1234, 0, true, 0, 7, 0, 0, ⟨2, 0, 0, 0, 0, 7⟩, [], []⟩ (.sl iA 0 2 (2 + r3))⟩) ⟨O.app _, O2.app _, (List.getElem?_append_left (lt_of gm)).trans gm, (List.getElem?_append_left (lt_of gB)).trans gB, (List.getElem?_append_left (lt_of gx)).trans gx, O3.app _, by rw [List.getElem?_append_right (Nat.le_refl _), Nat.sub_self]; rfl⟩ ?_
  clear O O2 O3 gm gB gx lm lx lB
  generalize G.length = ia
  rintro K ⟨O, O2, gm, gB, gx, O3, ga⟩
  refine call_pureF [.agg (boC mL (roO (([⟨53, [1], ew, esp, eo⟩] : List PE).map PE.oi) [] (1 + r))), .agg (boC mL (roO (([⟨53, [1], fw, fsp, fo⟩] : List PE).map PE.oi) [] (1 + r2)))] (same16_spec mL _ [] _ [] (1 + r) (1 + r2) rfl hok hok2 (by simp) (by simp)) ⟨bo_fz O.frc, bo_fz O2.frc, trivial⟩ ?_
  rintro _ rfl
  have lm := lt_of gm
  have lx := lt_of gx
  have lB := lt_of gB
  have la := lt_of ga
  have c7 := bs_get (l := B) (z := z) (i := 7) (by omega)
  have c236 := bs_get (l := B) (z := z) (i := 236) (by omega)
  have c242 := bs_get (l := B) (z := z) (i := 242) (by omega)
  have c243 := bs_get (l := B) (z := z) (i := 243) (by omega)
  rw [List.getD_eq_getElem?_getD (l := B), b7, Option.getD_some] at c7
  rw [List.getD_eq_getElem?_getD (l := B), b236, Option.getD_some] at c236
  rw [List.getD_eq_getElem?_getD (l := B), b242, Option.getD_some] at c242
  rw [List.getD_eq_getElem?_getD (l := B), b243, Option.getD_some] at c243
  have dl : decide ((B.length : Int) = 300) = true := by simp only [decide_eq_true_eq]; omega
  simp (maxSteps := 4000000) only [Try.results9, dl, set_end, gm, gx, gB, ga, lm, lx, lB, la, List.append_assoc, List.getElem?_append_left, List.getElem?_append_right, List.length_append, List.length_set, List.set_append_left, gset, List.getElem?_set_ne, Nat.add_sub_cancel_left, Nat.sub_self, Nat.le_refl, Nat.le_add_right, List.replicate_one, List.flatten_cons, List.flatten_nil, rep_flat, XX, Nat.reduceBEq, Nat.reduceLT, Nat.reduceAdd, Nat.reduceMul, Nat.reduceSub, Nat.reduceLeDiff, Nat.reduceEqDiff, Int.reduceToNat, Int.reduceLT, Int.reduceLE, Int.reduceAdd, Int.reduceSub, Int.reduceEq, reduceIte, Nat.reduceBNe, Int.reducePow, Nat.reducePow, Int.reduceMul, Int.reduceNeg, isB_i, isB_b, isB_y, isBv_i, isBv_b, eqCells_t, TT]
  have hok3 : ∀ x ∈ ([gA, gB'] : List PE).map PE.oi, x.ok := O3.oks (by
    intro e he
    simp only [List.mem_cons, List.not_mem_nil, or_false] at he
    have h1 : gA.k = 53 ∧ gA.d = [UInt8.ofInt 5] := ⟨hA1, hA2⟩
    have h2 : gB'.k = 54 ∧ gB'.d = be4 9 := ⟨hB1, hB2⟩
    rcases he with rfl | rfl
    · rw [h1.1, h1.2]; exact ⟨by show (1 : Nat) ≤ _; decide, by decide⟩
    · rw [h2.1, h2.2]; exact ⟨by show (4 : Nat) ≤ _; decide, by decide⟩)
  have s1 : (smallO (([⟨53, [1], fw, fsp, fo⟩] : List PE).map PE.oi) 53).1 = 1 := rfl
  have s2 : (smallO (([gA, gB'] : List PE).map PE.oi) 53).1 = 5 := by
    have h1 : gA.k = 53 ∧ gA.d = [UInt8.ofInt 5] := ⟨hA1, hA2⟩
    have h2 : findO (([gA, gB'] : List PE).map PE.oi) 53 = some gA.oi := by
      unfold findO
      rw [List.map_cons, List.find?_cons_of_pos (by simpa using h1.1)]
    unfold smallO
    rw [h2]
    dsimp only
    simp only [h1.2]; rfl
  have t1 := type_spec mL (([⟨53, [1], fw, fsp, fo⟩] : List PE).map PE.oi) [] (1 + r2) hok2 (by simp)
  have t2 := type_spec ⟨2, 0, 1234, 0, true, 0, 7, 0, 0, ⟨2, 0, 0, 0, 0, 7⟩, [], []⟩ (([gA, gB'] : List PE).map PE.oi) [] (2 + r3) hok3 (by simp)
  rw [s1] at t1
  rw [s2] at t2
  refine call_pureF [.agg (boC mL (roO (([⟨53, [1], fw, fsp, fo⟩] : List PE).map PE.oi) [] (1 + r2)))] t1 ⟨bo_fz O2.frc, trivial⟩ ?_
  rintro _ rfl
  simp (maxSteps := 4000000) only [Try.results9, set_end, gm, gx, gB, ga, lm, lx, lB, la, List.append_assoc, List.getElem?_append_left, List.getElem?_append_right, List.length_append, List.length_set, List.set_append_left, gset, List.getElem?_set_ne, Nat.add_sub_cancel_left, Nat.sub_self, Nat.le_refl, Nat.le_add_right, List.replicate_one, List.flatten_cons, List.flatten_nil, rep_flat, XX, Nat.reduceBEq, Nat.reduceLT, Nat.reduceAdd, Nat.reduceMul, Nat.reduceSub, Nat.reduceLeDiff, Nat.reduceEqDiff, Int.reduceToNat, Int.reduceLT, Int.reduceLE, Int.reduceAdd, Int.reduceSub, Int.reduceEq, reduceIte, Nat.reduceBNe, Int.reducePow, Nat.reducePow, Int.reduceMul, Int.reduceNeg, isB_i, isB_b, isB_y, isBv_i, isBv_b, eqCells_t, TT]
  refine call_pureF [.agg (boC ⟨2, 0, 1234, 0, true, 0, 7, 0, 0, ⟨2, 0, 0, 0, 0, 7⟩, [], []⟩ (roO (([gA, gB'] : List PE).map PE.oi) [] (2 + r3)))] t2 ⟨bo_fz O3.frc, trivial⟩ ?_
  rintro _ rfl
  simp (maxSteps := 4000000) only [Try.results9, set_end, gm, gx, gB, ga, lm, lx, lB, la, c7, c236, c242, c243, byteC, List.append_assoc, List.getElem?_append_left, List.getElem?_append_right, List.length_append, List.length_set, List.set_append_left, gset, List.getElem?_set_ne, Nat.add_sub_cancel_left, Nat.sub_self, Nat.le_refl, Nat.le_add_right, List.replicate_one, List.flatten_cons, List.flatten_nil, rep_flat, XX, Nat.reduceBEq, Nat.reduceLT, Nat.reduceAdd, Nat.reduceMul, Nat.reduceSub, Nat.reduceLeDiff, Nat.reduceEqDiff, Int.reduceToNat, Int.reduceLT, Int.reduceLE, Int.reduceAdd, Int.reduceSub, Int.reduceEq, reduceIte, Nat.reduceBNe, Int.reducePow, Nat.reducePow, Int.reduceMul, Int.reduceNeg, isB_i, isB_b, isB_y, isBv_i, isBv_b, eqCells_t, TT]
  have lz : 300 ≤ (bsC (B ++ z)).length := by rw [List.length_map, List.length_append]; omega
  exact ⟨by omega, by omega, fun _ => by omega, fun _ => by omega, fun _ => by omega, fun _ => by omega, fun _ => by omega, fun _ => by omega, rfl⟩
end Go.Proofs.Ytgegddefcgfhgaa.Sx
namespace Go.Proofs.Ytgegddefcgfhgaa.Sx
open Go
set_option linter.unusedSimpArgs false
set_option linter.unusedVariables false
set_option maxRecDepth 10000
set_option maxHeartbeats 2000000
theorem fz_nilB {ok : Nat → Bool} {r : Nat → Nat} {n : Nat} {h : List SB} {sp : List UInt8} : frC true ok r n h (.v (.slice none 0 0)) (roB [] sp 0) := .inr ⟨rfl, .inl ⟨_, _, _, rfl, .inr (.inl ⟨rfl, rfl, rfl⟩)⟩⟩
theorem bootpNumbers_walk : ∀ css, RTyL (RTy T reachBytes DEPTH) [] css → Spec Try.prog 5 (svs T [] css) [] fun r _ => r = .c (.v (.bool true)) := by
  intro css h
  obtain rfl := RTyL_nil h
  simp only [svs]
  have q2 := decode_spec [] [] 0 (by simp) (by simp)
  have D0 : decF [] = noM 5 := by unfold decF; rw [if_pos (by simp)]
  rw [D0] at q2
  refine spec_of_X cx_ok Try.func5 rfl (by kernel_rfl) (by kernel_rfl) (Nat.le_of_ble_eq_true rfl) 400 4 ?_
  simp (maxSteps := 4000000) only [Try.results5, XX, Nat.reduceBEq, Nat.reduceLT, Nat.reduceAdd, Nat.reduceMul, Nat.reduceSub, Nat.reduceLeDiff, Nat.reduceEqDiff, Int.reduceToNat, Int.reduceLT, Int.reduceLE, Int.reduceAdd, Int.reduceSub, Int.reduceEq, reduceIte, Nat.reduceBNe, Int.reducePow, Nat.reducePow, Int.reduceMul, Int.reduceNeg, isB_i, isB_b, isB_y, isBv_i, isBv_b, eqCells_t, TT]
  refine call_pureF [] (K := fun s => s = .c (bC true)) live_spec trivial ?_
  rintro _ rfl
  simp (maxSteps := 4000000) only [Try.results5, XX, Nat.reduceBEq, Nat.reduceLT, Nat.reduceAdd, Nat.reduceMul, Nat.reduceSub, Nat.reduceLeDiff, Nat.reduceEqDiff, Int.reduceToNat, Int.reduceLT, Int.reduceLE, Int.reduceAdd, Int.reduceSub, Int.reduceEq, reduceIte, Nat.reduceBNe, Int.reducePow, Nat.reducePow, Int.reduceMul, Int.reduceNeg, isB_i, isB_b, isB_y, isBv_i, isBv_b, eqCells_t, TT]
  refine call_dec [.c (roB [] [] 0)] q2 ⟨.inr (.inl ⟨_, _, rfl, rfl, fz_nilB⟩), trivial⟩ ?_
  rintro t o2 es2 r2 O2 hw2 hpi2
  simp (maxSteps := 4000000) only [Try.results5, set_end, List.append_assoc, List.getElem?_append_left, List.getElem?_append_right, List.length_append, List.length_set, List.set_append_left, gset, List.getElem?_set_ne, Nat.add_sub_cancel_left, Nat.sub_self, Nat.le_refl, Nat.le_add_right, List.replicate_one, List.flatten_cons, List.flatten_nil, rep_flat, XX, Nat.reduceBEq, Nat.reduceLT, Nat.reduceAdd, Nat.reduceMul, Nat.reduceSub, Nat.reduceLeDiff, Nat.reduceEqDiff, Int.reduceToNat, Int.reduceLT, Int.reduceLE, Int.reduceAdd, Int.reduceSub, Int.reduceEq, reduceIte, Nat.reduceBNe, Int.reducePow, Nat.reducePow, Int.reduceMul, Int.reduceNeg, isB_i, isB_b, isB_y, isBv_i, isBv_b, eqCells_t, TT]
  rfl
end Go.Proofs.Ytgegddefcgfhgaa.Sx
namespace Go.Proofs.Ytgegddefcgfhgaa.Sx
open Go
set_option linter.unusedSimpArgs false
set_option linter.unusedVariables false
set_option maxRecDepth 10000
set_option maxHeartbeats 4000000
theorem LentO.frc {r : Nat → Nat} {n : Nat} {H : List SB} {iO : Nat} {es : List PE} (O : LentO H iO es) : frC true (fun _ => true) r n H (.sl iO 0 es.length (es.length + 2)) (roO (es.map PE.oi) [] (es.length + 2)) := by
  rcases O.fz (r := r) (n := n) with ⟨_, h⟩ | ⟨x, y, h1, h2, h3⟩ | ⟨_, _, h1, _⟩
  · cases h
  · cases h1; cases h2; exact h3
  · cases h1
end Go.Proofs.Ytgegddefcgfhgaa.Sx
namespace Go.Proofs.Ytgegddefcgfhgaa.Sx
open Go
set_option linter.unusedSimpArgs false
set_option linter.unusedVariables false
set_option maxRecDepth 10000
set_option maxHeartbeats 4000000
theorem Opts.lt {H : List SB} {iO : Nat} {o : Bool} {es : List PE} {r : Nat} (O : Opts H iO o es r) {e : PE} (he : e ∈ es) : e.w < H.length := by
  obtain ⟨i, hi⟩ := List.mem_iff_getElem?.1 he
  exact lt_of (O.at_ i e hi).1
end Go.Proofs.Ytgegddefcgfhgaa.Sx
