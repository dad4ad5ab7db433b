/- The symbolic executor, at work: one call on both dices. No condition. -/
import Derived.Test.YtniednekfnfhmaaD6g
namespace Go.Proofs.Ytniednekfnfhmaa.Sx
open Go
set_option linter.unusedSimpArgs false
set_option linter.unusedVariables false
set_option maxRecDepth 10000
set_option maxHeartbeats 2000000

theorem binS_u {d : TD} {sz : List Bool} {fl : Bool} {op : BinOp} {k : IntKind} {a : Int} : binS d sz fl op (.c (.v (.int k a))) (.c (.v undef)) = .bad := by cases fl <;> rfl

theorem overU_step (b : Nat) (l : List Nat) (i : Nat) (hi : i < l.length) : (List.replicate i b ++ l.drop i).take i ++ [b] ++ (List.replicate i b ++ l.drop i).drop (i + 1) = List.replicate (i + 1) b ++ l.drop (i + 1) := by
  rw [List.take_left' (by simp), show i + 1 = (List.replicate i b).length + 1 by simp, List.drop_append, List.replicate_succ']
  simp [List.drop_drop]

/-- What was lent stands as it was: it is written over. -/
theorem asLentU_spec (H : List SB) (wx : Nat) (l sp : List Nat) (c : Nat) (hw : H[wx]? = some (wU true (l ++ [71, 72]))) (hl : 4 * l.length ≤ 140737488355328) :
    Spec cx.P 10 [.c (.sl wx 0 l.length (l.length + 2)), .c (roU l sp c)] H fun s h' => s = .c (bC true) ∧ h' = H.set wx (wU true (List.replicate (l.length + 2) 83)) := by
  have lt1 := lt_of hw
  have e1 : IntKind.i64.wrap ((l.length : Int) + 2) = ((l.length + 2 : Nat) : Int) := by rw [w64] <;> omega
  have e2 : IntKind.i64.wrap ((l.length : Int) + 1) = ((l.length + 1 : Nat) : Int) := by rw [w64] <;> omega
  have g1 : (usC (l ++ [71, 72])).getD l.length .any = SC.v (.int .u32 71) := by simp [List.getD]
  have g2 : (usC (l ++ [71, 72])).getD (l.length + 1) .any = SC.v (.int .u32 72) := by simp [List.getD]
  refine spec_of_X cx_ok Try.func10 rfl (by kernel_rfl) (by kernel_rfl) (Nat.le_of_ble_eq_true rfl) 400 8 ?_
  simp (maxSteps := 4000000) only [Try.results10, XX, Nat.reduceBEq, Nat.reduceLT, Nat.reduceAdd, Nat.reduceMul, Nat.reduceSub, Nat.reduceLeDiff, Nat.reduceEqDiff, Int.reduceToNat, Int.reduceLT, Int.reduceLE, Int.reduceAdd, Int.reduceSub, Int.reduceEq, reduceIte, Nat.reduceBNe, Int.reducePow, Nat.reducePow, Int.reduceMul, Int.reduceNeg, isB_i, isB_b, isB_y, isBv_i, isBv_b, eqCells_t, TT]
  simp (maxSteps := 4000000) only [Try.results10, e1, e2, g1, g2, hw, lt1, XX, Nat.reduceBEq, Nat.reduceLT, Nat.reduceAdd, Nat.reduceMul, Nat.reduceSub, Nat.reduceLeDiff, Nat.reduceEqDiff, Int.reduceToNat, Int.reduceLT, Int.reduceLE, Int.reduceAdd, Int.reduceSub, Int.reduceEq, reduceIte, Nat.reduceBNe, Int.reducePow, Nat.reducePow, Int.reduceMul, Int.reduceNeg, isB_i, isB_b, isB_y, isBv_i, isBv_b, eqCells_t, TT]
  refine ⟨by omega, ⟨by omega, by omega⟩, by simp, by omega, by simp, ?_⟩
  have hset : H.set wx (wU true (l ++ [71, 72])) = H := List.set_getElem?_self' hw
  refine loop_any cx_ok 400 (fun μ σ => ∃ i, μ = l.length + 2 - i ∧ i ≤ l.length + 2 ∧
      σ = ⟨⟨8, H.length⟩, [(1, .c (roU l sp c)), (5, .c (.sl wx 0 (l.length + 2) (l.length + 2))), (6, .c (bC true)), (7, .c (i64 (i : Nat)))], H.set wx (wU true (List.replicate i 83 ++ (l ++ [71, 72]).drop i))⟩) (l.length + 2)
    ⟨⟨8, H.length⟩, [(1, .c (roU l sp c)), (5, .c (.sl wx 0 (l.length + 2) (l.length + 2))), (6, .c (bC true)), (7, .c (i64 (0 : Nat)))], H.set wx (wU true (List.replicate 0 83 ++ (l ++ [71, 72]).drop 0))⟩ ⟨0, rfl, Nat.zero_le _, rfl⟩
    (.inl ⟨rfl, hset.symm, rfl, rfl, rfl, rfl, trivial⟩) ?_
  rintro μ σ ⟨i, rfl, hi, rfl⟩
  by_cases hlt : i < l.length + 2
  · have hd : decide ((i : Int) < ((l.length + 2 : Nat) : Int)) = true := by simp only [decide_eq_true_eq]; omega
    have e3 : IntKind.i64.wrap ((i : Int) + 1) = ((i + 1 : Nat) : Int) := by rw [w64] <;> omega
    obtain ⟨G, hG⟩ : ∃ G, G = H.set wx (wU true (List.replicate i 83 ++ (l ++ [71, 72]).drop i)) := ⟨_, rfl⟩
    have m : G[wx]? = some (wU true (List.replicate i 83 ++ (l ++ [71, 72]).drop i)) := by rw [hG]; exact List.getElem?_set_self lt1
    have hfin : ∀ X, G.set wx X = H.set wx X := fun X => by rw [hG, List.set_set]
    rw [← hG]
    clear hG
    have ltm := lt_of m
    obtain ⟨ox, mx⟩ : ∃ o, (maskL [wx] 0 G)[wx]? = some ⟨o, 37, usC (List.replicate i 83 ++ (l ++ [71, 72]).drop i)⟩ := maskL_at m
    have hok := kept_cons m rfl kept_nil
    have ltx := lt_of mx
    have hgd : (usC (List.replicate i 83 ++ (l ++ [71, 72]).drop i)).getD i .any = c32 ((l ++ [71, 72]).getD i 0) := by
      rw [List.getD_eq_getElem?_getD, List.getElem?_map, List.getElem?_append_right (by simp), List.length_replicate, Nat.sub_self, List.getElem?_drop, Nat.add_zero, List.getD_eq_getElem?_getD]
      have : i < (l ++ [71, 72]).length := by simpa using hlt
      rw [List.getElem?_eq_getElem this]; rfl
    simp (maxSteps := 4000000) only [Try.results10, hd, XX, Nat.reduceBEq, Nat.reduceLT, Nat.reduceAdd, Nat.reduceMul, Nat.reduceSub, Nat.reduceLeDiff, Nat.reduceEqDiff, Int.reduceToNat, Int.reduceLT, Int.reduceLE, Int.reduceAdd, Int.reduceSub, Int.reduceEq, reduceIte, Nat.reduceBNe, Int.reducePow, Nat.reducePow, Int.reduceMul, Int.reduceNeg, isB_i, isB_b, isB_y, isBv_i, isBv_b, eqCells_t, TT]
    have fin : ∀ cs : List SC, cs = (usC (List.replicate i 83 ++ (l ++ [71, 72]).drop i)).take i ++ [c32 83] ++ (usC (List.replicate i 83 ++ (l ++ [71, 72]).drop i)).drop (i + 1) → cs = usC (List.replicate (i + 1) 83 ++ (l ++ [71, 72]).drop (i + 1)) := by
      rintro _ rfl
      rw [us_take, us_drop, show [c32 83] = usC [83] from rfl, us_app, us_app, overU_step 83 (l ++ [71, 72]) i (by simpa using hlt)]
    by_cases h2 : i < l.length
    · have c2 : decide ((l.length : Int) ≤ (i : Int)) = false := by simp only [decide_eq_false_iff_not]; omega
      have hx : (l ++ [71, 72]).getD i 0 = l.getD i 0 := by simp [List.getD_eq_getElem?_getD, List.getElem?_append_left h2]
      obtain ⟨R, hR⟩ : ∃ R, (usR (l ++ sp)).drop i = r32 (l.getD i 0) :: R := by
        have : i < (usR (l ++ sp)).length := by simp; omega
        refine ⟨(usR (l ++ sp)).drop (i + 1), ?_⟩
        rw [List.drop_eq_getElem_cons this]
        congr 1
        rw [List.getElem_map, List.getElem_append_left h2, List.getD_eq_getElem?_getD, List.getElem?_eq_getElem h2, Option.getD_some]
      rw [hx] at hgd
      refine draw_of cx_ok (by kernel_rfl) 400 [wx] [(0, true), (1, true), (2, true), (3, true), (4, true), (5, true), (6, true), (7, true), (8, true), (9, true), (10, true), (11, true), (12, true), (13, true), (14, true), (15, true), (16, true), (17, true), (18, true)] (by kernel_rfl) (by first | exact hok | simp [*]) ?_
      simp (maxSteps := 4000000) only [Try.results10, m, mx, ltm, ltx, unL_maskL, c2, hgd, hR, e3, XX, Nat.reduceBEq, Nat.reduceLT, Nat.reduceAdd, Nat.reduceMul, Nat.reduceSub, Nat.reduceLeDiff, Nat.reduceEqDiff, Int.reduceToNat, Int.reduceLT, Int.reduceLE, Int.reduceAdd, Int.reduceSub, Int.reduceEq, reduceIte, Nat.reduceBNe, Int.reducePow, Nat.reducePow, Int.reduceMul, Int.reduceNeg, isB_i, isB_b, isB_y, isBv_i, isBv_b, eqCells_t, TT]
      exact ⟨⟨by omega, by omega⟩, by simp; omega, ⟨by omega, by omega⟩, by omega, ⟨by omega, by omega⟩, by simp; omega, l.length + 2 - (i + 1), by omega, _, ⟨i + 1, rfl, by omega, rfl⟩, .inl ⟨rfl, (hfin _).trans (congrArg (fun x => H.set wx ⟨true, 37, x⟩) (fin _ (by simp))), rfl, rfl, rfl, rfl, trivial⟩⟩
    · have c2 : decide ((l.length : Int) ≤ (i : Int)) = true := by simp only [decide_eq_true_eq]; omega
      have ge0 : (([] : List RC).getD 0 (.v undef)).toSC = .v undef := rfl
      cases hR : (usR (l ++ sp)).drop i with
      | nil =>
        refine draw_of cx_ok (by kernel_rfl) 400 [wx] [(0, true), (1, true), (2, true), (3, true), (4, true), (5, true), (6, true), (7, true), (8, true), (9, true), (10, true), (11, true), (12, true), (13, true), (14, true), (15, true), (16, true), (17, true), (18, true)] (by kernel_rfl) (by first | exact hok | simp [*]) ?_
        simp (maxSteps := 4000000) only [Try.results10, m, mx, ltm, ltx, unL_maskL, c2, hgd, hR, binS_u, ge0, e3, XX, Nat.reduceBEq, Nat.reduceLT, Nat.reduceAdd, Nat.reduceMul, Nat.reduceSub, Nat.reduceLeDiff, Nat.reduceEqDiff, Int.reduceToNat, Int.reduceLT, Int.reduceLE, Int.reduceAdd, Int.reduceSub, Int.reduceEq, reduceIte, Nat.reduceBNe, Int.reducePow, Nat.reducePow, Int.reduceMul, Int.reduceNeg, isB_i, isB_b, isB_y, isBv_i, isBv_b, eqCells_t, TT]
        exact ⟨⟨by omega, by omega⟩, by simp; omega, l.length + 2 - (i + 1), by omega, _, ⟨i + 1, rfl, by omega, rfl⟩, .inl ⟨rfl, (hfin _).trans (congrArg (fun x => H.set wx ⟨true, 37, x⟩) (fin _ (by simp))), rfl, rfl, rfl, rfl, trivial⟩⟩
      | cons x R =>
        obtain ⟨z, rfl⟩ : ∃ z, x = r32 z := by
          have : x ∈ usR (l ++ sp) := List.mem_of_mem_drop (i := i) (by rw [hR]; exact .head _)
          simp only [List.mem_map] at this
          obtain ⟨z, _, rfl⟩ := this
          exact ⟨z, rfl⟩
        refine draw_of cx_ok (by kernel_rfl) 400 [wx] [(0, true), (1, true), (2, true), (3, true), (4, true), (5, true), (6, true), (7, true), (8, true), (9, true), (10, true), (11, true), (12, true), (13, true), (14, true), (15, true), (16, true), (17, true), (18, true)] (by kernel_rfl) (by first | exact hok | simp [*]) ?_
        simp (maxSteps := 4000000) only [Try.results10, m, mx, ltm, ltx, unL_maskL, c2, hgd, hR, binS_u, ge0, e3, XX, Nat.reduceBEq, Nat.reduceLT, Nat.reduceAdd, Nat.reduceMul, Nat.reduceSub, Nat.reduceLeDiff, Nat.reduceEqDiff, Int.reduceToNat, Int.reduceLT, Int.reduceLE, Int.reduceAdd, Int.reduceSub, Int.reduceEq, reduceIte, Nat.reduceBNe, Int.reducePow, Nat.reducePow, Int.reduceMul, Int.reduceNeg, isB_i, isB_b, isB_y, isBv_i, isBv_b, eqCells_t, TT]
        exact ⟨⟨by omega, by omega⟩, by simp; omega, l.length + 2 - (i + 1), by omega, _, ⟨i + 1, rfl, by omega, rfl⟩, .inl ⟨rfl, (hfin _).trans (congrArg (fun x => H.set wx ⟨true, 37, x⟩) (fin _ (by simp))), rfl, rfl, rfl, rfl, trivial⟩⟩
  · have hd : decide ((i : Int) < ((l.length + 2 : Nat) : Int)) = false := by simp only [decide_eq_false_iff_not]; omega
    simp (maxSteps := 4000000) only [Try.results10, hd, XX, Nat.reduceBEq, Nat.reduceLT, Nat.reduceAdd, Nat.reduceMul, Nat.reduceSub, Nat.reduceLeDiff, Nat.reduceEqDiff, Int.reduceToNat, Int.reduceLT, Int.reduceLE, Int.reduceAdd, Int.reduceSub, Int.reduceEq, reduceIte, Nat.reduceBNe, Int.reducePow, Nat.reducePow, Int.reduceMul, Int.reduceNeg, isB_i, isB_b, isB_y, isBv_i, isBv_b, eqCells_t, TT]
    obtain rfl : i = l.length + 2 := by omega
    rw [List.drop_of_length_le (by simp), List.append_nil]

theorem spanR1 {lo hi : Int} {n : Nat} (h : IntKind.u64.wrap (IntKind.u64.wrap hi - IntKind.u64.wrap lo) < 4294967295) : IntKind.u64.wrap (IntKind.u64.wrap (IntKind.u64.wrap hi - IntKind.u64.wrap lo) + 1) ≠ 0 ∧ IntKind.i64.wrap (IntKind.u64.wrap (IntKind.u64.wrap lo + (n : Int).tmod (IntKind.u64.wrap (IntKind.u64.wrap (IntKind.u64.wrap hi - IntKind.u64.wrap lo) + 1)))) = spanV lo hi n := by
  have h0 : IntKind.u64.wrap (IntKind.u64.wrap (IntKind.u64.wrap hi - IntKind.u64.wrap lo) + 1) ≠ 0 := by
    generalize IntKind.u64.wrap hi - IntKind.u64.wrap lo = x at h
    rw [wrap_u64 x] at h
    rw [wrap_u64, wrap_u64]; omega
  refine ⟨h0, ?_⟩
  unfold spanV
  rw [if_neg h0]
theorem spanR2 {lo hi : Int} {n : Nat} (hn : n < 4294967296) (h : ¬ IntKind.u64.wrap (IntKind.u64.wrap hi - IntKind.u64.wrap lo) < 4294967295) : IntKind.i64.wrap (IntKind.u64.wrap (IntKind.u64.wrap lo + (n : Int))) = spanV lo hi n := by
  unfold spanV
  split
  · rfl
  next h0 =>
    have : (n : Int).tmod (IntKind.u64.wrap (IntKind.u64.wrap (IntKind.u64.wrap hi - IntKind.u64.wrap lo) + 1)) = n := by
      refine Int.tmod_eq_of_lt (Int.natCast_nonneg n) ?_
      generalize IntKind.u64.wrap hi - IntKind.u64.wrap lo = x at h h0
      rw [wrap_u64 x] at h h0 ⊢
      rw [wrap_u64] at h0 ⊢
      omega
    rw [this]

theorem rspan_spec (H : List SB) (i w : Nat) (ow : Bool) (L : List Nat) (D : Rc H i w ow L) (hL : L.headD 0 < 4294967296) (lo hi : Int) (h : lo < hi) : Spec cx.P 23 [.c (.ptr i 0), .c (i64 lo), .c (i64 hi)] H fun t h' => t = .c (i64 (spanV lo hi (L.headD 0))) ∧ Rc h' i w ow L.tail ∧ h'.length = H.length ∧ ∀ k, k ≠ i → h'[k]? = H[k]? := by
  have d0 : decide (hi ≤ lo) = false := by simp only [decide_eq_false_iff_not]; omega
  have ww : IntKind.u64.wrap ((L.headD 0 : Nat) : Int) = ((L.headD 0 : Nat) : Int) := by rw [wu64] <;> omega
  refine spec_of_X cx_ok Try.func23 rfl (by kernel_rfl) (by kernel_rfl) (Nat.le_of_ble_eq_true rfl) 400 9 ?_
  simp (maxSteps := 4000000) only [Try.results23, XX, Nat.reduceBEq, Nat.reduceLT, Nat.reduceAdd, Nat.reduceMul, Nat.reduceSub, Nat.reduceLeDiff, Nat.reduceEqDiff, Int.reduceToNat, Int.reduceLT, Int.reduceLE, Int.reduceAdd, Int.reduceSub, Int.reduceEq, reduceIte, Nat.reduceBNe, Int.reducePow, Nat.reducePow, Int.reduceMul, Int.reduceNeg, isB_i, isB_b, isB_y, isBv_i, isBv_b, eqCells_t, TT]
  simp (maxSteps := 4000000) only [Try.results23, d0, XX, Nat.reduceBEq, Nat.reduceLT, Nat.reduceAdd, Nat.reduceMul, Nat.reduceSub, Nat.reduceLeDiff, Nat.reduceEqDiff, Int.reduceToNat, Int.reduceLT, Int.reduceLE, Int.reduceAdd, Int.reduceSub, Int.reduceEq, reduceIte, Nat.reduceBNe, Int.reducePow, Nat.reducePow, Int.reduceMul, Int.reduceNeg, isB_i, isB_b, isB_y, isBv_i, isBv_b, eqCells_t, TT]
  refine call_is (rnext_spec H i w ow L D) ?_
  rintro _ H1 ⟨rfl, D1, q1, q2⟩
  by_cases hx : IntKind.u64.wrap (IntKind.u64.wrap hi - IntKind.u64.wrap lo) < 4294967295
  · have dx : decide (IntKind.u64.wrap (IntKind.u64.wrap hi - IntKind.u64.wrap lo) < 4294967295) = true := by simpa using hx
    have e := spanR1 (n := L.headD 0) hx
    simp (maxSteps := 4000000) only [Try.results23, ww, dx, e.2, XX, Nat.reduceBEq, Nat.reduceLT, Nat.reduceAdd, Nat.reduceMul, Nat.reduceSub, Nat.reduceLeDiff, Nat.reduceEqDiff, Int.reduceToNat, Int.reduceLT, Int.reduceLE, Int.reduceAdd, Int.reduceSub, Int.reduceEq, reduceIte, Nat.reduceBNe, Int.reducePow, Nat.reducePow, Int.reduceMul, Int.reduceNeg, isB_i, isB_b, isB_y, isBv_i, isBv_b, eqCells_t, TT]
    exact ⟨e.1, D1, q1, q2⟩
  · have dx : decide (IntKind.u64.wrap (IntKind.u64.wrap hi - IntKind.u64.wrap lo) < 4294967295) = false := by simpa using hx
    simp (maxSteps := 4000000) only [Try.results23, ww, dx, spanR2 hL hx, XX, Nat.reduceBEq, Nat.reduceLT, Nat.reduceAdd, Nat.reduceMul, Nat.reduceSub, Nat.reduceLeDiff, Nat.reduceEqDiff, Int.reduceToNat, Int.reduceLT, Int.reduceLE, Int.reduceAdd, Int.reduceSub, Int.reduceEq, reduceIte, Nat.reduceBNe, Int.reducePow, Nat.reducePow, Int.reduceMul, Int.reduceNeg, isB_i, isB_b, isB_y, isBv_i, isBv_b, eqCells_t, TT]
    exact ⟨D1, q1, q2⟩
theorem rspan0_spec (H : List SB) (i : Nat) (lo hi : Int) (h : hi ≤ lo) : Spec cx.P 23 [.c (.ptr i 0), .c (i64 lo), .c (i64 hi)] H fun t h' => t = .c (i64 lo) ∧ h' = H := by
  have d0 : decide (hi ≤ lo) = true := by simp only [decide_eq_true_eq]; omega
  refine spec_of_X cx_ok Try.func23 rfl (by kernel_rfl) (by kernel_rfl) (Nat.le_of_ble_eq_true rfl) 400 9 ?_
  simp (maxSteps := 4000000) only [Try.results23, XX, Nat.reduceBEq, Nat.reduceLT, Nat.reduceAdd, Nat.reduceMul, Nat.reduceSub, Nat.reduceLeDiff, Nat.reduceEqDiff, Int.reduceToNat, Int.reduceLT, Int.reduceLE, Int.reduceAdd, Int.reduceSub, Int.reduceEq, reduceIte, Nat.reduceBNe, Int.reducePow, Nat.reducePow, Int.reduceMul, Int.reduceNeg, isB_i, isB_b, isB_y, isBv_i, isBv_b, eqCells_t, TT]
  simp (maxSteps := 4000000) only [Try.results23, d0, XX, Nat.reduceBEq, Nat.reduceLT, Nat.reduceAdd, Nat.reduceMul, Nat.reduceSub, Nat.reduceLeDiff, Nat.reduceEqDiff, Int.reduceToNat, Int.reduceLT, Int.reduceLE, Int.reduceAdd, Int.reduceSub, Int.reduceEq, reduceIte, Nat.reduceBNe, Int.reducePow, Nat.reducePow, Int.reduceMul, Int.reduceNeg, isB_i, isB_b, isB_y, isBv_i, isBv_b, eqCells_t, TT]
theorem rport_spec (H : List SB) (i w : Nat) (ow : Bool) (L : List Nat) (D : Rc H i w ow L) (hL : L.headD 0 < 4294967296) : Spec cx.P 24 [.c (.ptr i 0)] H fun t h' => t = .c (i64 ((49152 + L.headD 0 % 16384 : Nat) : Int)) ∧ Rc h' i w ow L.tail ∧ h'.length = H.length ∧ ∀ k, k ≠ i → h'[k]? = H[k]? := by
  have e : IntKind.i64.wrap (49152 + IntKind.i64.wrap (((L.headD 0 : Nat) : Int).tmod 16384)) = ((49152 + L.headD 0 % 16384 : Nat) : Int) := by
    have : ((L.headD 0 : Nat) : Int).tmod 16384 = ((L.headD 0 % 16384 : Nat) : Int) := rfl
    rw [this, w64 (x := ((L.headD 0 % 16384 : Nat) : Int)) (by omega) (by omega), w64] <;> omega
  refine spec_of_X cx_ok Try.func24 rfl (by kernel_rfl) (by kernel_rfl) (Nat.le_of_ble_eq_true rfl) 400 4 ?_
  simp (maxSteps := 4000000) only [Try.results24, XX, Nat.reduceBEq, Nat.reduceLT, Nat.reduceAdd, Nat.reduceMul, Nat.reduceSub, Nat.reduceLeDiff, Nat.reduceEqDiff, Int.reduceToNat, Int.reduceLT, Int.reduceLE, Int.reduceAdd, Int.reduceSub, Int.reduceEq, reduceIte, Nat.reduceBNe, Int.reducePow, Nat.reducePow, Int.reduceMul, Int.reduceNeg, isB_i, isB_b, isB_y, isBv_i, isBv_b, eqCells_t, TT]
  refine call_is (rnext_spec H i w ow L D) ?_
  rintro _ H1 ⟨rfl, D1, q1, q2⟩
  simp (maxSteps := 4000000) only [Try.results24, e, XX, Nat.reduceBEq, Nat.reduceLT, Nat.reduceAdd, Nat.reduceMul, Nat.reduceSub, Nat.reduceLeDiff, Nat.reduceEqDiff, Int.reduceToNat, Int.reduceLT, Int.reduceLE, Int.reduceAdd, Int.reduceSub, Int.reduceEq, reduceIte, Nat.reduceBNe, Int.reducePow, Nat.reducePow, Int.reduceMul, Int.reduceNeg, isB_i, isB_b, isB_y, isBv_i, isBv_b, eqCells_t, TT]
  exact ⟨D1, q1, q2⟩
theorem rbackoff_spec (H : List SB) (i w : Nat) (ow : Bool) (L : List Nat) (D : Rc H i w ow L) (hL : L.headD 0 < 4294967296) (base most tr : Int) (ht : tr < 9223372036854775808) : Spec cx.P 25 [.c (.ptr i 0), .c (i64 base), .c (i64 most), .c (i64 tr)] H fun t h' => t = .c (i64 ((waitV base most tr - waitV base most tr / 4 + L.headD 0 % (waitV base most tr / 2 + 1) : Nat) : Int)) ∧ Rc h' i w ow L.tail ∧ h'.length = H.length ∧ ∀ k, k ≠ i → h'[k]? = H[k]? := by
  have hD := doubled_spec base most tr ht
  have hw := waitV_in base most tr
  generalize waitV base most tr = W at *
  have ww : IntKind.u64.wrap ((L.headD 0 : Nat) : Int) = ((L.headD 0 : Nat) : Int) := by rw [wu64] <;> omega
  have e2 : (W : Int).tdiv 2 = ((W / 2 : Nat) : Int) := rfl
  have e4 : (W : Int).tdiv 4 = ((W / 4 : Nat) : Int) := rfl
  have f4 : IntKind.i64.wrap ((W / 4 : Nat) : Int) = ((W / 4 : Nat) : Int) := by rw [w64] <;> omega
  have f2 : IntKind.i64.wrap ((W / 2 : Nat) : Int) = ((W / 2 : Nat) : Int) := by rw [w64] <;> omega
  have f3 : IntKind.i64.wrap (((W / 2 : Nat) : Int) + 1) = ((W / 2 + 1 : Nat) : Int) := by rw [w64] <;> omega
  have f5 : IntKind.u64.wrap ((W / 2 + 1 : Nat) : Int) = ((W / 2 + 1 : Nat) : Int) := by rw [wu64] <;> omega
  have f6 : IntKind.i64.wrap ((W : Int) - ((W / 4 : Nat) : Int)) = ((W - W / 4 : Nat) : Int) := by rw [w64] <;> omega
  have l5 : L.headD 0 % (W / 2 + 1) ≤ L.headD 0 := Nat.mod_le _ _
  have e5 : ((L.headD 0 : Nat) : Int).tmod ((W / 2 + 1 : Nat) : Int) = ((L.headD 0 % (W / 2 + 1) : Nat) : Int) := rfl
  have f7 : IntKind.i64.wrap ((L.headD 0 % (W / 2 + 1) : Nat) : Int) = ((L.headD 0 % (W / 2 + 1) : Nat) : Int) := by rw [w64] <;> omega
  have f8 : IntKind.i64.wrap (((W - W / 4 : Nat) : Int) + ((L.headD 0 % (W / 2 + 1) : Nat) : Int)) = ((W - W / 4 + L.headD 0 % (W / 2 + 1) : Nat) : Int) := by rw [w64] <;> omega
  refine spec_of_X cx_ok Try.func25 rfl (by kernel_rfl) (by kernel_rfl) (Nat.le_of_ble_eq_true rfl) 400 11 ?_
  simp (maxSteps := 4000000) only [Try.results25, XX, Nat.reduceBEq, Nat.reduceLT, Nat.reduceAdd, Nat.reduceMul, Nat.reduceSub, Nat.reduceLeDiff, Nat.reduceEqDiff, Int.reduceToNat, Int.reduceLT, Int.reduceLE, Int.reduceAdd, Int.reduceSub, Int.reduceEq, reduceIte, Nat.reduceBNe, Int.reducePow, Nat.reducePow, Int.reduceMul, Int.reduceNeg, isB_i, isB_b, isB_y, isBv_i, isBv_b, eqCells_t, TT]
  refine call_plain hD rfl ?_
  rintro _ rfl
  simp (maxSteps := 4000000) only [Try.results25, XX, Nat.reduceBEq, Nat.reduceLT, Nat.reduceAdd, Nat.reduceMul, Nat.reduceSub, Nat.reduceLeDiff, Nat.reduceEqDiff, Int.reduceToNat, Int.reduceLT, Int.reduceLE, Int.reduceAdd, Int.reduceSub, Int.reduceEq, reduceIte, Nat.reduceBNe, Int.reducePow, Nat.reducePow, Int.reduceMul, Int.reduceNeg, isB_i, isB_b, isB_y, isBv_i, isBv_b, eqCells_t, TT]
  refine call_is (rnext_spec H i w ow L D) ?_
  rintro _ H1 ⟨rfl, D1, q1, q2⟩
  simp (maxSteps := 4000000) only [Try.results25, ww, e2, e4, f4, f2, f3, f5, f6, e5, f7, f8, XX, Nat.reduceBEq, Nat.reduceLT, Nat.reduceAdd, Nat.reduceMul, Nat.reduceSub, Nat.reduceLeDiff, Nat.reduceEqDiff, Int.reduceToNat, Int.reduceLT, Int.reduceLE, Int.reduceAdd, Int.reduceSub, Int.reduceEq, reduceIte, Nat.reduceBNe, Int.reducePow, Nat.reducePow, Int.reduceMul, Int.reduceNeg, isB_i, isB_b, isB_y, isBv_i, isBv_b, eqCells_t, TT]
  exact ⟨by omega, D1, q1, q2⟩

end Go.Proofs.Ytniednekfnfhmaa.Sx
