/- The symbolic executor, at work: messages of the net are read. No condition. -/
import Derived.Test.YtfpjabhlfjkhfaaI4c
import Derived.Test.YtfpjabhlfjkhfaaGt
import Derived.Test.YtfpjabhlfjkhfaaGr
namespace Go.Proofs.Ytfpjabhlfjkhfaa.Sx
open Go
set_option linter.unusedSimpArgs false
set_option linter.unusedVariables false
set_option linter.unusedSectionVars false
set_option maxRecDepth 10000
set_option maxHeartbeats 2000000

/-- A message that came out. -/
structure IM where
  k : Nat
  c : Nat
  r : Nat
  l : List UInt8
  e : Int
def resI (q : IM) (t : SV) (h' : List SB) : Prop := ∃ sp o, t = .tup [(true, icC q.k q.c q.r (slB 0 q.l sp)), (false, [i64 q.e])] ∧ h' = [wB o (q.l ++ sp)] ∧ (0 < q.l.length + sp.length → o = true)
theorem resI_noRo {q : IM} {t : SV} {h' : List SB} (h : resI q t h') : t.noRo = true ∧ (h'.all fun b => b.cells.all SC.noRo) = true := by
  obtain ⟨sp, o, rfl, rfl, _⟩ := h
  exact ⟨rfl, by simp only [XX, Nat.reduceBEq, Nat.reduceLT, Nat.reduceAdd, Nat.reduceMul, Nat.reduceSub, Nat.reduceLeDiff, Nat.reduceEqDiff, Int.reduceToNat, Int.reduceLT, Int.reduceLE, Int.reduceAdd, Int.reduceSub, Int.reduceEq, reduceIte, Nat.reduceBNe, Int.reducePow, Nat.reducePow, Int.reduceMul, Int.reduceNeg, isB_i, isB_b, isB_y, isBv_i, isBv_b, eqCells_t, TT, ids_bsC, ren_bsC, noRo_bsC, plain_bsC, lt_bsC, ids_byte, ren_byte, noRo_byte, plain_byte, lt_byte]⟩
theorem resI_of {P : Program} {f : FuncId} {args : List SV} {q : IM} (s : Spec P f args [] fun s h' => ∃ w sp o, s = .tup [(true, icC q.k q.c q.r (slB w q.l sp)), (false, [i64 q.e])] ∧ Buf h' w o q.l sp) : Spec P f args [] (resI q) :=
  s.wk fun t h' ⟨w, sp, o, h1, b⟩ => ⟨.tup [(true, icC q.k q.c q.r (slB 0 q.l sp)), (false, [i64 q.e])], [wB o (q.l ++ sp)], [some w], rfl, by simp only [XX, Nat.reduceBEq, Nat.reduceLT, Nat.reduceAdd, Nat.reduceMul, Nat.reduceSub, Nat.reduceLeDiff, Nat.reduceEqDiff, Int.reduceToNat, Int.reduceLT, Int.reduceLE, Int.reduceAdd, Int.reduceSub, Int.reduceEq, reduceIte, Nat.reduceBNe, Int.reducePow, Nat.reducePow, Int.reduceMul, Int.reduceNeg, isB_i, isB_b, isB_y, isBv_i, isBv_b, eqCells_t, TT, ids_bsC, ren_bsC, noRo_bsC, plain_bsC, lt_bsC, ids_byte, ren_byte, noRo_byte, plain_byte, lt_byte, b.at_], by subst h1; simp only [XX, Nat.reduceBEq, Nat.reduceLT, Nat.reduceAdd, Nat.reduceMul, Nat.reduceSub, Nat.reduceLeDiff, Nat.reduceEqDiff, Int.reduceToNat, Int.reduceLT, Int.reduceLE, Int.reduceAdd, Int.reduceSub, Int.reduceEq, reduceIte, Nat.reduceBNe, Int.reducePow, Nat.reducePow, Int.reduceMul, Int.reduceNeg, isB_i, isB_b, isB_y, isBv_i, isBv_b, eqCells_t, TT, ids_bsC, ren_bsC, noRo_bsC, plain_bsC, lt_bsC, ids_byte, ren_byte, noRo_byte, plain_byte, lt_byte], sp, o, rfl, rfl, b.own⟩
theorem resI_nil {P : Program} {f : FuncId} {args : List SV} {e : Int} (s : Spec P f args [] fun s _ => s.plain = true ∧ s = .tup [(true, icC 0 0 0 noC), (false, [i64 e])]) : Spec P f args [] (resI ⟨0, 0, 0, [], e⟩) :=
  s.wk fun t h' ⟨_, h1⟩ => ⟨.tup [(true, icC (0 : Nat) (0 : Nat) 0 (slB 0 [] [])), (false, [i64 e])], [wB false ([] ++ [])], [none], rfl, by simp only [XX, Nat.reduceBEq, Nat.reduceLT, Nat.reduceAdd, Nat.reduceMul, Nat.reduceSub, Nat.reduceLeDiff, Nat.reduceEqDiff, Int.reduceToNat, Int.reduceLT, Int.reduceLE, Int.reduceAdd, Int.reduceSub, Int.reduceEq, reduceIte, Nat.reduceBNe, Int.reducePow, Nat.reducePow, Int.reduceMul, Int.reduceNeg, isB_i, isB_b, isB_y, isBv_i, isBv_b, eqCells_t, TT, List.map_nil], by subst h1; exact .inr ⟨rfl, ⟨.inl ⟨rfl, rfl⟩, .inl ⟨rfl, rfl⟩, .inl ⟨rfl, rfl⟩, .inr (.inr ⟨_, _, rfl, .inl rfl⟩), trivial⟩, rfl, ⟨.inl ⟨rfl, rfl⟩, trivial⟩, trivial⟩, [], false, rfl, rfl, fun h => absurd h (by simp)⟩

def n16 (l : List UInt8) (k : Nat) : Nat := (l.getD k 0).toNat * 256 + (l.getD (k + 1) 0).toNat

def rawI (q : IM) (t : SV) (h' : List SB) : Prop := (q.l = [] ∧ t = .tup [(true, icC q.k q.c q.r noC), (false, [i64 q.e])]) ∨ ∃ w sp o, t = .tup [(true, icC q.k q.c q.r (slB w q.l sp)), (false, [i64 q.e])] ∧ Buf h' w o q.l sp
theorem resI_raw {P : Program} {f : FuncId} {args : List SV} {q : IM} (s : Spec P f args [] (rawI q)) : Spec P f args [] (resI q) := by
  obtain ⟨k, c, r, l, e⟩ := q
  refine s.wk fun t h' h => ?_
  rcases h with ⟨h0, h1⟩ | ⟨w, sp, o, h1, b⟩
  · dsimp only at h0 h1
    subst h0; subst h1
    exact ⟨.tup [(true, icC k c r (slB 0 [] [])), (false, [i64 e])], [wB false ([] ++ [])], [none], rfl, by simp only [XX, Nat.reduceBEq, Nat.reduceLT, Nat.reduceAdd, Nat.reduceMul, Nat.reduceSub, Nat.reduceLeDiff, Nat.reduceEqDiff, Int.reduceToNat, Int.reduceLT, Int.reduceLE, Int.reduceAdd, Int.reduceSub, Int.reduceEq, reduceIte, Nat.reduceBNe, Int.reducePow, Nat.reducePow, Int.reduceMul, Int.reduceNeg, isB_i, isB_b, isB_y, isBv_i, isBv_b, eqCells_t, TT, List.map_nil], .inr ⟨rfl, ⟨.inl ⟨rfl, rfl⟩, .inl ⟨rfl, rfl⟩, .inl ⟨rfl, rfl⟩, .inr (.inr ⟨_, _, rfl, .inl rfl⟩), trivial⟩, rfl, ⟨.inl ⟨rfl, rfl⟩, trivial⟩, trivial⟩, [], false, rfl, rfl, fun h => absurd h (by simp)⟩
  · exact ⟨.tup [(true, icC _ _ r (slB 0 l sp)), (false, [i64 e])], [wB o (l ++ sp)], [some w], rfl, by simp only [XX, Nat.reduceBEq, Nat.reduceLT, Nat.reduceAdd, Nat.reduceMul, Nat.reduceSub, Nat.reduceLeDiff, Nat.reduceEqDiff, Int.reduceToNat, Int.reduceLT, Int.reduceLE, Int.reduceAdd, Int.reduceSub, Int.reduceEq, reduceIte, Nat.reduceBNe, Int.reducePow, Nat.reducePow, Int.reduceMul, Int.reduceNeg, isB_i, isB_b, isB_y, isBv_i, isBv_b, eqCells_t, TT, ids_bsC, ren_bsC, noRo_bsC, plain_bsC, lt_bsC, ids_byte, ren_byte, noRo_byte, plain_byte, lt_byte, b.at_], by subst h1; simp only [XX, Nat.reduceBEq, Nat.reduceLT, Nat.reduceAdd, Nat.reduceMul, Nat.reduceSub, Nat.reduceLeDiff, Nat.reduceEqDiff, Int.reduceToNat, Int.reduceLT, Int.reduceLE, Int.reduceAdd, Int.reduceSub, Int.reduceEq, reduceIte, Nat.reduceBNe, Int.reducePow, Nat.reducePow, Int.reduceMul, Int.reduceNeg, isB_i, isB_b, isB_y, isBv_i, isBv_b, eqCells_t, TT, ids_bsC, ren_bsC, noRo_bsC, plain_bsC, lt_bsC, ids_byte, ren_byte, noRo_byte, plain_byte, lt_byte], sp, o, rfl, rfl, b.own⟩

/-- What reading comes to. -/
def idecR (l : List UInt8) : IM :=
  if l.length < 8 then ⟨0, 0, 0, [], 5⟩ else if 1480 < l.length then ⟨0, 0, 0, [], 2⟩ else if isum (l.take 2 ++ l.drop 4) ≠ n16 l 2 then ⟨0, 0, 0, [], 93⟩
  else if rightB (l.getD 0 0).toNat = false then ⟨0, 0, 0, [], 140⟩ else ⟨(l.getD 0 0).toNat, (l.getD 1 0).toNat, get4 l 4, l.drop 8, 0⟩

theorem idecS_spec (l sp : List UInt8) (c : Nat) (h : l.length < 8) : Spec cx.P 16 [.c (roB l sp c)] [] fun t _ => t.plain = true ∧ t = .tup [(true, icC 0 0 0 noC), (false, [i64 5])] := by
  have q1 : decide ((l.length : Int) < 8) = true := by simp only [decide_eq_true_eq]; omega
  refine spec_of_X cx_ok Try.func16 rfl (by kernel_rfl) (by kernel_rfl) (Nat.le_of_ble_eq_true rfl) 400 7 ?_
  simp (maxSteps := 4000000) only [Try.results16, XX, Nat.reduceBEq, Nat.reduceLT, Nat.reduceAdd, Nat.reduceMul, Nat.reduceSub, Nat.reduceLeDiff, Nat.reduceEqDiff, Int.reduceToNat, Int.reduceLT, Int.reduceLE, Int.reduceAdd, Int.reduceSub, Int.reduceEq, reduceIte, Nat.reduceBNe, Int.reducePow, Nat.reducePow, Int.reduceMul, Int.reduceNeg, isB_i, isB_b, isB_y, isBv_i, isBv_b, eqCells_t, TT]
  simp (maxSteps := 4000000) only [Try.results16, q1, XX, Nat.reduceBEq, Nat.reduceLT, Nat.reduceAdd, Nat.reduceMul, Nat.reduceSub, Nat.reduceLeDiff, Nat.reduceEqDiff, Int.reduceToNat, Int.reduceLT, Int.reduceLE, Int.reduceAdd, Int.reduceSub, Int.reduceEq, reduceIte, Nat.reduceBNe, Int.reducePow, Nat.reducePow, Int.reduceMul, Int.reduceNeg, isB_i, isB_b, isB_y, isBv_i, isBv_b, eqCells_t, TT]
  rfl
theorem ridecS_spec (l sp : List UInt8) (c : Nat) (h : l.length < 8) : Spec cx.P 17 [.c (roB l sp c)] [] fun t _ => t.plain = true ∧ t = .tup [(true, icC 0 0 0 noC), (false, [i64 5])] := by
  have q1 : decide ((l.length : Int) < 8) = true := by simp only [decide_eq_true_eq]; omega
  refine spec_of_X cx_ok Try.func17 rfl (by kernel_rfl) (by kernel_rfl) (Nat.le_of_ble_eq_true rfl) 400 8 ?_
  simp (maxSteps := 4000000) only [Try.results17, XX, Nat.reduceBEq, Nat.reduceLT, Nat.reduceAdd, Nat.reduceMul, Nat.reduceSub, Nat.reduceLeDiff, Nat.reduceEqDiff, Int.reduceToNat, Int.reduceLT, Int.reduceLE, Int.reduceAdd, Int.reduceSub, Int.reduceEq, reduceIte, Nat.reduceBNe, Int.reducePow, Nat.reducePow, Int.reduceMul, Int.reduceNeg, isB_i, isB_b, isB_y, isBv_i, isBv_b, eqCells_t, TT]
  simp (maxSteps := 4000000) only [Try.results17, q1, XX, Nat.reduceBEq, Nat.reduceLT, Nat.reduceAdd, Nat.reduceMul, Nat.reduceSub, Nat.reduceLeDiff, Nat.reduceEqDiff, Int.reduceToNat, Int.reduceLT, Int.reduceLE, Int.reduceAdd, Int.reduceSub, Int.reduceEq, reduceIte, Nat.reduceBNe, Int.reducePow, Nat.reducePow, Int.reduceMul, Int.reduceNeg, isB_i, isB_b, isB_y, isBv_i, isBv_b, eqCells_t, TT]
  rfl
theorem idecL_spec (l sp : List UInt8) (c : Nat) (h : 1480 < l.length) : Spec cx.P 16 [.c (roB l sp c)] [] fun t _ => t.plain = true ∧ t = .tup [(true, icC 0 0 0 noC), (false, [i64 2])] := by
  have q1 : decide ((l.length : Int) < 8) = false := by simp only [decide_eq_false_iff_not]; omega
  have q2 : decide (1480 < (l.length : Int)) = true := by simp only [decide_eq_true_eq]; omega
  refine spec_of_X cx_ok Try.func16 rfl (by kernel_rfl) (by kernel_rfl) (Nat.le_of_ble_eq_true rfl) 400 7 ?_
  simp (maxSteps := 4000000) only [Try.results16, XX, Nat.reduceBEq, Nat.reduceLT, Nat.reduceAdd, Nat.reduceMul, Nat.reduceSub, Nat.reduceLeDiff, Nat.reduceEqDiff, Int.reduceToNat, Int.reduceLT, Int.reduceLE, Int.reduceAdd, Int.reduceSub, Int.reduceEq, reduceIte, Nat.reduceBNe, Int.reducePow, Nat.reducePow, Int.reduceMul, Int.reduceNeg, isB_i, isB_b, isB_y, isBv_i, isBv_b, eqCells_t, TT]
  simp (maxSteps := 4000000) only [Try.results16, q1, q2, XX, Nat.reduceBEq, Nat.reduceLT, Nat.reduceAdd, Nat.reduceMul, Nat.reduceSub, Nat.reduceLeDiff, Nat.reduceEqDiff, Int.reduceToNat, Int.reduceLT, Int.reduceLE, Int.reduceAdd, Int.reduceSub, Int.reduceEq, reduceIte, Nat.reduceBNe, Int.reducePow, Nat.reducePow, Int.reduceMul, Int.reduceNeg, isB_i, isB_b, isB_y, isBv_i, isBv_b, eqCells_t, TT]
  rfl
theorem ridecL_spec (l sp : List UInt8) (c : Nat) (h : 1480 < l.length) : Spec cx.P 17 [.c (roB l sp c)] [] fun t _ => t.plain = true ∧ t = .tup [(true, icC 0 0 0 noC), (false, [i64 2])] := by
  have q1 : decide ((l.length : Int) < 8) = false := by simp only [decide_eq_false_iff_not]; omega
  have q2 : decide (1480 < (l.length : Int)) = true := by simp only [decide_eq_true_eq]; omega
  refine spec_of_X cx_ok Try.func17 rfl (by kernel_rfl) (by kernel_rfl) (Nat.le_of_ble_eq_true rfl) 400 8 ?_
  simp (maxSteps := 4000000) only [Try.results17, XX, Nat.reduceBEq, Nat.reduceLT, Nat.reduceAdd, Nat.reduceMul, Nat.reduceSub, Nat.reduceLeDiff, Nat.reduceEqDiff, Int.reduceToNat, Int.reduceLT, Int.reduceLE, Int.reduceAdd, Int.reduceSub, Int.reduceEq, reduceIte, Nat.reduceBNe, Int.reducePow, Nat.reducePow, Int.reduceMul, Int.reduceNeg, isB_i, isB_b, isB_y, isBv_i, isBv_b, eqCells_t, TT]
  simp (maxSteps := 4000000) only [Try.results17, q1, q2, XX, Nat.reduceBEq, Nat.reduceLT, Nat.reduceAdd, Nat.reduceMul, Nat.reduceSub, Nat.reduceLeDiff, Nat.reduceEqDiff, Int.reduceToNat, Int.reduceLT, Int.reduceLE, Int.reduceAdd, Int.reduceSub, Int.reduceEq, reduceIte, Nat.reduceBNe, Int.reducePow, Nat.reducePow, Int.reduceMul, Int.reduceNeg, isB_i, isB_b, isB_y, isBv_i, isBv_b, eqCells_t, TT]
  rfl

theorem idecV_spec (l sp : List UInt8) (c : Nat) (h8 : 8 ≤ l.length) (hl : l.length ≤ 1480) (hc : l.length ≤ c) : Spec cx.P 16 [.c (roB l sp c)] [] (resI (if isum (l.take 2 ++ l.drop 4) ≠ n16 l 2 then ⟨0, 0, 0, [], 93⟩
    else if rightB (l.getD 0 0).toNat = false then ⟨0, 0, 0, [], 140⟩ else ⟨(l.getD 0 0).toNat, (l.getD 1 0).toNat, get4 l 4, l.drop 8, 0⟩)) := by
  have q1 : decide ((l.length : Int) < 8) = false := by simp only [decide_eq_false_iff_not]; omega
  have q2 : decide (1480 < (l.length : Int)) = false := by simp only [decide_eq_false_iff_not]; omega
  have p2 := get2_spec l sp c 2 (by omega) hc (by omega)
  rw [show ((l.getD 2 0).toNat * 256 + (l.getD (2 + 1) 0).toNat : Nat) = n16 l 2 from rfl] at p2
  refine resI_raw ?_
  refine spec_of_X cx_ok Try.func16 rfl (by kernel_rfl) (by kernel_rfl) (Nat.le_of_ble_eq_true rfl) 400 7 ?_
  simp (maxSteps := 4000000) only [Try.results16, XX, Nat.reduceBEq, Nat.reduceLT, Nat.reduceAdd, Nat.reduceMul, Nat.reduceSub, Nat.reduceLeDiff, Nat.reduceEqDiff, Int.reduceToNat, Int.reduceLT, Int.reduceLE, Int.reduceAdd, Int.reduceSub, Int.reduceEq, reduceIte, Nat.reduceBNe, Int.reducePow, Nat.reducePow, Int.reduceMul, Int.reduceNeg, isB_i, isB_b, isB_y, isBv_i, isBv_b, eqCells_t, TT]
  simp (maxSteps := 4000000) only [Try.results16, q1, q2, XX, Nat.reduceBEq, Nat.reduceLT, Nat.reduceAdd, Nat.reduceMul, Nat.reduceSub, Nat.reduceLeDiff, Nat.reduceEqDiff, Int.reduceToNat, Int.reduceLT, Int.reduceLE, Int.reduceAdd, Int.reduceSub, Int.reduceEq, reduceIte, Nat.reduceBNe, Int.reducePow, Nat.reducePow, Int.reduceMul, Int.reduceNeg, isB_i, isB_b, isB_y, isBv_i, isBv_b, eqCells_t, TT]
  refine call_frame (p2) [] rfl rfl trivial rfl rfl ?_
  rintro _ _ ⟨rfl, rfl⟩
  simp (maxSteps := 4000000) only [Try.results16, ids_bsC, ren_bsC, noRo_bsC, plain_bsC, lt_bsC, ids_byte, ren_byte, noRo_byte, plain_byte, lt_byte, XX, Nat.reduceBEq, Nat.reduceLT, Nat.reduceAdd, Nat.reduceMul, Nat.reduceSub, Nat.reduceLeDiff, Nat.reduceEqDiff, Int.reduceToNat, Int.reduceLT, Int.reduceLE, Int.reduceAdd, Int.reduceSub, Int.reduceEq, reduceIte, Nat.reduceBNe, Int.reducePow, Nat.reducePow, Int.reduceMul, Int.reduceNeg, isB_i, isB_b, isB_y, isBv_i, isBv_b, eqCells_t, TT]
  refine draw_of cx_ok (by kernel_rfl) 400 [] [(0, true), (1, true), (2, true), (3, true), (7, true), (4, false), (5, false), (6, true), (8, true)] (by kernel_rfl) rfl ?_
  simp (maxSteps := 4000000) only [Try.results16, List.replicate_succ, List.replicate_zero, List.flatten_cons, List.flatten_nil, XX, Nat.reduceBEq, Nat.reduceLT, Nat.reduceAdd, Nat.reduceMul, Nat.reduceSub, Nat.reduceLeDiff, Nat.reduceEqDiff, Int.reduceToNat, Int.reduceLT, Int.reduceLE, Int.reduceAdd, Int.reduceSub, Int.reduceEq, reduceIte, Nat.reduceBNe, Int.reducePow, Nat.reducePow, Int.reduceMul, Int.reduceNeg, isB_i, isB_b, isB_y, isBv_i, isBv_b, eqCells_t, TT]
  refine ⟨⟨by omega, by omega⟩, ⟨by omega, by omega, by omega⟩, ?_⟩
  have eR : bsR (l ++ sp) = bsR (l.take 2 ++ (l.drop 2 ++ sp)) := by rw [← List.append_assoc, List.take_append_drop]
  have eD : (bsR (l ++ sp)).drop 4 = bsR (l.drop 4 ++ sp) := by rw [rs_drop, List.drop_append_of_le_length (by omega)]
  have lT : (l.take 2).length = 2 := by simp; omega
  have lD : (l.drop 4).length = l.length - 4 := by simp
  have p3 := osum_spec [(l.take 2, l.drop 2 ++ sp, c), (l.drop 4, sp, c - 4)] [] 2 (by simp) (by simp [bytesOf]; omega)
  rw [show bytesOf [(l.take 2, l.drop 2 ++ sp, c), (l.drop 4, sp, c - 4)] = l.take 2 ++ l.drop 4 by simp [bytesOf]] at p3
  refine call_pureF [.c (.ro ([(l.take 2, l.drop 2 ++ sp, c), (l.drop 4, sp, c - 4)].map partR ++ []) 2 2)] p3 ⟨fz_rows rfl rfl ⟨.inl (by rw [eR]; dsimp only; rw [lT]), .inl (by rw [eD]; dsimp only; rw [lD]), trivial⟩, trivial⟩ ?_
  rintro _ rfl
  have hx := isum_le (l.take 2 ++ l.drop 4)
  generalize isum (l.take 2 ++ l.drop 4) = x at hx ⊢
  have e2 : IntKind.u64.wrap (x : Int) = (x : Int) := by rw [wu64] <;> omega
  by_cases hx2 : x = n16 l 2
  · have q3 : decide ((x : Int) = (n16 l 2 : Int)) = true := by simp only [decide_eq_true_eq]; omega
    rw [if_neg (fun h => h hx2)]
    obtain ⟨R0, r0⟩ := dropAt (sp := sp) (l := l) (j := 0) (by omega)
    obtain ⟨R1, r1⟩ := dropAt (sp := sp) (l := l) (j := 1) (by omega)
    have r0' : ((bsR (l ++ sp)).getD 0 (RC.v undef)) = .v (.int .u8 (l.getD 0 0).toNat) := by rw [List.drop_zero] at r0; rw [r0]; rfl
    have r0l : 0 < (bsR (l ++ sp)).length := by simp; omega
    have b0 := (l.getD 0 0).toNat_lt
    have b1 := (l.getD 1 0).toNat_lt
    generalize (l.getD 0 0).toNat = x0 at r0' b0 ⊢
    generalize (l.getD 1 0).toNat = x1 at r1 b1 ⊢
    have w0 : IntKind.i64.wrap (x0 : Int) = (x0 : Int) := by rw [w64] <;> omega
    have w1 : IntKind.i64.wrap (x1 : Int) = (x1 : Int) := by rw [w64] <;> omega
    simp (maxSteps := 4000000) only [Try.results16, e2, q3, r0', w0, XX, Nat.reduceBEq, Nat.reduceLT, Nat.reduceAdd, Nat.reduceMul, Nat.reduceSub, Nat.reduceLeDiff, Nat.reduceEqDiff, Int.reduceToNat, Int.reduceLT, Int.reduceLE, Int.reduceAdd, Int.reduceSub, Int.reduceEq, reduceIte, Nat.reduceBNe, Int.reducePow, Nat.reducePow, Int.reduceMul, Int.reduceNeg, isB_i, isB_b, isB_y, isBv_i, isBv_b, eqCells_t, TT]
    refine ⟨by omega, r0l, ?_⟩
    refine call_plain (right_spec x0) rfl ?_
    rintro _ rfl
    simp (maxSteps := 4000000) only [Try.results16, XX, Nat.reduceBEq, Nat.reduceLT, Nat.reduceAdd, Nat.reduceMul, Nat.reduceSub, Nat.reduceLeDiff, Nat.reduceEqDiff, Int.reduceToNat, Int.reduceLT, Int.reduceLE, Int.reduceAdd, Int.reduceSub, Int.reduceEq, reduceIte, Nat.reduceBNe, Int.reducePow, Nat.reducePow, Int.reduceMul, Int.reduceNeg, isB_i, isB_b, isB_y, isBv_i, isBv_b, eqCells_t, TT]
    cases hr : rightB (x0 : Int)
    · simp (maxSteps := 4000000) only [Try.results16, hr, XX, Nat.reduceBEq, Nat.reduceLT, Nat.reduceAdd, Nat.reduceMul, Nat.reduceSub, Nat.reduceLeDiff, Nat.reduceEqDiff, Int.reduceToNat, Int.reduceLT, Int.reduceLE, Int.reduceAdd, Int.reduceSub, Int.reduceEq, reduceIte, Nat.reduceBNe, Int.reducePow, Nat.reducePow, Int.reduceMul, Int.reduceNeg, isB_i, isB_b, isB_y, isBv_i, isBv_b, eqCells_t, TT]
      exact .inl ⟨rfl, rfl⟩
    · simp (maxSteps := 4000000) only [Try.results16, hr, XX, Nat.reduceBEq, Nat.reduceLT, Nat.reduceAdd, Nat.reduceMul, Nat.reduceSub, Nat.reduceLeDiff, Nat.reduceEqDiff, Int.reduceToNat, Int.reduceLT, Int.reduceLE, Int.reduceAdd, Int.reduceSub, Int.reduceEq, reduceIte, Nat.reduceBNe, Int.reducePow, Nat.reducePow, Int.reduceMul, Int.reduceNeg, isB_i, isB_b, isB_y, isBv_i, isBv_b, eqCells_t, TT]
      rw [if_neg (by simp)]
      have p4 := get4_spec l sp c 4 (by omega) hc (by omega)
      have hg : get4 l 4 < 4294967296 := by
        have := (l.getD 4 0).toNat_lt
        have := (l.getD (4 + 1) 0).toNat_lt
        have := (l.getD (4 + 2) 0).toNat_lt
        have := (l.getD (4 + 3) 0).toNat_lt
        unfold get4; omega
      generalize get4 l 4 = g at p4 hg ⊢
      have e4 : IntKind.u32.wrap (g : Int) = (g : Int) := by rw [wu32] <;> omega
      have eD8 : (bsR (l ++ sp)).drop 8 = bsR (l.drop 8 ++ sp) := by rw [rs_drop, List.drop_append_of_le_length (by omega)]
      have lD8 : (l.drop 8).length = l.length - 8 := by simp
      have p5 := cloneA_spec (l.drop 8) sp (c - 8) (by omega) (by omega)
      unfold roB at p5
      rw [lD8] at p5
      refine call_frame (p4) [] rfl rfl trivial rfl rfl ?_
      rintro _ _ ⟨rfl, rfl⟩
      simp (maxSteps := 4000000) only [Try.results16, ids_bsC, ren_bsC, noRo_bsC, plain_bsC, lt_bsC, ids_byte, ren_byte, noRo_byte, plain_byte, lt_byte, XX, Nat.reduceBEq, Nat.reduceLT, Nat.reduceAdd, Nat.reduceMul, Nat.reduceSub, Nat.reduceLeDiff, Nat.reduceEqDiff, Int.reduceToNat, Int.reduceLT, Int.reduceLE, Int.reduceAdd, Int.reduceSub, Int.reduceEq, reduceIte, Nat.reduceBNe, Int.reducePow, Nat.reducePow, Int.reduceMul, Int.reduceNeg, isB_i, isB_b, isB_y, isBv_i, isBv_b, eqCells_t, TT]
      refine draw_of cx_ok (by kernel_rfl) 400 [] [(0, true), (1, true), (2, true), (3, true), (4, true), (5, true), (6, true), (7, true), (8, true), (9, true), (10, true), (11, true), (12, false), (13, true), (14, false), (15, true)] (by kernel_rfl) rfl ?_
      simp (maxSteps := 4000000) only [Try.results16, r0', r1, w0, w1, e4, eD8, XX, Nat.reduceBEq, Nat.reduceLT, Nat.reduceAdd, Nat.reduceMul, Nat.reduceSub, Nat.reduceLeDiff, Nat.reduceEqDiff, Int.reduceToNat, Int.reduceLT, Int.reduceLE, Int.reduceAdd, Int.reduceSub, Int.reduceEq, reduceIte, Nat.reduceBNe, Int.reducePow, Nat.reducePow, Int.reduceMul, Int.reduceNeg, isB_i, isB_b, isB_y, isBv_i, isBv_b, eqCells_t, TT]
      refine ⟨by omega, r0l, by omega, by omega, ⟨by omega, by omega, by omega⟩, ?_⟩
      refine call_fz [.c (.ro (bsR (l.drop 8 ++ sp)) (l.length - 8) (c - 8))] p5 (fun t h' h => resS_noRo h) ⟨.inl ⟨rfl, rfl⟩, trivial⟩ ?_
      rintro _ _ ⟨z, o, rfl, rfl, ho⟩
      simp (maxSteps := 4000000) only [Try.results16, ids_bsC, ren_bsC, noRo_bsC, plain_bsC, lt_bsC, ids_byte, ren_byte, noRo_byte, plain_byte, lt_byte, XX, Nat.reduceBEq, Nat.reduceLT, Nat.reduceAdd, Nat.reduceMul, Nat.reduceSub, Nat.reduceLeDiff, Nat.reduceEqDiff, Int.reduceToNat, Int.reduceLT, Int.reduceLE, Int.reduceAdd, Int.reduceSub, Int.reduceEq, reduceIte, Nat.reduceBNe, Int.reducePow, Nat.reducePow, Int.reduceMul, Int.reduceNeg, isB_i, isB_b, isB_y, isBv_i, isBv_b, eqCells_t, TT]
      exact .inr ⟨2, z, o, rfl, rfl, ho⟩
  · have q3 : decide ((x : Int) = (n16 l 2 : Int)) = false := by simp only [decide_eq_false_iff_not]; omega
    rw [if_pos hx2]
    simp (maxSteps := 4000000) only [Try.results16, e2, q3, XX, Nat.reduceBEq, Nat.reduceLT, Nat.reduceAdd, Nat.reduceMul, Nat.reduceSub, Nat.reduceLeDiff, Nat.reduceEqDiff, Int.reduceToNat, Int.reduceLT, Int.reduceLE, Int.reduceAdd, Int.reduceSub, Int.reduceEq, reduceIte, Nat.reduceBNe, Int.reducePow, Nat.reducePow, Int.reduceMul, Int.reduceNeg, isB_i, isB_b, isB_y, isBv_i, isBv_b, eqCells_t, TT]
    exact .inl ⟨rfl, rfl⟩

theorem eight {l : List UInt8} (h : 8 ≤ l.length) : ∃ a0 a1 a2 a3 a4 a5 a6 a7 t, l = a0 :: a1 :: a2 :: a3 :: a4 :: a5 :: a6 :: a7 :: t := by
  match l, h with
  | a0 :: a1 :: a2 :: a3 :: a4 :: a5 :: a6 :: a7 :: t, _ => exact ⟨_, _, _, _, _, _, _, _, _, rfl⟩

theorem be2_eq {x : Nat} {a b : UInt8} (h : x ≤ 65535) : be2 x = [a, b] ↔ x = a.toNat * 256 + b.toNat := by
  have ha := a.toNat_lt
  have hb := b.toNat_lt
  simp only [be2, List.cons.injEq, and_true, ← UInt8.toNat_inj, UInt8.toNat_ofNat']
  omega

/-- A message is as it is formed, where its sum is right. -/
theorem form_eq {l : List UInt8} (h8 : 8 ≤ l.length) : (icL (l.getD 0 0).toNat (l.getD 1 0).toNat (get4 l 4) (l.drop 8) (isum (icL (l.getD 0 0).toNat (l.getD 1 0).toNat (get4 l 4) (l.drop 8) 0)) = l) ↔ isum (l.take 2 ++ l.drop 4) = n16 l 2 := by
  obtain ⟨a0, a1, a2, a3, a4, a5, a6, a7, t, rfl⟩ := eight h8
  have h4 : be4 (get4 (a0 :: a1 :: a2 :: a3 :: a4 :: a5 :: a6 :: a7 :: t) 4) = [a4, a5, a6, a7] := by
    have := a4.toNat_lt
    have := a5.toNat_lt
    have := a6.toNat_lt
    have := a7.toNat_lt
    simp only [be4, get4, List.getD_cons_succ, List.getD_cons_zero, List.cons.injEq, and_true, ← UInt8.toNat_inj, UInt8.toNat_ofNat']
    omega
  have key : ∀ s, icL a0.toNat a1.toNat (get4 (a0 :: a1 :: a2 :: a3 :: a4 :: a5 :: a6 :: a7 :: t) 4) t s = a0 :: a1 :: (be2 s ++ (a4 :: a5 :: a6 :: a7 :: t)) := by
    intro s
    unfold icL
    rw [h4]
    simp
  have e0 : isum (icL a0.toNat a1.toNat (get4 (a0 :: a1 :: a2 :: a3 :: a4 :: a5 :: a6 :: a7 :: t) 4) t 0) = isum ([a0, a1] ++ (a4 :: a5 :: a6 :: a7 :: t)) := by
    rw [key]
    unfold isum
    congr 2
    have par : ∀ (k k' : Nat) (m : List UInt8), k % 2 = k' % 2 → wsum k m = wsum k' m := by
      intro k k' m
      induction m generalizing k k' with
      | nil => intro _; rfl
      | cons x m ih => intro hk; simp only [wsum, hk, ih (k + 1) (k' + 1) (by omega)]
    show wsum 0 (a0 :: a1 :: 0 :: 0 :: (a4 :: a5 :: a6 :: a7 :: t)) = wsum 0 (a0 :: a1 :: (a4 :: a5 :: a6 :: a7 :: t))
    simp only [wsum, par 4 2 _ rfl, par 5 3 _ rfl, par 6 4 _ rfl, par 7 5 _ rfl, par 8 6 _ rfl]
    simp
  show icL a0.toNat a1.toNat _ t (isum (icL a0.toNat a1.toNat _ t 0)) = _ ↔ isum ([a0, a1] ++ (a4 :: a5 :: a6 :: a7 :: t)) = a2.toNat * 256 + a3.toNat
  rw [e0, key]
  have hx := isum_le ([a0, a1] ++ (a4 :: a5 :: a6 :: a7 :: t))
  generalize isum ([a0, a1] ++ (a4 :: a5 :: a6 :: a7 :: t)) = x at hx ⊢
  rw [← be2_eq hx]
  constructor
  · intro h
    simp only [List.cons.injEq, true_and, be2, List.cons_append, List.nil_append] at h ⊢
    exact ⟨h.1, h.2.1, trivial⟩
  · intro h
    rw [h]
    rfl

theorem fz_any {r : Nat → Nat} {n : Nat} {h : List SB} {i : Nat} {l sp : List UInt8} {o : Bool} (hb : h[i]? = some (wB o (l ++ sp))) (ho : 0 < l.length + sp.length → o = true) : frC true (fun _ => true) r n h (slB i l sp) (roB l sp (l.length + sp.length)) := by
  by_cases hp : 0 < l.length + sp.length
  · have := ho hp
    subst this
    exact fz_sl hb rfl rfl
  · have h1 : l = [] := List.eq_nil_of_length_eq_zero (by omega)
    have h2 : sp = [] := List.eq_nil_of_length_eq_zero (by omega)
    subst h1; subst h2
    exact .inr ⟨rfl, .inl ⟨_, _, _, rfl, .inr (.inr ⟨i, 0, rfl, .inl ⟨rfl, rfl⟩⟩)⟩⟩

theorem ridecV_spec (l sp : List UInt8) (c : Nat) (h8 : 8 ≤ l.length) (hl : l.length ≤ 1480) (hc : l.length ≤ c) : Spec cx.P 17 [.c (roB l sp c)] [] (resI (if isum (l.take 2 ++ l.drop 4) ≠ n16 l 2 then ⟨0, 0, 0, [], 93⟩
    else if rightB (l.getD 0 0).toNat = false then ⟨0, 0, 0, [], 140⟩ else ⟨(l.getD 0 0).toNat, (l.getD 1 0).toNat, get4 l 4, l.drop 8, 0⟩)) := by
  have q1 : decide ((l.length : Int) < 8) = false := by simp only [decide_eq_false_iff_not]; omega
  have q2 : decide (1480 < (l.length : Int)) = false := by simp only [decide_eq_false_iff_not]; omega
  have p4 := rget4_spec l sp c 4 (by omega) hc (by omega)
  have hfe := form_eq h8
  have hg : get4 l 4 < 4294967296 := by
    have := (l.getD 4 0).toNat_lt
    have := (l.getD (4 + 1) 0).toNat_lt
    have := (l.getD (4 + 2) 0).toNat_lt
    have := (l.getD (4 + 3) 0).toNat_lt
    unfold get4; omega
  obtain ⟨R0, r0⟩ := dropAt (sp := sp) (l := l) (j := 0) (by omega)
  obtain ⟨R1, r1⟩ := dropAt (sp := sp) (l := l) (j := 1) (by omega)
  have r0' : ((bsR (l ++ sp)).getD 0 (RC.v undef)) = .v (.int .u8 (l.getD 0 0).toNat) := by rw [List.drop_zero] at r0; rw [r0]; rfl
  have r0l : 0 < (bsR (l ++ sp)).length := by simp; omega
  have b0 := (l.getD 0 0).toNat_lt
  have b1 := (l.getD 1 0).toNat_lt
  have lD8 : (l.drop 8).length = l.length - 8 := by simp
  generalize (l.getD 0 0).toNat = x0 at r0' b0 hfe ⊢
  generalize (l.getD 1 0).toNat = x1 at r1 b1 hfe ⊢
  generalize get4 l 4 = g at p4 hg hfe ⊢
  have w0 : IntKind.i64.wrap (x0 : Int) = (x0 : Int) := by rw [w64] <;> omega
  have w1 : IntKind.i64.wrap (x1 : Int) = (x1 : Int) := by rw [w64] <;> omega
  have e4 : IntKind.u32.wrap (g : Int) = (g : Int) := by rw [wu32] <;> omega
  have eD8 : (bsR (l ++ sp)).drop 8 = bsR (l.drop 8 ++ sp) := by rw [rs_drop, List.drop_append_of_le_length (by omega)]
  have p5 : Spec cx.P 32 [.c (.v (.slice none 0 0)), .c (roB (l.drop 8) sp (c - 8))] [] (resS (l.drop 8)) := resS_of (addNR (l.drop 8) sp (c - 8) (by omega))
  unfold roB at p5
  rw [lD8] at p5
  have m9 : (bsR (l ++ sp)).take l.length = bsR l := by rw [rs_take, List.take_left' rfl]
  refine resI_raw ?_
  refine spec_of_X cx_ok Try.func17 rfl (by kernel_rfl) (by kernel_rfl) (Nat.le_of_ble_eq_true rfl) 400 8 ?_
  simp (maxSteps := 4000000) only [Try.results17, XX, Nat.reduceBEq, Nat.reduceLT, Nat.reduceAdd, Nat.reduceMul, Nat.reduceSub, Nat.reduceLeDiff, Nat.reduceEqDiff, Int.reduceToNat, Int.reduceLT, Int.reduceLE, Int.reduceAdd, Int.reduceSub, Int.reduceEq, reduceIte, Nat.reduceBNe, Int.reducePow, Nat.reducePow, Int.reduceMul, Int.reduceNeg, isB_i, isB_b, isB_y, isBv_i, isBv_b, eqCells_t, TT]
  simp (maxSteps := 4000000) only [Try.results17, q1, q2, XX, Nat.reduceBEq, Nat.reduceLT, Nat.reduceAdd, Nat.reduceMul, Nat.reduceSub, Nat.reduceLeDiff, Nat.reduceEqDiff, Int.reduceToNat, Int.reduceLT, Int.reduceLE, Int.reduceAdd, Int.reduceSub, Int.reduceEq, reduceIte, Nat.reduceBNe, Int.reducePow, Nat.reducePow, Int.reduceMul, Int.reduceNeg, isB_i, isB_b, isB_y, isBv_i, isBv_b, eqCells_t, TT]
  refine call_frame (p4) [] rfl rfl trivial rfl rfl ?_
  rintro _ _ ⟨rfl, rfl⟩
  simp (maxSteps := 4000000) only [Try.results17, ids_bsC, ren_bsC, noRo_bsC, plain_bsC, lt_bsC, ids_byte, ren_byte, noRo_byte, plain_byte, lt_byte, XX, Nat.reduceBEq, Nat.reduceLT, Nat.reduceAdd, Nat.reduceMul, Nat.reduceSub, Nat.reduceLeDiff, Nat.reduceEqDiff, Int.reduceToNat, Int.reduceLT, Int.reduceLE, Int.reduceAdd, Int.reduceSub, Int.reduceEq, reduceIte, Nat.reduceBNe, Int.reducePow, Nat.reducePow, Int.reduceMul, Int.reduceNeg, isB_i, isB_b, isB_y, isBv_i, isBv_b, eqCells_t, TT]
  refine draw2_of cx_ok (by kernel_rfl) 400 [] (.pair [(0, true), (1, true), (2, true), (3, true), (4, true), (5, true), (6, true), (7, true), (8, true), (9, true), (10, true), (11, true)] 12 14 (.done [(13, true), (14, false), (15, false)]) (.done [(12, false), (13, true), (15, false)])) (by kernel_rfl) rfl ?_
  simp (maxSteps := 4000000) only [Try.results17, PXT_done, PXT_pair, r0', r1, w0, w1, e4, eD8, XX, Nat.reduceBEq, Nat.reduceLT, Nat.reduceAdd, Nat.reduceMul, Nat.reduceSub, Nat.reduceLeDiff, Nat.reduceEqDiff, Int.reduceToNat, Int.reduceLT, Int.reduceLE, Int.reduceAdd, Int.reduceSub, Int.reduceEq, reduceIte, Nat.reduceBNe, Int.reducePow, Nat.reducePow, Int.reduceMul, Int.reduceNeg, isB_i, isB_b, isB_y, isBv_i, isBv_b, eqCells_t, TT]
  refine ⟨by omega, r0l, by omega, by omega, ⟨by omega, by omega, by omega⟩, ?_, ?_⟩
  · refine call_fz [.c (.v (.slice none 0 0)), .c (.ro (bsR (l.drop 8 ++ sp)) (l.length - 8) (c - 8))] p5 (fun t h' h => resS_noRo h) ⟨.inl ⟨rfl, rfl⟩, .inl ⟨rfl, rfl⟩, trivial⟩ ?_
    rintro _ _ ⟨z, o, rfl, rfl, ho⟩
    rw [lD8] at ho
    simp (maxSteps := 4000000) only [Try.results17, PXT_done, ids_bsC, ren_bsC, noRo_bsC, plain_bsC, lt_bsC, ids_byte, ren_byte, noRo_byte, plain_byte, lt_byte, lD8, XX, Nat.reduceBEq, Nat.reduceLT, Nat.reduceAdd, Nat.reduceMul, Nat.reduceSub, Nat.reduceLeDiff, Nat.reduceEqDiff, Int.reduceToNat, Int.reduceLT, Int.reduceLE, Int.reduceAdd, Int.reduceSub, Int.reduceEq, reduceIte, Nat.reduceBNe, Int.reducePow, Nat.reducePow, Int.reduceMul, Int.reduceNeg, isB_i, isB_b, isB_y, isBv_i, isBv_b, eqCells_t, TT]
    have p6 := form_spec x0 x1 g (l.drop 8) z (l.length - 8 + z.length) b0 b1 hg (by omega)
    unfold roB at p6
    rw [lD8] at p6
    have hfz : frC true (fun _ => true) (renF [] 3) 0 [⟨true, 26, [i64 0, i64 0, i32 0, noC]⟩, wB o (l.drop 8 ++ z), ⟨true, 26, [i64 x0, i64 x1, i32 g, .sl 1 0 (l.length - 8) (l.length - 8 + z.length)]⟩] (.sl 1 0 (l.length - 8) (l.length - 8 + z.length)) (.ro (bsR (l.drop 8 ++ z)) (l.length - 8) (l.length - 8 + z.length)) := by
      have := fz_any (r := renF [] 3) (n := 0) (h := [⟨true, 26, [i64 0, i64 0, i32 0, noC]⟩, wB o (l.drop 8 ++ z), ⟨true, 26, [i64 x0, i64 x1, i32 g, .sl 1 0 (l.length - 8) (l.length - 8 + z.length)]⟩]) (i := 1) (l := l.drop 8) (sp := z) (o := o) rfl (by rw [lD8]; exact ho)
      rw [slB, roB, lD8] at this
      exact this
    refine draw_of cx_ok (by kernel_rfl) 400 [] [(3, true), (4, true), (0, false), (1, false), (2, false), (5, true)] (by kernel_rfl) rfl ?_
    simp (maxSteps := 4000000) only [Try.results17, r0', r1, m9, bsR_toSC, strOf_bsC, XX, Nat.reduceBEq, Nat.reduceLT, Nat.reduceAdd, Nat.reduceMul, Nat.reduceSub, Nat.reduceLeDiff, Nat.reduceEqDiff, Int.reduceToNat, Int.reduceLT, Int.reduceLE, Int.reduceAdd, Int.reduceSub, Int.reduceEq, reduceIte, Nat.reduceBNe, Int.reducePow, Nat.reducePow, Int.reduceMul, Int.reduceNeg, isB_i, isB_b, isB_y, isBv_i, isBv_b, eqCells_t, TT]
    refine ⟨⟨by simp, isByte_bsC l⟩, ?_⟩
    refine call_fz [.agg (icC x0 x1 g (.ro (bsR (l.drop 8 ++ z)) (l.length - 8) (l.length - 8 + z.length)))] p6 (fun t h' h => resS_noRo h) ⟨.inr (.inr ⟨_, _, rfl, rfl, .inl ⟨rfl, rfl⟩, .inl ⟨rfl, rfl⟩, .inl ⟨rfl, rfl⟩, hfz, trivial⟩), trivial⟩ ?_
    rintro _ _ ⟨z2, o2, rfl, rfl, ho2⟩
    have tk : ∀ a b : List UInt8, (bsC (a ++ b)).take a.length = bsC a := fun a b => by rw [bs_take, List.take_left' rfl]
    simp (maxSteps := 4000000) only [Try.results17, ids_bsC, ren_bsC, noRo_bsC, plain_bsC, lt_bsC, ids_byte, ren_byte, noRo_byte, plain_byte, lt_byte, tk, strOf_bsC, str_eq, XX, Nat.reduceBEq, Nat.reduceLT, Nat.reduceAdd, Nat.reduceMul, Nat.reduceSub, Nat.reduceLeDiff, Nat.reduceEqDiff, Int.reduceToNat, Int.reduceLT, Int.reduceLE, Int.reduceAdd, Int.reduceSub, Int.reduceEq, reduceIte, Nat.reduceBNe, Int.reducePow, Nat.reducePow, Int.reduceMul, Int.reduceNeg, isB_i, isB_b, isB_y, isBv_i, isBv_b, eqCells_t, TT]
    refine ⟨⟨by simp, isByte_bsC _⟩, ?_⟩
    by_cases hx2 : isum (l.take 2 ++ l.drop 4) = n16 l 2
    · have q3 : decide (icL x0 x1 g (l.drop 8) (isum (icL x0 x1 g (l.drop 8) 0)) = l) = true := by simp only [decide_eq_true_eq]; exact hfe.2 hx2
      rw [if_neg (fun h => h hx2)]
      simp (maxSteps := 4000000) only [Try.results17, q3, XX, Nat.reduceBEq, Nat.reduceLT, Nat.reduceAdd, Nat.reduceMul, Nat.reduceSub, Nat.reduceLeDiff, Nat.reduceEqDiff, Int.reduceToNat, Int.reduceLT, Int.reduceLE, Int.reduceAdd, Int.reduceSub, Int.reduceEq, reduceIte, Nat.reduceBNe, Int.reducePow, Nat.reducePow, Int.reduceMul, Int.reduceNeg, isB_i, isB_b, isB_y, isBv_i, isBv_b, eqCells_t, TT]
      refine call_plain (kind_spec x0) rfl ?_
      rintro _ rfl
      simp (maxSteps := 4000000) only [Try.results17, XX, Nat.reduceBEq, Nat.reduceLT, Nat.reduceAdd, Nat.reduceMul, Nat.reduceSub, Nat.reduceLeDiff, Nat.reduceEqDiff, Int.reduceToNat, Int.reduceLT, Int.reduceLE, Int.reduceAdd, Int.reduceSub, Int.reduceEq, reduceIte, Nat.reduceBNe, Int.reducePow, Nat.reducePow, Int.reduceMul, Int.reduceNeg, isB_i, isB_b, isB_y, isBv_i, isBv_b, eqCells_t, TT]
      cases hr : rightB (x0 : Int)
      · simp (maxSteps := 4000000) only [Try.results17, hr, XX, Nat.reduceBEq, Nat.reduceLT, Nat.reduceAdd, Nat.reduceMul, Nat.reduceSub, Nat.reduceLeDiff, Nat.reduceEqDiff, Int.reduceToNat, Int.reduceLT, Int.reduceLE, Int.reduceAdd, Int.reduceSub, Int.reduceEq, reduceIte, Nat.reduceBNe, Int.reducePow, Nat.reducePow, Int.reduceMul, Int.reduceNeg, isB_i, isB_b, isB_y, isBv_i, isBv_b, eqCells_t, TT]
        exact .inl ⟨rfl, rfl⟩
      · rw [if_neg (by simp)]
        simp (maxSteps := 4000000) only [Try.results17, hr, XX, Nat.reduceBEq, Nat.reduceLT, Nat.reduceAdd, Nat.reduceMul, Nat.reduceSub, Nat.reduceLeDiff, Nat.reduceEqDiff, Int.reduceToNat, Int.reduceLT, Int.reduceLE, Int.reduceAdd, Int.reduceSub, Int.reduceEq, reduceIte, Nat.reduceBNe, Int.reducePow, Nat.reducePow, Int.reduceMul, Int.reduceNeg, isB_i, isB_b, isB_y, isBv_i, isBv_b, eqCells_t, TT]
        exact .inr ⟨1, z, o, by simp only [slB, lD8], ⟨rfl, by rw [lD8]; exact ho⟩⟩
    · have q3 : decide (icL x0 x1 g (l.drop 8) (isum (icL x0 x1 g (l.drop 8) 0)) = l) = false := by simp only [decide_eq_false_iff_not]; exact fun h => hx2 (hfe.1 h)
      rw [if_pos hx2]
      simp (maxSteps := 4000000) only [Try.results17, q3, XX, Nat.reduceBEq, Nat.reduceLT, Nat.reduceAdd, Nat.reduceMul, Nat.reduceSub, Nat.reduceLeDiff, Nat.reduceEqDiff, Int.reduceToNat, Int.reduceLT, Int.reduceLE, Int.reduceAdd, Int.reduceSub, Int.reduceEq, reduceIte, Nat.reduceBNe, Int.reducePow, Nat.reducePow, Int.reduceMul, Int.reduceNeg, isB_i, isB_b, isB_y, isBv_i, isBv_b, eqCells_t, TT]
      exact .inl ⟨rfl, rfl⟩
  · refine call_fz [.c (.v (.slice none 0 0)), .c (.ro (bsR (l.drop 8 ++ sp)) (l.length - 8) (c - 8))] p5 (fun t h' h => resS_noRo h) ⟨.inl ⟨rfl, rfl⟩, .inl ⟨rfl, rfl⟩, trivial⟩ ?_
    rintro _ _ ⟨z, o, rfl, rfl, ho⟩
    rw [lD8] at ho
    simp (maxSteps := 4000000) only [Try.results17, PXT_done, ids_bsC, ren_bsC, noRo_bsC, plain_bsC, lt_bsC, ids_byte, ren_byte, noRo_byte, plain_byte, lt_byte, lD8, XX, Nat.reduceBEq, Nat.reduceLT, Nat.reduceAdd, Nat.reduceMul, Nat.reduceSub, Nat.reduceLeDiff, Nat.reduceEqDiff, Int.reduceToNat, Int.reduceLT, Int.reduceLE, Int.reduceAdd, Int.reduceSub, Int.reduceEq, reduceIte, Nat.reduceBNe, Int.reducePow, Nat.reducePow, Int.reduceMul, Int.reduceNeg, isB_i, isB_b, isB_y, isBv_i, isBv_b, eqCells_t, TT]
    have p6 := form_spec x0 x1 g (l.drop 8) z (l.length - 8 + z.length) b0 b1 hg (by omega)
    unfold roB at p6
    rw [lD8] at p6
    have hfz : frC true (fun _ => true) (renF [] 3) 0 [⟨true, 26, [i64 0, i64 0, i32 0, noC]⟩, ⟨true, 26, [i64 x0, i64 x1, i32 g, .sl 2 0 (l.length - 8) (l.length - 8 + z.length)]⟩, wB o (l.drop 8 ++ z)] (.sl 2 0 (l.length - 8) (l.length - 8 + z.length)) (.ro (bsR (l.drop 8 ++ z)) (l.length - 8) (l.length - 8 + z.length)) := by
      have := fz_any (r := renF [] 3) (n := 0) (h := [⟨true, 26, [i64 0, i64 0, i32 0, noC]⟩, ⟨true, 26, [i64 x0, i64 x1, i32 g, .sl 2 0 (l.length - 8) (l.length - 8 + z.length)]⟩, wB o (l.drop 8 ++ z)]) (i := 2) (l := l.drop 8) (sp := z) (o := o) rfl (by rw [lD8]; exact ho)
      rw [slB, roB, lD8] at this
      exact this
    refine draw_of cx_ok (by kernel_rfl) 400 [] [(3, true), (4, true), (0, false), (1, false), (2, false), (5, true)] (by kernel_rfl) rfl ?_
    simp (maxSteps := 4000000) only [Try.results17, r0', r1, m9, bsR_toSC, strOf_bsC, XX, Nat.reduceBEq, Nat.reduceLT, Nat.reduceAdd, Nat.reduceMul, Nat.reduceSub, Nat.reduceLeDiff, Nat.reduceEqDiff, Int.reduceToNat, Int.reduceLT, Int.reduceLE, Int.reduceAdd, Int.reduceSub, Int.reduceEq, reduceIte, Nat.reduceBNe, Int.reducePow, Nat.reducePow, Int.reduceMul, Int.reduceNeg, isB_i, isB_b, isB_y, isBv_i, isBv_b, eqCells_t, TT]
    refine ⟨⟨by simp, isByte_bsC l⟩, ?_⟩
    refine call_fz [.agg (icC x0 x1 g (.ro (bsR (l.drop 8 ++ z)) (l.length - 8) (l.length - 8 + z.length)))] p6 (fun t h' h => resS_noRo h) ⟨.inr (.inr ⟨_, _, rfl, rfl, .inl ⟨rfl, rfl⟩, .inl ⟨rfl, rfl⟩, .inl ⟨rfl, rfl⟩, hfz, trivial⟩), trivial⟩ ?_
    rintro _ _ ⟨z2, o2, rfl, rfl, ho2⟩
    have tk : ∀ a b : List UInt8, (bsC (a ++ b)).take a.length = bsC a := fun a b => by rw [bs_take, List.take_left' rfl]
    simp (maxSteps := 4000000) only [Try.results17, ids_bsC, ren_bsC, noRo_bsC, plain_bsC, lt_bsC, ids_byte, ren_byte, noRo_byte, plain_byte, lt_byte, tk, strOf_bsC, str_eq, XX, Nat.reduceBEq, Nat.reduceLT, Nat.reduceAdd, Nat.reduceMul, Nat.reduceSub, Nat.reduceLeDiff, Nat.reduceEqDiff, Int.reduceToNat, Int.reduceLT, Int.reduceLE, Int.reduceAdd, Int.reduceSub, Int.reduceEq, reduceIte, Nat.reduceBNe, Int.reducePow, Nat.reducePow, Int.reduceMul, Int.reduceNeg, isB_i, isB_b, isB_y, isBv_i, isBv_b, eqCells_t, TT]
    refine ⟨⟨by simp, isByte_bsC _⟩, ?_⟩
    by_cases hx2 : isum (l.take 2 ++ l.drop 4) = n16 l 2
    · have q3 : decide (icL x0 x1 g (l.drop 8) (isum (icL x0 x1 g (l.drop 8) 0)) = l) = true := by simp only [decide_eq_true_eq]; exact hfe.2 hx2
      rw [if_neg (fun h => h hx2)]
      simp (maxSteps := 4000000) only [Try.results17, q3, XX, Nat.reduceBEq, Nat.reduceLT, Nat.reduceAdd, Nat.reduceMul, Nat.reduceSub, Nat.reduceLeDiff, Nat.reduceEqDiff, Int.reduceToNat, Int.reduceLT, Int.reduceLE, Int.reduceAdd, Int.reduceSub, Int.reduceEq, reduceIte, Nat.reduceBNe, Int.reducePow, Nat.reducePow, Int.reduceMul, Int.reduceNeg, isB_i, isB_b, isB_y, isBv_i, isBv_b, eqCells_t, TT]
      refine call_plain (kind_spec x0) rfl ?_
      rintro _ rfl
      simp (maxSteps := 4000000) only [Try.results17, XX, Nat.reduceBEq, Nat.reduceLT, Nat.reduceAdd, Nat.reduceMul, Nat.reduceSub, Nat.reduceLeDiff, Nat.reduceEqDiff, Int.reduceToNat, Int.reduceLT, Int.reduceLE, Int.reduceAdd, Int.reduceSub, Int.reduceEq, reduceIte, Nat.reduceBNe, Int.reducePow, Nat.reducePow, Int.reduceMul, Int.reduceNeg, isB_i, isB_b, isB_y, isBv_i, isBv_b, eqCells_t, TT]
      cases hr : rightB (x0 : Int)
      · simp (maxSteps := 4000000) only [Try.results17, hr, XX, Nat.reduceBEq, Nat.reduceLT, Nat.reduceAdd, Nat.reduceMul, Nat.reduceSub, Nat.reduceLeDiff, Nat.reduceEqDiff, Int.reduceToNat, Int.reduceLT, Int.reduceLE, Int.reduceAdd, Int.reduceSub, Int.reduceEq, reduceIte, Nat.reduceBNe, Int.reducePow, Nat.reducePow, Int.reduceMul, Int.reduceNeg, isB_i, isB_b, isB_y, isBv_i, isBv_b, eqCells_t, TT]
        exact .inl ⟨rfl, rfl⟩
      · rw [if_neg (by simp)]
        simp (maxSteps := 4000000) only [Try.results17, hr, XX, Nat.reduceBEq, Nat.reduceLT, Nat.reduceAdd, Nat.reduceMul, Nat.reduceSub, Nat.reduceLeDiff, Nat.reduceEqDiff, Int.reduceToNat, Int.reduceLT, Int.reduceLE, Int.reduceAdd, Int.reduceSub, Int.reduceEq, reduceIte, Nat.reduceBNe, Int.reducePow, Nat.reducePow, Int.reduceMul, Int.reduceNeg, isB_i, isB_b, isB_y, isBv_i, isBv_b, eqCells_t, TT]
        exact .inr ⟨2, z, o, by simp only [slB, lD8], ⟨rfl, by rw [lD8]; exact ho⟩⟩
    · have q3 : decide (icL x0 x1 g (l.drop 8) (isum (icL x0 x1 g (l.drop 8) 0)) = l) = false := by simp only [decide_eq_false_iff_not]; exact fun h => hx2 (hfe.1 h)
      rw [if_pos hx2]
      simp (maxSteps := 4000000) only [Try.results17, q3, XX, Nat.reduceBEq, Nat.reduceLT, Nat.reduceAdd, Nat.reduceMul, Nat.reduceSub, Nat.reduceLeDiff, Nat.reduceEqDiff, Int.reduceToNat, Int.reduceLT, Int.reduceLE, Int.reduceAdd, Int.reduceSub, Int.reduceEq, reduceIte, Nat.reduceBNe, Int.reducePow, Nat.reducePow, Int.reduceMul, Int.reduceNeg, isB_i, isB_b, isB_y, isBv_i, isBv_b, eqCells_t, TT]
      exact .inl ⟨rfl, rfl⟩

theorem idec_spec (l sp : List UInt8) (c : Nat) (hc : l.length ≤ c) : Spec cx.P 16 [.c (roB l sp c)] [] (resI (idecR l)) := by
  unfold idecR
  by_cases h1 : l.length < 8
  · rw [if_pos h1]; exact resI_nil (idecS_spec l sp c h1)
  rw [if_neg h1]
  by_cases h2 : 1480 < l.length
  · rw [if_pos h2]; exact resI_nil (idecL_spec l sp c h2)
  rw [if_neg h2]
  exact idecV_spec l sp c (by omega) (by omega) hc
theorem ridec_spec (l sp : List UInt8) (c : Nat) (hc : l.length ≤ c) : Spec cx.P 17 [.c (roB l sp c)] [] (resI (idecR l)) := by
  unfold idecR
  by_cases h1 : l.length < 8
  · rw [if_pos h1]; exact resI_nil (ridecS_spec l sp c h1)
  rw [if_neg h1]
  by_cases h2 : 1480 < l.length
  · rw [if_pos h2]; exact resI_nil (ridecL_spec l sp c h2)
  rw [if_neg h2]
  exact ridecV_spec l sp c (by omega) (by omega) hc
theorem idecR_len (l : List UInt8) : (idecR l).l.length ≤ 1600 := by
  unfold idecR
  repeat' split
  all_goals first | (simp; done) | (simp; omega)

end Go.Proofs.Ytfpjabhlfjkhfaa.Sx
