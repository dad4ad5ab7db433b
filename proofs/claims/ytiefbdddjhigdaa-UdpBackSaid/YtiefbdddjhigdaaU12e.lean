/- The symbolic executor, at work: datagrams are read. No condition. -/
import Derived.Test.YtiefbdddjhigdaaU12d
import Derived.Test.YtiefbdddjhigdaaGt
namespace Go.Proofs.Ytiefbdddjhigdaa.Sx
open Go
set_option linter.unusedSimpArgs false
set_option linter.unusedVariables false
set_option linter.unusedSectionVars false
set_option maxRecDepth 10000
set_option maxHeartbeats 2000000

/-- A number of two bytes at a place. -/
def n16 (l : List UInt8) (k : Nat) : Nat := (l.getD k 0).toNat * 256 + (l.getD (k + 1) 0).toNat
theorem n16_lt (l : List UInt8) (k : Nat) : n16 l k < 65536 := by
  have := (l.getD k 0).toNat_lt
  have := (l.getD (k + 1) 0).toNat_lt
  unfold n16; omega

/-- What reading comes to. -/
def udecR (src dst : Nat) (l : List UInt8) : Nat × Nat × List UInt8 × Int :=
  if l.length < 8 then (0, 0, [], 5) else if n16 l 4 < 8 ∨ l.length < n16 l 4 then (0, 0, [], 92)
  else if n16 l 6 ≠ 0 ∧ isum (overL src dst (l.take (n16 l 4))) ≠ 0 then (0, 0, [], 93) else if n16 l 2 = 0 then (0, 0, [], 120) else (n16 l 0, n16 l 2, (l.take (n16 l 4)).drop 8, 0)

def resU (q : Nat × Nat × List UInt8 × Int) (t : SV) (h' : List SB) : Prop := ∃ sp o, t = .tup [(true, udpC q.1 q.2.1 (slB 0 q.2.2.1 sp)), (false, [i64 q.2.2.2])] ∧ h' = [wB o (q.2.2.1 ++ sp)] ∧ (0 < q.2.2.1.length + sp.length → o = true)

theorem resU_nil {P : Program} {f : FuncId} {args : List SV} {e : Int} (s : Spec P f args [] fun s _ => s.plain = true ∧ s = .tup [(true, udpC 0 0 noC), (false, [i64 e])]) : Spec P f args [] (resU (0, 0, [], e)) :=
  s.wk fun t h' ⟨_, h1⟩ => ⟨.tup [(true, udpC (0 : Nat) (0 : Nat) (slB 0 [] [])), (false, [i64 e])], [wB false ([] ++ [])], [none], rfl, by simp only [XX, Nat.reduceBEq, Nat.reduceLT, Nat.reduceAdd, Nat.reduceMul, Nat.reduceSub, Nat.reduceLeDiff, Nat.reduceEqDiff, Int.reduceToNat, Int.reduceLT, Int.reduceLE, Int.reduceAdd, Int.reduceSub, Int.reduceEq, reduceIte, Nat.reduceBNe, Int.reducePow, Nat.reducePow, Int.reduceMul, Int.reduceNeg, isB_i, isB_b, isB_y, isBv_i, isBv_b, eqCells_t, TT, List.map_nil], by subst h1; exact .inr ⟨rfl, ⟨.inl ⟨rfl, rfl⟩, .inl ⟨rfl, rfl⟩, .inr (.inr ⟨_, _, rfl, .inl rfl⟩), trivial⟩, rfl, ⟨.inl ⟨rfl, rfl⟩, trivial⟩, trivial⟩, [], false, rfl, rfl, fun h => absurd h (by simp)⟩

theorem resU_of {P : Program} {f : FuncId} {args : List SV} {a b : Nat} {l : List UInt8} {e : Int} (s : Spec P f args [] fun s h' => ∃ w sp o, s = .tup [(true, udpC a b (slB w l sp)), (false, [i64 e])] ∧ Buf h' w o l sp) : Spec P f args [] (resU (a, b, l, e)) :=
  s.wk fun t h' ⟨w, sp, o, h1, b⟩ => ⟨.tup [(true, udpC _ _ (slB 0 l sp)), (false, [i64 e])], [wB o (l ++ sp)], [some w], rfl, by simp only [XX, Nat.reduceBEq, Nat.reduceLT, Nat.reduceAdd, Nat.reduceMul, Nat.reduceSub, Nat.reduceLeDiff, Nat.reduceEqDiff, Int.reduceToNat, Int.reduceLT, Int.reduceLE, Int.reduceAdd, Int.reduceSub, Int.reduceEq, reduceIte, Nat.reduceBNe, Int.reducePow, Nat.reducePow, Int.reduceMul, Int.reduceNeg, isB_i, isB_b, isB_y, isBv_i, isBv_b, eqCells_t, TT, ids_bsC, ren_bsC, noRo_bsC, plain_bsC, lt_bsC, ids_byte, ren_byte, noRo_byte, plain_byte, lt_byte, b.at_], by subst h1; simp only [XX, Nat.reduceBEq, Nat.reduceLT, Nat.reduceAdd, Nat.reduceMul, Nat.reduceSub, Nat.reduceLeDiff, Nat.reduceEqDiff, Int.reduceToNat, Int.reduceLT, Int.reduceLE, Int.reduceAdd, Int.reduceSub, Int.reduceEq, reduceIte, Nat.reduceBNe, Int.reducePow, Nat.reducePow, Int.reduceMul, Int.reduceNeg, isB_i, isB_b, isB_y, isBv_i, isBv_b, eqCells_t, TT, ids_bsC, ren_bsC, noRo_bsC, plain_bsC, lt_bsC, ids_byte, ren_byte, noRo_byte, plain_byte, lt_byte], sp, o, rfl, rfl, b.own⟩

abbrev bB (o : Bool) (l sp : List UInt8) (c : Nat) : SB := ⟨o, 24, [roB l sp c]⟩
theorem number_spec (o : Bool) (l sp : List UInt8) (c k : Nat) (hk : k + 2 ≤ l.length) (hc : l.length ≤ c) (hl : l.length ≤ 140737488355328) : Spec cx.P 23 [.c (i64 k), .c (.ptr 0 0)] [bB o l sp c] fun s h' => s = .c (i64 (n16 l k)) ∧ h' = [bB o l sp c] := by
  have := n16_lt l k
  have p := get2_spec l sp c k hk hc hl
  have e : ((l.getD k 0).toNat * 256 + (l.getD (k + 1) 0).toNat : Nat) = n16 l k := rfl
  rw [e] at p
  have e1 : IntKind.i64.wrap (n16 l k : Int) = (n16 l k : Int) := by rw [w64] <;> omega
  refine spec_of_X cx_ok Try.func23 rfl (by kernel_rfl) (by kernel_rfl) (Nat.le_of_ble_eq_true rfl) 400 5 ?_
  simp (maxSteps := 4000000) only [Try.results23, XX, Nat.reduceBEq, Nat.reduceLT, Nat.reduceAdd, Nat.reduceMul, Nat.reduceSub, Nat.reduceLeDiff, Nat.reduceEqDiff, Int.reduceToNat, Int.reduceLT, Int.reduceLE, Int.reduceAdd, Int.reduceSub, Int.reduceEq, reduceIte, Nat.reduceBNe, Int.reducePow, Nat.reducePow, Int.reduceMul, Int.reduceNeg, isB_i, isB_b, isB_y, isBv_i, isBv_b, eqCells_t, TT]
  refine call_frame (p) [] rfl rfl trivial rfl rfl ?_
  rintro _ _ ⟨rfl, rfl⟩
  simp (maxSteps := 4000000) only [Try.results23, e1, XX, Nat.reduceBEq, Nat.reduceLT, Nat.reduceAdd, Nat.reduceMul, Nat.reduceSub, Nat.reduceLeDiff, Nat.reduceEqDiff, Int.reduceToNat, Int.reduceLT, Int.reduceLE, Int.reduceAdd, Int.reduceSub, Int.reduceEq, reduceIte, Nat.reduceBNe, Int.reducePow, Nat.reducePow, Int.reduceMul, Int.reduceNeg, isB_i, isB_b, isB_y, isBv_i, isBv_b, eqCells_t, TT]

theorem udecS_spec (src dst : Nat) (l sp : List UInt8) (c : Nat) (h : l.length < 8) : Spec cx.P 15 [.c (i32 src), .c (i32 dst), .c (roB l sp c)] [] fun t _ => t.plain = true ∧ t = .tup [(true, udpC 0 0 noC), (false, [i64 5])] := by
  have q1 : decide ((l.length : Int) < 8) = true := by simp only [decide_eq_true_eq]; omega
  refine spec_of_X cx_ok Try.func15 rfl (by kernel_rfl) (by kernel_rfl) (Nat.le_of_ble_eq_true rfl) 400 10 ?_
  simp (maxSteps := 4000000) only [Try.results15, XX, Nat.reduceBEq, Nat.reduceLT, Nat.reduceAdd, Nat.reduceMul, Nat.reduceSub, Nat.reduceLeDiff, Nat.reduceEqDiff, Int.reduceToNat, Int.reduceLT, Int.reduceLE, Int.reduceAdd, Int.reduceSub, Int.reduceEq, reduceIte, Nat.reduceBNe, Int.reducePow, Nat.reducePow, Int.reduceMul, Int.reduceNeg, isB_i, isB_b, isB_y, isBv_i, isBv_b, eqCells_t, TT]
  simp (maxSteps := 4000000) only [Try.results15, q1, XX, Nat.reduceBEq, Nat.reduceLT, Nat.reduceAdd, Nat.reduceMul, Nat.reduceSub, Nat.reduceLeDiff, Nat.reduceEqDiff, Int.reduceToNat, Int.reduceLT, Int.reduceLE, Int.reduceAdd, Int.reduceSub, Int.reduceEq, reduceIte, Nat.reduceBNe, Int.reducePow, Nat.reducePow, Int.reduceMul, Int.reduceNeg, isB_i, isB_b, isB_y, isBv_i, isBv_b, eqCells_t, TT]
theorem rudecS_spec (src dst : Nat) (l sp : List UInt8) (c : Nat) (h : l.length < 8) : Spec cx.P 14 [.c (i32 src), .c (i32 dst), .c (roB l sp c)] [] fun t _ => t.plain = true ∧ t = .tup [(true, udpC 0 0 noC), (false, [i64 5])] := by
  have q1 : decide ((l.length : Int) < 8) = true := by simp only [decide_eq_true_eq]; omega
  refine spec_of_X cx_ok Try.func14 rfl (by kernel_rfl) (by kernel_rfl) (Nat.le_of_ble_eq_true rfl) 400 11 ?_
  simp (maxSteps := 4000000) only [Try.results14, XX, Nat.reduceBEq, Nat.reduceLT, Nat.reduceAdd, Nat.reduceMul, Nat.reduceSub, Nat.reduceLeDiff, Nat.reduceEqDiff, Int.reduceToNat, Int.reduceLT, Int.reduceLE, Int.reduceAdd, Int.reduceSub, Int.reduceEq, reduceIte, Nat.reduceBNe, Int.reducePow, Nat.reducePow, Int.reduceMul, Int.reduceNeg, isB_i, isB_b, isB_y, isBv_i, isBv_b, eqCells_t, TT]
  simp (maxSteps := 4000000) only [Try.results14, q1, XX, Nat.reduceBEq, Nat.reduceLT, Nat.reduceAdd, Nat.reduceMul, Nat.reduceSub, Nat.reduceLeDiff, Nat.reduceEqDiff, Int.reduceToNat, Int.reduceLT, Int.reduceLE, Int.reduceAdd, Int.reduceSub, Int.reduceEq, reduceIte, Nat.reduceBNe, Int.reducePow, Nat.reducePow, Int.reduceMul, Int.reduceNeg, isB_i, isB_b, isB_y, isBv_i, isBv_b, eqCells_t, TT]

theorem z0 : (#[] : Array Operand).size = 0 := rfl

section
variable (src dst : Nat) (l sp : List UInt8) (c : Nat) (hsrc : src < 4294967296) (hdst : dst < 4294967296) (h8 : 8 ≤ l.length) (hc : l.length ≤ c) (hl : l.length ≤ 140737488355328)
include h8 hc hl
theorem udecL_spec (h : n16 l 4 < 8 ∨ l.length < n16 l 4) : Spec cx.P 15 [.c (i32 src), .c (i32 dst), .c (roB l sp c)] [] fun t _ => t.plain = true ∧ t = .tup [(true, udpC 0 0 noC), (false, [i64 92])] := by
  have q1 : decide ((l.length : Int) < 8) = false := by simp only [decide_eq_false_iff_not]; omega
  refine spec_of_X cx_ok Try.func15 rfl (by kernel_rfl) (by kernel_rfl) (Nat.le_of_ble_eq_true rfl) 400 10 ?_
  simp (maxSteps := 4000000) only [Try.results15, XX, Nat.reduceBEq, Nat.reduceLT, Nat.reduceAdd, Nat.reduceMul, Nat.reduceSub, Nat.reduceLeDiff, Nat.reduceEqDiff, Int.reduceToNat, Int.reduceLT, Int.reduceLE, Int.reduceAdd, Int.reduceSub, Int.reduceEq, reduceIte, Nat.reduceBNe, Int.reducePow, Nat.reducePow, Int.reduceMul, Int.reduceNeg, isB_i, isB_b, isB_y, isBv_i, isBv_b, eqCells_t, TT]
  simp (maxSteps := 4000000) only [Try.results15, q1, z0, XX, Nat.reduceBEq, Nat.reduceLT, Nat.reduceAdd, Nat.reduceMul, Nat.reduceSub, Nat.reduceLeDiff, Nat.reduceEqDiff, Int.reduceToNat, Int.reduceLT, Int.reduceLE, Int.reduceAdd, Int.reduceSub, Int.reduceEq, reduceIte, Nat.reduceBNe, Int.reducePow, Nat.reducePow, Int.reduceMul, Int.reduceNeg, isB_i, isB_b, isB_y, isBv_i, isBv_b, eqCells_t, TT]
  refine call_frame (number_spec true l sp c 4 (by omega) hc (by omega)) [0] rfl rfl ⟨⟨rfl, fun _ => ⟨rfl, rfl⟩⟩, trivial⟩ rfl rfl ?_
  rintro _ _ ⟨rfl, rfl⟩
  by_cases h' : n16 l 4 < 8
  · have q2 : decide ((n16 l 4 : Int) < 8) = true := by simp only [decide_eq_true_eq]; omega
    simp (maxSteps := 4000000) only [Try.results15, q2, XX, Nat.reduceBEq, Nat.reduceLT, Nat.reduceAdd, Nat.reduceMul, Nat.reduceSub, Nat.reduceLeDiff, Nat.reduceEqDiff, Int.reduceToNat, Int.reduceLT, Int.reduceLE, Int.reduceAdd, Int.reduceSub, Int.reduceEq, reduceIte, Nat.reduceBNe, Int.reducePow, Nat.reducePow, Int.reduceMul, Int.reduceNeg, isB_i, isB_b, isB_y, isBv_i, isBv_b, eqCells_t, TT]
  · have q2 : decide ((n16 l 4 : Int) < 8) = false := by simp only [decide_eq_false_iff_not]; omega
    have q3 : decide ((l.length : Int) < (n16 l 4 : Int)) = true := by simp only [decide_eq_true_eq]; omega
    simp (maxSteps := 4000000) only [Try.results15, q2, q3, XX, Nat.reduceBEq, Nat.reduceLT, Nat.reduceAdd, Nat.reduceMul, Nat.reduceSub, Nat.reduceLeDiff, Nat.reduceEqDiff, Int.reduceToNat, Int.reduceLT, Int.reduceLE, Int.reduceAdd, Int.reduceSub, Int.reduceEq, reduceIte, Nat.reduceBNe, Int.reducePow, Nat.reducePow, Int.reduceMul, Int.reduceNeg, isB_i, isB_b, isB_y, isBv_i, isBv_b, eqCells_t, TT]
/-! the rest -/
def rawU (q : Nat × Nat × List UInt8 × Int) (t : SV) (h' : List SB) : Prop := (q.2.2.1 = [] ∧ t = .tup [(true, udpC q.1 q.2.1 noC), (false, [i64 q.2.2.2])]) ∨ ∃ w sp o, t = .tup [(true, udpC q.1 q.2.1 (slB w q.2.2.1 sp)), (false, [i64 q.2.2.2])] ∧ Buf h' w o q.2.2.1 sp
omit h8 hc hl in
theorem resU_raw {P : Program} {f : FuncId} {args : List SV} {q : Nat × Nat × List UInt8 × Int} (s : Spec P f args [] (rawU q)) : Spec P f args [] (resU q) := by
  obtain ⟨a, b, l, e⟩ := q
  refine s.wk fun t h' h => ?_
  rcases h with ⟨h0, h1⟩ | ⟨w, sp, o, h1, b⟩
  · dsimp only at h0 h1
    subst h0; subst h1
    exact ⟨.tup [(true, udpC a b (slB 0 [] [])), (false, [i64 e])], [wB false ([] ++ [])], [none], rfl, by simp only [XX, Nat.reduceBEq, Nat.reduceLT, Nat.reduceAdd, Nat.reduceMul, Nat.reduceSub, Nat.reduceLeDiff, Nat.reduceEqDiff, Int.reduceToNat, Int.reduceLT, Int.reduceLE, Int.reduceAdd, Int.reduceSub, Int.reduceEq, reduceIte, Nat.reduceBNe, Int.reducePow, Nat.reducePow, Int.reduceMul, Int.reduceNeg, isB_i, isB_b, isB_y, isBv_i, isBv_b, eqCells_t, TT, List.map_nil], .inr ⟨rfl, ⟨.inl ⟨rfl, rfl⟩, .inl ⟨rfl, rfl⟩, .inr (.inr ⟨_, _, rfl, .inl rfl⟩), trivial⟩, rfl, ⟨.inl ⟨rfl, rfl⟩, trivial⟩, trivial⟩, [], false, rfl, rfl, fun h => absurd h (by simp)⟩
  · exact ⟨.tup [(true, udpC _ _ (slB 0 l sp)), (false, [i64 e])], [wB o (l ++ sp)], [some w], rfl, by simp only [XX, Nat.reduceBEq, Nat.reduceLT, Nat.reduceAdd, Nat.reduceMul, Nat.reduceSub, Nat.reduceLeDiff, Nat.reduceEqDiff, Int.reduceToNat, Int.reduceLT, Int.reduceLE, Int.reduceAdd, Int.reduceSub, Int.reduceEq, reduceIte, Nat.reduceBNe, Int.reducePow, Nat.reducePow, Int.reduceMul, Int.reduceNeg, isB_i, isB_b, isB_y, isBv_i, isBv_b, eqCells_t, TT, ids_bsC, ren_bsC, noRo_bsC, plain_bsC, lt_bsC, ids_byte, ren_byte, noRo_byte, plain_byte, lt_byte, b.at_], by subst h1; simp only [XX, Nat.reduceBEq, Nat.reduceLT, Nat.reduceAdd, Nat.reduceMul, Nat.reduceSub, Nat.reduceLeDiff, Nat.reduceEqDiff, Int.reduceToNat, Int.reduceLT, Int.reduceLE, Int.reduceAdd, Int.reduceSub, Int.reduceEq, reduceIte, Nat.reduceBNe, Int.reducePow, Nat.reducePow, Int.reduceMul, Int.reduceNeg, isB_i, isB_b, isB_y, isBv_i, isBv_b, eqCells_t, TT, ids_bsC, ren_bsC, noRo_bsC, plain_bsC, lt_bsC, ids_byte, ren_byte, noRo_byte, plain_byte, lt_byte], sp, o, rfl, rfl, b.own⟩

include hsrc hdst in
theorem udecV_spec (h4 : 8 ≤ n16 l 4) (h4' : n16 l 4 ≤ l.length) : Spec cx.P 15 [.c (i32 src), .c (i32 dst), .c (roB l sp c)] [] (resU (if n16 l 6 ≠ 0 ∧ isum (overL src dst (l.take (n16 l 4))) ≠ 0 then (0, 0, [], 93) else if n16 l 2 = 0 then (0, 0, [], 120) else (n16 l 0, n16 l 2, (l.take (n16 l 4)).drop 8, 0))) := by
  have q1 : decide ((l.length : Int) < 8) = false := by simp only [decide_eq_false_iff_not]; omega
  have q2 : decide ((n16 l 4 : Int) < 8) = false := by simp only [decide_eq_false_iff_not]; omega
  have q3 : decide ((l.length : Int) < (n16 l 4 : Int)) = false := by simp only [decide_eq_false_iff_not]; omega
  have lt4 := n16_lt l 4
  have p2 := over_ro src dst l sp (n16 l 4) c hsrc hdst (by omega)
  have eT : (l.take (n16 l 4)).length = n16 l 4 := by simp; omega
  have eR : bsR (l ++ sp) = bsR (l.take (n16 l 4) ++ (l.drop (n16 l 4) ++ sp)) := by rw [← List.append_assoc, List.take_append_drop]
  have p3 := fun c2 => osum_spec [(be4 src, [], 4), (be4 dst, [], 4), ([0, 17], [], 2), (be2 (n16 l 4), [], 2), (l.take (n16 l 4), l.drop (n16 l 4) ++ sp, c)] [] c2 (by simp) (by simp [bytesOf, eT]; omega)
  have eB : bytesOf [(be4 src, [], 4), (be4 dst, [], 4), ([0, 17], [], 2), (be2 (n16 l 4), [], 2), (l.take (n16 l 4), l.drop (n16 l 4) ++ sp, c)] = overL src dst (l.take (n16 l 4)) := by
    simp only [bytesOf, overL, eT, List.flatMap_cons, List.flatMap_nil, List.append_nil, List.append_assoc]
  rw [eB] at p3
  refine resU_raw ?_
  have eD : List.take (n16 l 4 - 8) (List.drop 8 (bsR (l ++ sp))) = bsR ((l.take (n16 l 4)).drop 8) := by
    rw [rs_drop, rs_take, ← List.drop_take, List.take_append_of_le_length h4']
  have eDl : ((l.take (n16 l 4)).drop 8).length = n16 l 4 - 8 := by simp; omega
  generalize hx : isum (overL src dst (l.take (n16 l 4))) = x at p3
  refine spec_of_X cx_ok Try.func15 rfl (by kernel_rfl) (by kernel_rfl) (Nat.le_of_ble_eq_true rfl) 400 10 ?_
  simp (maxSteps := 4000000) only [Try.results15, XX, Nat.reduceBEq, Nat.reduceLT, Nat.reduceAdd, Nat.reduceMul, Nat.reduceSub, Nat.reduceLeDiff, Nat.reduceEqDiff, Int.reduceToNat, Int.reduceLT, Int.reduceLE, Int.reduceAdd, Int.reduceSub, Int.reduceEq, reduceIte, Nat.reduceBNe, Int.reducePow, Nat.reducePow, Int.reduceMul, Int.reduceNeg, isB_i, isB_b, isB_y, isBv_i, isBv_b, eqCells_t, TT]
  simp (maxSteps := 4000000) only [Try.results15, q1, z0, XX, Nat.reduceBEq, Nat.reduceLT, Nat.reduceAdd, Nat.reduceMul, Nat.reduceSub, Nat.reduceLeDiff, Nat.reduceEqDiff, Int.reduceToNat, Int.reduceLT, Int.reduceLE, Int.reduceAdd, Int.reduceSub, Int.reduceEq, reduceIte, Nat.reduceBNe, Int.reducePow, Nat.reducePow, Int.reduceMul, Int.reduceNeg, isB_i, isB_b, isB_y, isBv_i, isBv_b, eqCells_t, TT]
  refine call_frame (number_spec true l sp c 4 (by omega) hc (by omega)) [0] rfl rfl ⟨⟨rfl, fun _ => ⟨rfl, rfl⟩⟩, trivial⟩ rfl rfl ?_
  rintro _ _ ⟨rfl, rfl⟩
  simp (maxSteps := 4000000) only [Try.results15, ids_bsC, ren_bsC, noRo_bsC, plain_bsC, lt_bsC, ids_byte, ren_byte, noRo_byte, plain_byte, lt_byte, XX, Nat.reduceBEq, Nat.reduceLT, Nat.reduceAdd, Nat.reduceMul, Nat.reduceSub, Nat.reduceLeDiff, Nat.reduceEqDiff, Int.reduceToNat, Int.reduceLT, Int.reduceLE, Int.reduceAdd, Int.reduceSub, Int.reduceEq, reduceIte, Nat.reduceBNe, Int.reducePow, Nat.reducePow, Int.reduceMul, Int.reduceNeg, isB_i, isB_b, isB_y, isBv_i, isBv_b, eqCells_t, TT]
  simp (maxSteps := 4000000) only [Try.results15, q2, q3, XX, Nat.reduceBEq, Nat.reduceLT, Nat.reduceAdd, Nat.reduceMul, Nat.reduceSub, Nat.reduceLeDiff, Nat.reduceEqDiff, Int.reduceToNat, Int.reduceLT, Int.reduceLE, Int.reduceAdd, Int.reduceSub, Int.reduceEq, reduceIte, Nat.reduceBNe, Int.reducePow, Nat.reducePow, Int.reduceMul, Int.reduceNeg, isB_i, isB_b, isB_y, isBv_i, isBv_b, eqCells_t, TT]
  refine call_frame (number_spec true l sp c 6 (by omega) hc (by omega)) [0] rfl rfl ⟨⟨rfl, fun _ => ⟨rfl, rfl⟩⟩, trivial⟩ rfl rfl ?_
  rintro _ _ ⟨rfl, rfl⟩
  simp (maxSteps := 4000000) only [Try.results15, ids_bsC, ren_bsC, noRo_bsC, plain_bsC, lt_bsC, ids_byte, ren_byte, noRo_byte, plain_byte, lt_byte, XX, Nat.reduceBEq, Nat.reduceLT, Nat.reduceAdd, Nat.reduceMul, Nat.reduceSub, Nat.reduceLeDiff, Nat.reduceEqDiff, Int.reduceToNat, Int.reduceLT, Int.reduceLE, Int.reduceAdd, Int.reduceSub, Int.reduceEq, reduceIte, Nat.reduceBNe, Int.reducePow, Nat.reducePow, Int.reduceMul, Int.reduceNeg, isB_i, isB_b, isB_y, isBv_i, isBv_b, eqCells_t, TT]
  by_cases h6 : n16 l 6 = 0
  · have q4 : decide ((n16 l 6 : Int) = 0) = true := by simp only [decide_eq_true_eq]; omega
    rw [if_neg (fun h => h.1 h6)]
    simp (maxSteps := 4000000) only [Try.results15, q4, XX, Nat.reduceBEq, Nat.reduceLT, Nat.reduceAdd, Nat.reduceMul, Nat.reduceSub, Nat.reduceLeDiff, Nat.reduceEqDiff, Int.reduceToNat, Int.reduceLT, Int.reduceLE, Int.reduceAdd, Int.reduceSub, Int.reduceEq, reduceIte, Nat.reduceBNe, Int.reducePow, Nat.reducePow, Int.reduceMul, Int.reduceNeg, isB_i, isB_b, isB_y, isBv_i, isBv_b, eqCells_t, TT]
    simp (maxSteps := 4000000) only [Try.results15, binS_bi, XX, Nat.reduceBEq, Nat.reduceLT, Nat.reduceAdd, Nat.reduceMul, Nat.reduceSub, Nat.reduceLeDiff, Nat.reduceEqDiff, Int.reduceToNat, Int.reduceLT, Int.reduceLE, Int.reduceAdd, Int.reduceSub, Int.reduceEq, reduceIte, Nat.reduceBNe, Int.reducePow, Nat.reducePow, Int.reduceMul, Int.reduceNeg, isB_i, isB_b, isB_y, isBv_i, isBv_b, eqCells_t, TT]
    refine call_frame (number_spec true l sp c 2 (by omega) hc (by omega)) [0] rfl rfl ⟨⟨rfl, fun _ => ⟨rfl, rfl⟩⟩, trivial⟩ rfl rfl ?_
    rintro _ _ ⟨rfl, rfl⟩
    simp (maxSteps := 4000000) only [Try.results15, ids_bsC, ren_bsC, noRo_bsC, plain_bsC, lt_bsC, ids_byte, ren_byte, noRo_byte, plain_byte, lt_byte, XX, Nat.reduceBEq, Nat.reduceLT, Nat.reduceAdd, Nat.reduceMul, Nat.reduceSub, Nat.reduceLeDiff, Nat.reduceEqDiff, Int.reduceToNat, Int.reduceLT, Int.reduceLE, Int.reduceAdd, Int.reduceSub, Int.reduceEq, reduceIte, Nat.reduceBNe, Int.reducePow, Nat.reducePow, Int.reduceMul, Int.reduceNeg, isB_i, isB_b, isB_y, isBv_i, isBv_b, eqCells_t, TT]
    by_cases h2 : n16 l 2 = 0
    · have q5 : decide ((n16 l 2 : Int) = 0) = true := by simp only [decide_eq_true_eq]; omega
      rw [if_pos h2]
      simp (maxSteps := 4000000) only [Try.results15, q5, XX, Nat.reduceBEq, Nat.reduceLT, Nat.reduceAdd, Nat.reduceMul, Nat.reduceSub, Nat.reduceLeDiff, Nat.reduceEqDiff, Int.reduceToNat, Int.reduceLT, Int.reduceLE, Int.reduceAdd, Int.reduceSub, Int.reduceEq, reduceIte, Nat.reduceBNe, Int.reducePow, Nat.reducePow, Int.reduceMul, Int.reduceNeg, isB_i, isB_b, isB_y, isBv_i, isBv_b, eqCells_t, TT]
      exact .inl ⟨rfl, rfl⟩
    · have q5 : decide ((n16 l 2 : Int) = 0) = false := by simp only [decide_eq_false_iff_not]; omega
      rw [if_neg h2]
      simp (maxSteps := 4000000) only [Try.results15, q5, XX, Nat.reduceBEq, Nat.reduceLT, Nat.reduceAdd, Nat.reduceMul, Nat.reduceSub, Nat.reduceLeDiff, Nat.reduceEqDiff, Int.reduceToNat, Int.reduceLT, Int.reduceLE, Int.reduceAdd, Int.reduceSub, Int.reduceEq, reduceIte, Nat.reduceBNe, Int.reducePow, Nat.reducePow, Int.reduceMul, Int.reduceNeg, isB_i, isB_b, isB_y, isBv_i, isBv_b, eqCells_t, TT]
      refine draw_of cx_ok (by kernel_rfl) 400 [0] [(0, true), (2, true), (4, true), (5, true), (6, true), (1, false), (3, false), (7, false), (8, true), (9, false), (10, true)] (by kernel_rfl) rfl ?_
      simp (maxSteps := 4000000) only [Try.results15, XX, Nat.reduceBEq, Nat.reduceLT, Nat.reduceAdd, Nat.reduceMul, Nat.reduceSub, Nat.reduceLeDiff, Nat.reduceEqDiff, Int.reduceToNat, Int.reduceLT, Int.reduceLE, Int.reduceAdd, Int.reduceSub, Int.reduceEq, reduceIte, Nat.reduceBNe, Int.reducePow, Nat.reducePow, Int.reduceMul, Int.reduceNeg, isB_i, isB_b, isB_y, isBv_i, isBv_b, eqCells_t, TT]
      refine ⟨⟨by omega, by omega, by omega⟩, ?_⟩
      refine call_frame (number_spec false l sp c 0 (by omega) hc (by omega)) [0] rfl rfl ⟨⟨rfl, fun h => Bool.noConfusion h⟩, trivial⟩ rfl rfl ?_
      rintro _ _ ⟨rfl, rfl⟩
      simp (maxSteps := 4000000) only [Try.results15, ids_bsC, ren_bsC, noRo_bsC, plain_bsC, lt_bsC, ids_byte, ren_byte, noRo_byte, plain_byte, lt_byte, XX, Nat.reduceBEq, Nat.reduceLT, Nat.reduceAdd, Nat.reduceMul, Nat.reduceSub, Nat.reduceLeDiff, Nat.reduceEqDiff, Int.reduceToNat, Int.reduceLT, Int.reduceLE, Int.reduceAdd, Int.reduceSub, Int.reduceEq, reduceIte, Nat.reduceBNe, Int.reducePow, Nat.reducePow, Int.reduceMul, Int.reduceNeg, isB_i, isB_b, isB_y, isBv_i, isBv_b, eqCells_t, TT]
      refine call_frame (number_spec false l sp c 2 (by omega) hc (by omega)) [0] rfl rfl ⟨⟨rfl, fun h => Bool.noConfusion h⟩, trivial⟩ rfl rfl ?_
      rintro _ _ ⟨rfl, rfl⟩
      simp (maxSteps := 4000000) only [Try.results15, ids_bsC, ren_bsC, noRo_bsC, plain_bsC, lt_bsC, ids_byte, ren_byte, noRo_byte, plain_byte, lt_byte, XX, Nat.reduceBEq, Nat.reduceLT, Nat.reduceAdd, Nat.reduceMul, Nat.reduceSub, Nat.reduceLeDiff, Nat.reduceEqDiff, Int.reduceToNat, Int.reduceLT, Int.reduceLE, Int.reduceAdd, Int.reduceSub, Int.reduceEq, reduceIte, Nat.reduceBNe, Int.reducePow, Nat.reducePow, Int.reduceMul, Int.reduceNeg, isB_i, isB_b, isB_y, isBv_i, isBv_b, eqCells_t, TT]
      simp (maxSteps := 4000000) only [Try.results15, eD, bsR_toSC, bsC_len, eDl, XX, Nat.reduceBEq, Nat.reduceLT, Nat.reduceAdd, Nat.reduceMul, Nat.reduceSub, Nat.reduceLeDiff, Nat.reduceEqDiff, Int.reduceToNat, Int.reduceLT, Int.reduceLE, Int.reduceAdd, Int.reduceSub, Int.reduceEq, reduceIte, Nat.reduceBNe, Int.reducePow, Nat.reducePow, Int.reduceMul, Int.reduceNeg, isB_i, isB_b, isB_y, isBv_i, isBv_b, eqCells_t, TT]
      by_cases hn8 : n16 l 4 - 8 = 0
      · rw [hn8]
        refine ⟨⟨by unfold maxLen; omega, by simp⟩, xapp_room (by omega) ?_⟩
        simp (maxSteps := 4000000) only [Try.results15, XX, Nat.reduceBEq, Nat.reduceLT, Nat.reduceAdd, Nat.reduceMul, Nat.reduceSub, Nat.reduceLeDiff, Nat.reduceEqDiff, Int.reduceToNat, Int.reduceLT, Int.reduceLE, Int.reduceAdd, Int.reduceSub, Int.reduceEq, reduceIte, Nat.reduceBNe, Int.reducePow, Nat.reducePow, Int.reduceMul, Int.reduceNeg, isB_i, isB_b, isB_y, isBv_i, isBv_b, eqCells_t, TT]
        exact .inl ⟨List.eq_nil_of_length_eq_zero (eDl.trans hn8), rfl⟩
      · refine ⟨⟨by unfold maxLen; omega, by simp; omega⟩, xapp_grow (by omega) fun c3 hc3 _ => ?_⟩
        obtain ⟨r3, rfl⟩ := Nat.exists_eq_add_of_le hc3
        simp (maxSteps := 4000000) only [Try.results15, Nat.add_sub_cancel_left, rep_flat, bsC_zeros, bs_app, XX, Nat.reduceBEq, Nat.reduceLT, Nat.reduceAdd, Nat.reduceMul, Nat.reduceSub, Nat.reduceLeDiff, Nat.reduceEqDiff, Int.reduceToNat, Int.reduceLT, Int.reduceLE, Int.reduceAdd, Int.reduceSub, Int.reduceEq, reduceIte, Nat.reduceBNe, Int.reducePow, Nat.reducePow, Int.reduceMul, Int.reduceNeg, isB_i, isB_b, isB_y, isBv_i, isBv_b, eqCells_t, TT]
        exact .inr ⟨2, List.replicate r3 0, true, by simp only [slB, eDl, List.length_replicate], ⟨rfl, fun _ => rfl⟩⟩
  · have q4 : decide ((n16 l 6 : Int) = 0) = false := by simp only [decide_eq_false_iff_not]; omega
    simp (maxSteps := 4000000) only [Try.results15, q4, XX, Nat.reduceBEq, Nat.reduceLT, Nat.reduceAdd, Nat.reduceMul, Nat.reduceSub, Nat.reduceLeDiff, Nat.reduceEqDiff, Int.reduceToNat, Int.reduceLT, Int.reduceLE, Int.reduceAdd, Int.reduceSub, Int.reduceEq, reduceIte, Nat.reduceBNe, Int.reducePow, Nat.reducePow, Int.reduceMul, Int.reduceNeg, isB_i, isB_b, isB_y, isBv_i, isBv_b, eqCells_t, TT]
    refine ⟨⟨by omega, by omega, by omega⟩, ?_⟩
    refine call_frame p2 [] rfl rfl trivial rfl rfl ?_
    rintro _ _ ⟨r, rfl, rfl⟩
    simp (maxSteps := 4000000) only [Try.results15, ids_bsC, ren_bsC, noRo_bsC, plain_bsC, lt_bsC, ids_byte, ren_byte, noRo_byte, plain_byte, lt_byte, ids_nilR, ren_nilR, XX, Nat.reduceBEq, Nat.reduceLT, Nat.reduceAdd, Nat.reduceMul, Nat.reduceSub, Nat.reduceLeDiff, Nat.reduceEqDiff, Int.reduceToNat, Int.reduceLT, Int.reduceLE, Int.reduceAdd, Int.reduceSub, Int.reduceEq, reduceIte, Nat.reduceBNe, Int.reducePow, Nat.reducePow, Int.reduceMul, Int.reduceNeg, isB_i, isB_b, isB_y, isBv_i, isBv_b, eqCells_t, TT]
    refine call_pureF [.c (.ro ([(be4 src, [], 4), (be4 dst, [], 4), ([0, 17], [], 2), (be2 (n16 l 4), [], 2), (l.take (n16 l 4), l.drop (n16 l 4) ++ sp, c)].map partR ++ []) 5 (5 + r))] (p3 _) ⟨fz_rows rfl rfl ⟨fr_win rfl rfl rfl rfl, fr_win rfl rfl rfl rfl, fr_win rfl rfl rfl rfl, fr_win rfl rfl rfl rfl, .inl (by rw [eR]; dsimp only; rw [eT]), trivial⟩, trivial⟩ ?_
    rintro _ rfl
    by_cases hx0 : x = 0
    · rw [if_neg (fun h => h.2 hx0)]
      have q7 : decide ((x : Int) = 0) = true := by simp only [decide_eq_true_eq]; omega
      simp (maxSteps := 4000000) only [Try.results15, q7, XX, Nat.reduceBEq, Nat.reduceLT, Nat.reduceAdd, Nat.reduceMul, Nat.reduceSub, Nat.reduceLeDiff, Nat.reduceEqDiff, Int.reduceToNat, Int.reduceLT, Int.reduceLE, Int.reduceAdd, Int.reduceSub, Int.reduceEq, reduceIte, Nat.reduceBNe, Int.reducePow, Nat.reducePow, Int.reduceMul, Int.reduceNeg, isB_i, isB_b, isB_y, isBv_i, isBv_b, eqCells_t, TT]
      refine call_frame (number_spec true l sp c 2 (by omega) hc (by omega)) [0] rfl rfl ⟨⟨rfl, fun _ => ⟨rfl, rfl⟩⟩, trivial⟩ rfl rfl ?_
      rintro _ _ ⟨rfl, rfl⟩
      simp (maxSteps := 4000000) only [Try.results15, ids_bsC, ren_bsC, noRo_bsC, plain_bsC, lt_bsC, ids_byte, ren_byte, noRo_byte, plain_byte, lt_byte, XX, Nat.reduceBEq, Nat.reduceLT, Nat.reduceAdd, Nat.reduceMul, Nat.reduceSub, Nat.reduceLeDiff, Nat.reduceEqDiff, Int.reduceToNat, Int.reduceLT, Int.reduceLE, Int.reduceAdd, Int.reduceSub, Int.reduceEq, reduceIte, Nat.reduceBNe, Int.reducePow, Nat.reducePow, Int.reduceMul, Int.reduceNeg, isB_i, isB_b, isB_y, isBv_i, isBv_b, eqCells_t, TT]
      by_cases h2 : n16 l 2 = 0
      · have q5 : decide ((n16 l 2 : Int) = 0) = true := by simp only [decide_eq_true_eq]; omega
        rw [if_pos h2]
        simp (maxSteps := 4000000) only [Try.results15, q5, XX, Nat.reduceBEq, Nat.reduceLT, Nat.reduceAdd, Nat.reduceMul, Nat.reduceSub, Nat.reduceLeDiff, Nat.reduceEqDiff, Int.reduceToNat, Int.reduceLT, Int.reduceLE, Int.reduceAdd, Int.reduceSub, Int.reduceEq, reduceIte, Nat.reduceBNe, Int.reducePow, Nat.reducePow, Int.reduceMul, Int.reduceNeg, isB_i, isB_b, isB_y, isBv_i, isBv_b, eqCells_t, TT]
        exact .inl ⟨rfl, rfl⟩
      · have q5 : decide ((n16 l 2 : Int) = 0) = false := by simp only [decide_eq_false_iff_not]; omega
        rw [if_neg h2]
        simp (maxSteps := 4000000) only [Try.results15, q5, XX, Nat.reduceBEq, Nat.reduceLT, Nat.reduceAdd, Nat.reduceMul, Nat.reduceSub, Nat.reduceLeDiff, Nat.reduceEqDiff, Int.reduceToNat, Int.reduceLT, Int.reduceLE, Int.reduceAdd, Int.reduceSub, Int.reduceEq, reduceIte, Nat.reduceBNe, Int.reducePow, Nat.reducePow, Int.reduceMul, Int.reduceNeg, isB_i, isB_b, isB_y, isBv_i, isBv_b, eqCells_t, TT]
        refine draw_of cx_ok (by kernel_rfl) 400 [0] [(0, true), (2, true), (4, true), (5, true), (6, true), (1, false), (3, false), (7, false), (8, true), (9, false), (10, true)] (by kernel_rfl) rfl ?_
        simp (maxSteps := 4000000) only [Try.results15, XX, Nat.reduceBEq, Nat.reduceLT, Nat.reduceAdd, Nat.reduceMul, Nat.reduceSub, Nat.reduceLeDiff, Nat.reduceEqDiff, Int.reduceToNat, Int.reduceLT, Int.reduceLE, Int.reduceAdd, Int.reduceSub, Int.reduceEq, reduceIte, Nat.reduceBNe, Int.reducePow, Nat.reducePow, Int.reduceMul, Int.reduceNeg, isB_i, isB_b, isB_y, isBv_i, isBv_b, eqCells_t, TT]
        refine ⟨⟨by omega, by omega, by omega⟩, ?_⟩
        refine call_frame (number_spec false l sp c 0 (by omega) hc (by omega)) [0] rfl rfl ⟨⟨rfl, fun h => Bool.noConfusion h⟩, trivial⟩ rfl rfl ?_
        rintro _ _ ⟨rfl, rfl⟩
        simp (maxSteps := 4000000) only [Try.results15, ids_bsC, ren_bsC, noRo_bsC, plain_bsC, lt_bsC, ids_byte, ren_byte, noRo_byte, plain_byte, lt_byte, XX, Nat.reduceBEq, Nat.reduceLT, Nat.reduceAdd, Nat.reduceMul, Nat.reduceSub, Nat.reduceLeDiff, Nat.reduceEqDiff, Int.reduceToNat, Int.reduceLT, Int.reduceLE, Int.reduceAdd, Int.reduceSub, Int.reduceEq, reduceIte, Nat.reduceBNe, Int.reducePow, Nat.reducePow, Int.reduceMul, Int.reduceNeg, isB_i, isB_b, isB_y, isBv_i, isBv_b, eqCells_t, TT]
        refine call_frame (number_spec false l sp c 2 (by omega) hc (by omega)) [0] rfl rfl ⟨⟨rfl, fun h => Bool.noConfusion h⟩, trivial⟩ rfl rfl ?_
        rintro _ _ ⟨rfl, rfl⟩
        simp (maxSteps := 4000000) only [Try.results15, ids_bsC, ren_bsC, noRo_bsC, plain_bsC, lt_bsC, ids_byte, ren_byte, noRo_byte, plain_byte, lt_byte, XX, Nat.reduceBEq, Nat.reduceLT, Nat.reduceAdd, Nat.reduceMul, Nat.reduceSub, Nat.reduceLeDiff, Nat.reduceEqDiff, Int.reduceToNat, Int.reduceLT, Int.reduceLE, Int.reduceAdd, Int.reduceSub, Int.reduceEq, reduceIte, Nat.reduceBNe, Int.reducePow, Nat.reducePow, Int.reduceMul, Int.reduceNeg, isB_i, isB_b, isB_y, isBv_i, isBv_b, eqCells_t, TT]
        simp (maxSteps := 4000000) only [Try.results15, eD, bsR_toSC, bsC_len, eDl, XX, Nat.reduceBEq, Nat.reduceLT, Nat.reduceAdd, Nat.reduceMul, Nat.reduceSub, Nat.reduceLeDiff, Nat.reduceEqDiff, Int.reduceToNat, Int.reduceLT, Int.reduceLE, Int.reduceAdd, Int.reduceSub, Int.reduceEq, reduceIte, Nat.reduceBNe, Int.reducePow, Nat.reducePow, Int.reduceMul, Int.reduceNeg, isB_i, isB_b, isB_y, isBv_i, isBv_b, eqCells_t, TT]
        by_cases hn8 : n16 l 4 - 8 = 0
        · rw [hn8]
          refine ⟨⟨by unfold maxLen; omega, by simp⟩, xapp_room (by omega) ?_⟩
          simp (maxSteps := 4000000) only [Try.results15, XX, Nat.reduceBEq, Nat.reduceLT, Nat.reduceAdd, Nat.reduceMul, Nat.reduceSub, Nat.reduceLeDiff, Nat.reduceEqDiff, Int.reduceToNat, Int.reduceLT, Int.reduceLE, Int.reduceAdd, Int.reduceSub, Int.reduceEq, reduceIte, Nat.reduceBNe, Int.reducePow, Nat.reducePow, Int.reduceMul, Int.reduceNeg, isB_i, isB_b, isB_y, isBv_i, isBv_b, eqCells_t, TT]
          exact .inl ⟨List.eq_nil_of_length_eq_zero (eDl.trans hn8), rfl⟩
        · refine ⟨⟨by unfold maxLen; omega, by simp; omega⟩, xapp_grow (by omega) fun c3 hc3 _ => ?_⟩
          obtain ⟨r3, rfl⟩ := Nat.exists_eq_add_of_le hc3
          simp (maxSteps := 4000000) only [Try.results15, Nat.add_sub_cancel_left, rep_flat, bsC_zeros, bs_app, XX, Nat.reduceBEq, Nat.reduceLT, Nat.reduceAdd, Nat.reduceMul, Nat.reduceSub, Nat.reduceLeDiff, Nat.reduceEqDiff, Int.reduceToNat, Int.reduceLT, Int.reduceLE, Int.reduceAdd, Int.reduceSub, Int.reduceEq, reduceIte, Nat.reduceBNe, Int.reducePow, Nat.reducePow, Int.reduceMul, Int.reduceNeg, isB_i, isB_b, isB_y, isBv_i, isBv_b, eqCells_t, TT]
          exact .inr ⟨7, List.replicate r3 0, true, by simp only [slB, eDl, List.length_replicate], ⟨rfl, fun _ => rfl⟩⟩
    · rw [if_pos ⟨h6, hx0⟩]
      have q7 : decide ((x : Int) = 0) = false := by simp only [decide_eq_false_iff_not]; omega
      simp (maxSteps := 4000000) only [Try.results15, q7, XX, Nat.reduceBEq, Nat.reduceLT, Nat.reduceAdd, Nat.reduceMul, Nat.reduceSub, Nat.reduceLeDiff, Nat.reduceEqDiff, Int.reduceToNat, Int.reduceLT, Int.reduceLE, Int.reduceAdd, Int.reduceSub, Int.reduceEq, reduceIte, Nat.reduceBNe, Int.reducePow, Nat.reducePow, Int.reduceMul, Int.reduceNeg, isB_i, isB_b, isB_y, isBv_i, isBv_b, eqCells_t, TT]
      exact .inl ⟨rfl, rfl⟩

end

end Go.Proofs.Ytiefbdddjhigdaa.Sx
