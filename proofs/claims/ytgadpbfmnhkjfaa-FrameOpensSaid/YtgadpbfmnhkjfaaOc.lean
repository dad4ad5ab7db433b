/- The symbolic executor, at work: numbers as bytes. No condition. -/
import Derived.Test.YtgadpbfmnhkjfaaBy
namespace Go.Proofs.Ytgadpbfmnhkjfaa.Sx
open Go
set_option linter.unusedSimpArgs false
set_option linter.unusedVariables false
set_option maxRecDepth 10000
set_option maxHeartbeats 1000000

/-- Two bytes of a number. -/
abbrev be2 (n : Nat) : List UInt8 := [UInt8.ofNat (n / 256), UInt8.ofNat n]

theorem put2_spec (n : Nat) (hn : n < 18446744073709551616) : Spec cx.P 21 [.c (u64 n), .c (i64 2)] [] fun s h' => s = .c (.sl 0 0 2 2) ∧ h' = [wB true (be2 n)] := by
  have key : Spec cx.P 21 [.c (u64 n), .c (i64 2)] [] fun s h' => s = .c (.sl 0 0 2 2) ∧ ∃ a b, h' = [wB true (be2 n), a, b] := by
    refine spec_of_X cx_ok Try.func21 rfl (by kernel_rfl) (by kernel_rfl) (Nat.le_of_ble_eq_true rfl) 400 7 ?_
    simp (maxSteps := 4000000) only [Try.results21, XX, Nat.reduceBEq, Nat.reduceLT, Nat.reduceAdd, Nat.reduceMul, Nat.reduceSub, Nat.reduceLeDiff, Nat.reduceEqDiff, Int.reduceToNat, Int.reduceLT, Int.reduceLE, Int.reduceAdd, Int.reduceSub, Int.reduceEq, reduceIte, Nat.reduceBNe, Int.reducePow, Nat.reducePow, Int.reduceMul, Int.reduceNeg, isB_i, isB_b, isB_y, isBv_i, isBv_b, eqCells_t, TT]
    refine loop_rounds cx_ok 400 3 ?_
    simp (maxSteps := 4000000) only [Try.results21, w64, List.replicate_succ, List.replicate_zero, List.flatten_cons, List.flatten_nil, Int.reduceDiv, Int.reduceMod, Int.reduceToNat, XX, Nat.reduceBEq, Nat.reduceLT, Nat.reduceAdd, Nat.reduceMul, Nat.reduceSub, Nat.reduceLeDiff, Nat.reduceEqDiff, Int.reduceToNat, Int.reduceLT, Int.reduceLE, Int.reduceAdd, Int.reduceSub, Int.reduceEq, reduceIte, Nat.reduceBNe, Int.reducePow, Nat.reducePow, Int.reduceMul, Int.reduceNeg, isB_i, isB_b, isB_y, isBv_i, isBv_b, eqCells_t, TT]
    refine ⟨by unfold maxLen; omega, xapp_room (by omega) ?_⟩
    simp (maxSteps := 4000000) only [Try.results21, w64, shr0, shr8, byteC_n, List.replicate_succ, List.replicate_zero, List.flatten_cons, List.flatten_nil, Int.reduceDiv, Int.reduceMod, Int.reduceToNat, XX, Nat.reduceBEq, Nat.reduceLT, Nat.reduceAdd, Nat.reduceMul, Nat.reduceSub, Nat.reduceLeDiff, Nat.reduceEqDiff, Int.reduceToNat, Int.reduceLT, Int.reduceLE, Int.reduceAdd, Int.reduceSub, Int.reduceEq, reduceIte, Nat.reduceBNe, Int.reducePow, Nat.reducePow, Int.reduceMul, Int.reduceNeg, isB_i, isB_b, isB_y, isBv_i, isBv_b, eqCells_t, TT]
    refine ⟨by unfold maxLen; omega, xapp_room (by omega) ?_⟩
    simp (maxSteps := 4000000) only [Try.results21, w64, List.replicate_succ, XX, Nat.reduceBEq, Nat.reduceLT, Nat.reduceAdd, Nat.reduceMul, Nat.reduceSub, Nat.reduceLeDiff, Nat.reduceEqDiff, Int.reduceToNat, Int.reduceLT, Int.reduceLE, Int.reduceAdd, Int.reduceSub, Int.reduceEq, reduceIte, Nat.reduceBNe, Int.reducePow, Nat.reducePow, Int.reduceMul, Int.reduceNeg, isB_i, isB_b, isB_y, isBv_i, isBv_b, eqCells_t, TT]
    exact ⟨_, _, rfl⟩
  exact key.wk fun t h' ⟨h1, a, b, h2⟩ => ⟨t, [wB true (be2 n)], [some 0], rfl, by subst h2; simp only [XX, Nat.reduceBEq, Nat.reduceLT, Nat.reduceAdd, Nat.reduceMul, Nat.reduceSub, Nat.reduceLeDiff, Nat.reduceEqDiff, Int.reduceToNat, Int.reduceLT, Int.reduceLE, Int.reduceAdd, Int.reduceSub, Int.reduceEq, reduceIte, Nat.reduceBNe, Int.reducePow, Nat.reducePow, Int.reduceMul, Int.reduceNeg, isB_i, isB_b, isB_y, isBv_i, isBv_b, eqCells_t, TT, ids_bsC, ren_bsC, noRo_bsC, plain_bsC, lt_bsC, ids_byte, ren_byte, noRo_byte, plain_byte, lt_byte], by subst h1; simp only [XX, Nat.reduceBEq, Nat.reduceLT, Nat.reduceAdd, Nat.reduceMul, Nat.reduceSub, Nat.reduceLeDiff, Nat.reduceEqDiff, Int.reduceToNat, Int.reduceLT, Int.reduceLE, Int.reduceAdd, Int.reduceSub, Int.reduceEq, reduceIte, Nat.reduceBNe, Int.reducePow, Nat.reducePow, Int.reduceMul, Int.reduceNeg, isB_i, isB_b, isB_y, isBv_i, isBv_b, eqCells_t, TT, ids_bsC, ren_bsC, noRo_bsC, plain_bsC, lt_bsC, ids_byte, ren_byte, noRo_byte, plain_byte, lt_byte], h1, rfl⟩

theorem rput2_spec (n : Nat) (hn : n < 18446744073709551616) : Spec cx.P 20 [.c (u64 n), .c (i64 2)] [] fun s h' => s = .c (.sl 0 0 2 2) ∧ h' = [wB true (be2 n)] := by
  refine spec_of_X cx_ok Try.func20 rfl (by kernel_rfl) (by kernel_rfl) (Nat.le_of_ble_eq_true rfl) 400 7 ?_
  simp (maxSteps := 4000000) only [Try.results20, XX, Nat.reduceBEq, Nat.reduceLT, Nat.reduceAdd, Nat.reduceMul, Nat.reduceSub, Nat.reduceLeDiff, Nat.reduceEqDiff, Int.reduceToNat, Int.reduceLT, Int.reduceLE, Int.reduceAdd, Int.reduceSub, Int.reduceEq, reduceIte, Nat.reduceBNe, Int.reducePow, Nat.reducePow, Int.reduceMul, Int.reduceNeg, isB_i, isB_b, isB_y, isBv_i, isBv_b, eqCells_t, TT]
  refine loop_rounds cx_ok 400 3 ?_
  simp (maxSteps := 4000000) only [Try.results20, w64, List.replicate_succ, List.replicate_zero, List.flatten_cons, List.flatten_nil, Int.reduceDiv, Int.reduceMod, Int.reduceToNat, XX, Nat.reduceBEq, Nat.reduceLT, Nat.reduceAdd, Nat.reduceMul, Nat.reduceSub, Nat.reduceLeDiff, Nat.reduceEqDiff, Int.reduceToNat, Int.reduceLT, Int.reduceLE, Int.reduceAdd, Int.reduceSub, Int.reduceEq, reduceIte, Nat.reduceBNe, Int.reducePow, Nat.reducePow, Int.reduceMul, Int.reduceNeg, isB_i, isB_b, isB_y, isBv_i, isBv_b, eqCells_t, TT]
  rw [tdiv256, wu64 (by omega) (by omega), tmod256, tmod256, byteC_m, byteC_m]
  rfl

theorem drop2 {l sp : List UInt8} {k : Nat} (h : k + 2 ≤ l.length) : ∃ R, (bsR (l ++ sp)).drop k = .v (.int .u8 (l.getD k 0).toNat) :: .v (.int .u8 (l.getD (k + 1) 0).toNat) :: R := by
  refine ⟨(bsR (l ++ sp)).drop (k + 2), ?_⟩
  rw [List.drop_eq_getElem_cons (by simp; omega), List.drop_eq_getElem_cons (by simp; omega)]
  simp only [List.getElem_map, byteR]
  rw [List.getElem_append_left (by omega), List.getElem_append_left (by omega), List.getD_eq_getElem?_getD, List.getD_eq_getElem?_getD, List.getElem?_eq_getElem (by omega), List.getElem?_eq_getElem (by omega)]
  rfl
theorem get2_spec (l sp : List UInt8) (c at' : Nat) (hb : at' + 2 ≤ l.length) (hc : l.length ≤ c) (hl : l.length ≤ 140737488355328) : Spec cx.P 23 [.c (roB l sp c), .c (i64 at'), .c (i64 2)] [] fun s h' => s = .tup [(false, [u64 ((l.getD at' 0).toNat * 256 + (l.getD (at' + 1) 0).toNat : Nat)]), (false, [.v (.int .i64 0)])] ∧ h' = [] := by
  have d0 : decide ((at' : Int) < 0) = false := by simp only [decide_eq_false_iff_not]; omega
  have d1 : decide (((l.length : Nat) : Int) < (at' : Int)) = false := by simp only [decide_eq_false_iff_not]; omega
  have d2 : decide ((((l.length - at' : Nat)) : Int) < 2) = false := by simp only [decide_eq_false_iff_not]; omega
  have e1 : IntKind.i64.wrap ((l.length : Int) - (at' : Int)) = ((l.length - at' : Nat) : Int) := by rw [w64] <;> omega
  have e2 : IntKind.i64.wrap ((at' : Int) + 2) = ((at' + 2 : Nat) : Int) := by rw [w64] <;> omega
  have e3 : at' + 2 - at' = 2 := by omega
  refine spec_of_X cx_ok Try.func23 rfl (by kernel_rfl) (by kernel_rfl) (Nat.le_of_ble_eq_true rfl) 400 43 ?_
  simp (maxSteps := 4000000) only [Try.results23, XX, Nat.reduceBEq, Nat.reduceLT, Nat.reduceAdd, Nat.reduceMul, Nat.reduceSub, Nat.reduceLeDiff, Nat.reduceEqDiff, Int.reduceToNat, Int.reduceLT, Int.reduceLE, Int.reduceAdd, Int.reduceSub, Int.reduceEq, reduceIte, Nat.reduceBNe, Int.reducePow, Nat.reducePow, Int.reduceMul, Int.reduceNeg, isB_i, isB_b, isB_y, isBv_i, isBv_b, eqCells_t, TT]
  simp (maxSteps := 4000000) only [Try.results23, d0, d1, d2, e1, e2, e3, XX, Nat.reduceBEq, Nat.reduceLT, Nat.reduceAdd, Nat.reduceMul, Nat.reduceSub, Nat.reduceLeDiff, Nat.reduceEqDiff, Int.reduceToNat, Int.reduceLT, Int.reduceLE, Int.reduceAdd, Int.reduceSub, Int.reduceEq, reduceIte, Nat.reduceBNe, Int.reducePow, Nat.reducePow, Int.reduceMul, Int.reduceNeg, isB_i, isB_b, isB_y, isBv_i, isBv_b, eqCells_t, TT]
  refine ⟨by omega, loop_rounds cx_ok 400 3 ?_⟩
  obtain ⟨R, hR⟩ := drop2 (sp := sp) hb
  simp (maxSteps := 4000000) only [Try.results23, w64, Int.reduceToNat, hR, XX, Nat.reduceBEq, Nat.reduceLT, Nat.reduceAdd, Nat.reduceMul, Nat.reduceSub, Nat.reduceLeDiff, Nat.reduceEqDiff, Int.reduceToNat, Int.reduceLT, Int.reduceLE, Int.reduceAdd, Int.reduceSub, Int.reduceEq, reduceIte, Nat.reduceBNe, Int.reducePow, Nat.reducePow, Int.reduceMul, Int.reduceNeg, isB_i, isB_b, isB_y, isBv_i, isBv_b, eqCells_t, TT]
  have q0 := (l.getD at' 0).toNat_lt
  have q1 := (l.getD (at' + 1) 0).toNat_lt
  have z := or_next (a := 0) (b := (l.getD at' 0).toNat) (by omega) (by omega)
  rw [Int.natCast_zero] at z
  rw [z, or_next (by omega) (by omega)]
  exact ⟨by omega, by omega, by rw [Nat.zero_mul, Nat.zero_add]⟩

/-- A station's address. -/
structure M6 where
  a : UInt8
  b : UInt8
  c : UInt8
  d : UInt8
  e : UInt8
  f : UInt8
deriving DecidableEq
abbrev M6.l (m : M6) : List UInt8 := [m.a, m.b, m.c, m.d, m.e, m.f]
theorem eqM (d o : M6) : eqCells [byteC d.a, byteC d.b, byteC d.c, byteC d.d, byteC d.e, byteC d.f] [byteC o.a, byteC o.b, byteC o.c, byteC o.d, byteC o.e, byteC o.f] = some (decide (d = o)) := by
  have e : ∀ a b : UInt8, ((a.toNat : Int) = (b.toNat : Int)) ↔ a = b := fun a b => by rw [Int.natCast_inj, UInt8.toNat_inj]
  simp only [eqCells, byteC, if_true, Option.map_some, Bool.and_true, e]
  congr 1
  obtain ⟨a, b, c, d, e, f⟩ := d
  obtain ⟨a', b', c', d', e', f'⟩ := o
  simp only [M6.mk.injEq]
  rw [Bool.eq_iff_iff]
  simp
abbrev M6.all : M6 := ⟨255, 255, 255, 255, 255, 255⟩
abbrev M6.group (m : M6) : Bool := decide (m.a.toNat % 2 = 1)

theorem group_spec (m : M6) : Spec cx.P 25 [.agg (bsC m.l)] [] fun s _ => s.plain = true ∧ s = .c (bC m.group) := by
  refine spec_of_X cx_ok Try.func25 rfl (by kernel_rfl) (by kernel_rfl) (Nat.le_of_ble_eq_true rfl) 400 3 ?_
  simp (maxSteps := 4000000) only [Try.results25, XX, Nat.reduceBEq, Nat.reduceLT, Nat.reduceAdd, Nat.reduceMul, Nat.reduceSub, Nat.reduceLeDiff, Nat.reduceEqDiff, Int.reduceToNat, Int.reduceLT, Int.reduceLE, Int.reduceAdd, Int.reduceSub, Int.reduceEq, reduceIte, Nat.reduceBNe, Int.reducePow, Nat.reducePow, Int.reduceMul, Int.reduceNeg, isB_i, isB_b, isB_y, isBv_i, isBv_b, eqCells_t, TT]
  simp (maxSteps := 4000000) only [Try.results25, byteC, XX, Nat.reduceBEq, Nat.reduceLT, Nat.reduceAdd, Nat.reduceMul, Nat.reduceSub, Nat.reduceLeDiff, Nat.reduceEqDiff, Int.reduceToNat, Int.reduceLT, Int.reduceLE, Int.reduceAdd, Int.reduceSub, Int.reduceEq, reduceIte, Nat.reduceBNe, Int.reducePow, Nat.reducePow, Int.reduceMul, Int.reduceNeg, isB_i, isB_b, isB_y, isBv_i, isBv_b, eqCells_t, TT]
  have := m.a.toNat_lt
  first
  | rw [show (1 : Int) = ((1 : Nat) : Int) from rfl, and_u8 (by omega) (by omega), Nat.and_one_is_mod]
  | rw [show (2 : Int) = ((2 : Nat) : Int) from rfl, tmod_nat]
  simp only [SV.c.injEq, SC.v.injEq, Value.bool.injEq, decide_eq_decide]
  omega

theorem rgroup_spec (m : M6) : Spec cx.P 27 [.agg (bsC m.l)] [] fun s _ => s.plain = true ∧ s = .c (bC m.group) := by
  refine spec_of_X cx_ok Try.func27 rfl (by kernel_rfl) (by kernel_rfl) (Nat.le_of_ble_eq_true rfl) 400 3 ?_
  simp (maxSteps := 4000000) only [Try.results27, XX, Nat.reduceBEq, Nat.reduceLT, Nat.reduceAdd, Nat.reduceMul, Nat.reduceSub, Nat.reduceLeDiff, Nat.reduceEqDiff, Int.reduceToNat, Int.reduceLT, Int.reduceLE, Int.reduceAdd, Int.reduceSub, Int.reduceEq, reduceIte, Nat.reduceBNe, Int.reducePow, Nat.reducePow, Int.reduceMul, Int.reduceNeg, isB_i, isB_b, isB_y, isBv_i, isBv_b, eqCells_t, TT]
  simp (maxSteps := 4000000) only [Try.results27, byteC, XX, Nat.reduceBEq, Nat.reduceLT, Nat.reduceAdd, Nat.reduceMul, Nat.reduceSub, Nat.reduceLeDiff, Nat.reduceEqDiff, Int.reduceToNat, Int.reduceLT, Int.reduceLE, Int.reduceAdd, Int.reduceSub, Int.reduceEq, reduceIte, Nat.reduceBNe, Int.reducePow, Nat.reducePow, Int.reduceMul, Int.reduceNeg, isB_i, isB_b, isB_y, isBv_i, isBv_b, eqCells_t, TT]
  have := m.a.toNat_lt
  first
  | rw [show (1 : Int) = ((1 : Nat) : Int) from rfl, and_u8 (by omega) (by omega), Nat.and_one_is_mod]
  | rw [show (2 : Int) = ((2 : Nat) : Int) from rfl, tmod_nat]
  simp only [SV.c.injEq, SC.v.injEq, Value.bool.injEq, decide_eq_decide]
  omega

theorem every_spec : Spec cx.P 26 [] [] fun s _ => s.plain = true ∧ s = .agg (bsC M6.all.l) := by
  refine spec_of_X cx_ok Try.func26 rfl (by kernel_rfl) (by kernel_rfl) (Nat.le_of_ble_eq_true rfl) 400 1 ?_
  simp (maxSteps := 4000000) only [Try.results26, XX, Nat.reduceBEq, Nat.reduceLT, Nat.reduceAdd, Nat.reduceMul, Nat.reduceSub, Nat.reduceLeDiff, Nat.reduceEqDiff, Int.reduceToNat, Int.reduceLT, Int.reduceLE, Int.reduceAdd, Int.reduceSub, Int.reduceEq, reduceIte, Nat.reduceBNe, Int.reducePow, Nat.reducePow, Int.reduceMul, Int.reduceNeg, isB_i, isB_b, isB_y, isBv_i, isBv_b, eqCells_t, TT]
  rfl
theorem revery_spec : Spec cx.P 28 [] [] fun s _ => s.plain = true ∧ s = .agg (bsC M6.all.l) := by
  refine spec_of_X cx_ok Try.func28 rfl (by kernel_rfl) (by kernel_rfl) (Nat.le_of_ble_eq_true rfl) 400 1 ?_
  simp (maxSteps := 4000000) only [Try.results28, XX, Nat.reduceBEq, Nat.reduceLT, Nat.reduceAdd, Nat.reduceMul, Nat.reduceSub, Nat.reduceLeDiff, Nat.reduceEqDiff, Int.reduceToNat, Int.reduceLT, Int.reduceLE, Int.reduceAdd, Int.reduceSub, Int.reduceEq, reduceIte, Nat.reduceBNe, Int.reducePow, Nat.reducePow, Int.reduceMul, Int.reduceNeg, isB_i, isB_b, isB_y, isBv_i, isBv_b, eqCells_t, TT]
  rfl

theorem clone_spec (l sp : List UInt8) (c : Nat) (hl : l.length ≤ 140737488355328) (hn : 0 < l.length) (hc : 0 < c) : Spec cx.P 24 [.c (roB l sp c)] [] fun s h' => ∃ r, s = .c (.sl 0 0 l.length (l.length + r)) ∧ h' = [wB true (l ++ List.replicate r 0)] := by
  have key : Spec cx.P 24 [.c (roB l sp c)] [] fun s h' => ∃ r a, s = .c (.sl 1 0 l.length (l.length + r)) ∧ h' = [a, wB true (l ++ List.replicate r 0)] := by
    refine spec_of_X cx_ok Try.func24 rfl (by kernel_rfl) (by kernel_rfl) (Nat.le_of_ble_eq_true rfl) 400 3 ?_
    simp (maxSteps := 4000000) only [Try.results24, XX, Nat.reduceBEq, Nat.reduceLT, Nat.reduceAdd, Nat.reduceMul, Nat.reduceSub, Nat.reduceLeDiff, Nat.reduceEqDiff, Int.reduceToNat, Int.reduceLT, Int.reduceLE, Int.reduceAdd, Int.reduceSub, Int.reduceEq, reduceIte, Nat.reduceBNe, Int.reducePow, Nat.reducePow, Int.reduceMul, Int.reduceNeg, isB_i, isB_b, isB_y, isBv_i, isBv_b, eqCells_t, TT]
    have e0 : (bsR (l ++ sp)).take l.length = bsR l := by rw [rs_take, List.take_left' rfl]
    refine ⟨hc, ⟨⟨by omega, by unfold maxLen; omega, by simp, fun h => by omega⟩, by simp⟩, xapp_grow hn fun c' h1 _ => ?_⟩
    obtain ⟨r, rfl⟩ := Nat.exists_eq_add_of_le h1
    simp (maxSteps := 4000000) only [Try.results24, e0, bsR_toSC, Nat.add_sub_cancel_left, zeros_flat, bs_app, XX, Nat.reduceBEq, Nat.reduceLT, Nat.reduceAdd, Nat.reduceMul, Nat.reduceSub, Nat.reduceLeDiff, Nat.reduceEqDiff, Int.reduceToNat, Int.reduceLT, Int.reduceLE, Int.reduceAdd, Int.reduceSub, Int.reduceEq, reduceIte, Nat.reduceBNe, Int.reducePow, Nat.reducePow, Int.reduceMul, Int.reduceNeg, isB_i, isB_b, isB_y, isBv_i, isBv_b, eqCells_t, TT]
    exact ⟨r, _, rfl, rfl⟩
  exact key.wk fun t h' ⟨r, a, h1, h2⟩ => ⟨.c (.sl 0 0 l.length (l.length + r)), [wB true (l ++ List.replicate r 0)], [some 1], rfl, by subst h2; simp only [XX, Nat.reduceBEq, Nat.reduceLT, Nat.reduceAdd, Nat.reduceMul, Nat.reduceSub, Nat.reduceLeDiff, Nat.reduceEqDiff, Int.reduceToNat, Int.reduceLT, Int.reduceLE, Int.reduceAdd, Int.reduceSub, Int.reduceEq, reduceIte, Nat.reduceBNe, Int.reducePow, Nat.reducePow, Int.reduceMul, Int.reduceNeg, isB_i, isB_b, isB_y, isBv_i, isBv_b, eqCells_t, TT, ids_bsC, ren_bsC, noRo_bsC, plain_bsC, lt_bsC, ids_byte, ren_byte, noRo_byte, plain_byte, lt_byte], by subst h1; simp only [XX, Nat.reduceBEq, Nat.reduceLT, Nat.reduceAdd, Nat.reduceMul, Nat.reduceSub, Nat.reduceLeDiff, Nat.reduceEqDiff, Int.reduceToNat, Int.reduceLT, Int.reduceLE, Int.reduceAdd, Int.reduceSub, Int.reduceEq, reduceIte, Nat.reduceBNe, Int.reducePow, Nat.reducePow, Int.reduceMul, Int.reduceNeg, isB_i, isB_b, isB_y, isBv_i, isBv_b, eqCells_t, TT, ids_bsC, ren_bsC, noRo_bsC, plain_bsC, lt_bsC, ids_byte, ren_byte, noRo_byte, plain_byte, lt_byte], r, rfl, rfl⟩

end Go.Proofs.Ytgadpbfmnhkjfaa.Sx
