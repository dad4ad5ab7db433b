/- The symbolic executor, at work: the dice. No condition. -/
import Derived.Test.YtniednekfnfhmaaD6a
namespace Go.Proofs.Ytniednekfnfhmaa.Sx
open Go
set_option linter.unusedSimpArgs false
set_option linter.unusedVariables false
set_option maxRecDepth 10000
set_option maxHeartbeats 1000000

abbrev dB (w o n c : Nat) : SB := ⟨true, 46, [.sl w o n c]⟩

/-- A dice stands in window 'i': what is left of it. -/
structure Dc (H : List SB) (i w : Nat) (ow : Bool) (L : List Nat) : Prop where
  ex : ∃ (o : Nat) (pre sp : List Nat), H[i]? = some (dB w o L.length (L.length + sp.length)) ∧ H[w]? = some (wU ow (pre ++ (L ++ sp))) ∧ pre.length = o ∧ w ≠ i ∧ (0 < L.length + sp.length → ow = true)

theorem new_spec (l sp : List Nat) (c : Nat) (hc : l.length ≤ c) (hl : 4 * l.length ≤ 140737488355328) : Spec cx.P 8 [.c (roU l sp c)] [] fun t h' => t = .c (.ptr 1 0) ∧ ∃ z o, h' = [wU o (l ++ z), dB 0 0 l.length (l.length + z.length)] ∧ (0 < l.length + z.length → o = true) := by
  have p := cloneU_spec l sp c hc hl
  refine spec_of_X cx_ok Try.func8 rfl (by kernel_rfl) (by kernel_rfl) (Nat.le_of_ble_eq_true rfl) 400 3 ?_
  simp (maxSteps := 4000000) only [Try.results8, XX, Nat.reduceBEq, Nat.reduceLT, Nat.reduceAdd, Nat.reduceMul, Nat.reduceSub, Nat.reduceLeDiff, Nat.reduceEqDiff, Int.reduceToNat, Int.reduceLT, Int.reduceLE, Int.reduceAdd, Int.reduceSub, Int.reduceEq, reduceIte, Nat.reduceBNe, Int.reducePow, Nat.reducePow, Int.reduceMul, Int.reduceNeg, isB_i, isB_b, isB_y, isBv_i, isBv_b, eqCells_t, TT]
  refine call_fr p true (fun _ t h' h => resW_noRo h) [] ⟨.inl ⟨rfl, rfl⟩, trivial⟩ rfl trivial rfl ?_
  rintro _ _ ⟨z, o, rfl, rfl, ho⟩
  simp (maxSteps := 4000000) only [Try.results8, ids_usC, ren_usC, lt_usC, noRo_usC, XX, Nat.reduceBEq, Nat.reduceLT, Nat.reduceAdd, Nat.reduceMul, Nat.reduceSub, Nat.reduceLeDiff, Nat.reduceEqDiff, Int.reduceToNat, Int.reduceLT, Int.reduceLE, Int.reduceAdd, Int.reduceSub, Int.reduceEq, reduceIte, Nat.reduceBNe, Int.reducePow, Nat.reducePow, Int.reduceMul, Int.reduceNeg, isB_i, isB_b, isB_y, isBv_i, isBv_b, eqCells_t, TT]
  exact ⟨z, o, rfl, ho⟩

theorem next_spec (H : List SB) (i w : Nat) (ow : Bool) (L : List Nat) (D : Dc H i w ow L) : Spec cx.P 14 [.c (.ptr i 0)] H fun t h' => t = .c (c32 (L.headD 0)) ∧ Dc h' i w ow L.tail ∧ h'.length = H.length ∧ ∀ k, k ≠ i → h'[k]? = H[k]? := by
  obtain ⟨o, pre, sp, h1, h2, h3, h4, h5⟩ := D.ex
  have lt1 := lt_of h1
  have lt2 := lt_of h2
  match L, D, h1, h2, h5 with
  | [], D, h1, h2, h5 =>
    refine spec_of_X cx_ok Try.func14 rfl (by kernel_rfl) (by kernel_rfl) (Nat.le_of_ble_eq_true rfl) 400 4 ?_
    simp (maxSteps := 4000000) only [Try.results14, XX, Nat.reduceBEq, Nat.reduceLT, Nat.reduceAdd, Nat.reduceMul, Nat.reduceSub, Nat.reduceLeDiff, Nat.reduceEqDiff, Int.reduceToNat, Int.reduceLT, Int.reduceLE, Int.reduceAdd, Int.reduceSub, Int.reduceEq, reduceIte, Nat.reduceBNe, Int.reducePow, Nat.reducePow, Int.reduceMul, Int.reduceNeg, isB_i, isB_b, isB_y, isBv_i, isBv_b, eqCells_t, TT]
    simp (maxSteps := 4000000) only [Try.results14, h1, lt1, h2, lt2, List.length_nil, XX, Nat.reduceBEq, Nat.reduceLT, Nat.reduceAdd, Nat.reduceMul, Nat.reduceSub, Nat.reduceLeDiff, Nat.reduceEqDiff, Int.reduceToNat, Int.reduceLT, Int.reduceLE, Int.reduceAdd, Int.reduceSub, Int.reduceEq, reduceIte, Nat.reduceBNe, Int.reducePow, Nat.reducePow, Int.reduceMul, Int.reduceNeg, isB_i, isB_b, isB_y, isBv_i, isBv_b, eqCells_t, TT]
    exact ⟨rfl, D⟩
  | x :: L, D, h1, h2, h5 =>
    refine spec_of_X cx_ok Try.func14 rfl (by kernel_rfl) (by kernel_rfl) (Nat.le_of_ble_eq_true rfl) 400 4 ?_
    simp (maxSteps := 4000000) only [Try.results14, XX, Nat.reduceBEq, Nat.reduceLT, Nat.reduceAdd, Nat.reduceMul, Nat.reduceSub, Nat.reduceLeDiff, Nat.reduceEqDiff, Int.reduceToNat, Int.reduceLT, Int.reduceLE, Int.reduceAdd, Int.reduceSub, Int.reduceEq, reduceIte, Nat.reduceBNe, Int.reducePow, Nat.reducePow, Int.reduceMul, Int.reduceNeg, isB_i, isB_b, isB_y, isBv_i, isBv_b, eqCells_t, TT]
    have d0 : decide (((L.length + 1 : Nat) : Int) = 0) = false := by simp only [decide_eq_false_iff_not]; omega
    have hx : (usC (pre ++ (x :: L ++ sp))).getD o .any = c32 x := by
      rw [List.getD_eq_getElem?_getD, List.getElem?_map, List.getElem?_append_right (by omega), h3, Nat.sub_self]; rfl
    have e1 : L.length + 1 - 1 = L.length := by omega
    have e2 : L.length + 1 + sp.length - 1 = L.length + sp.length := by omega
    have hx' : (usC (pre ++ x :: (L ++ sp))).getD o .any = c32 x := hx
    simp (maxSteps := 4000000) only [Try.results14, h1, lt1, h2, lt2, List.length_cons, d0, e1, e2, List.append_assoc, List.getElem?_append_left, List.getElem?_append_right, List.length_append, List.length_set, List.set_append_left, gset, List.getElem?_set_ne, Nat.add_sub_cancel_left, Nat.sub_self, Nat.le_refl, Nat.le_add_right, List.replicate_one, List.flatten_cons, List.flatten_nil, rep_flat, XX, Nat.reduceBEq, Nat.reduceLT, Nat.reduceAdd, Nat.reduceMul, Nat.reduceSub, Nat.reduceLeDiff, Nat.reduceEqDiff, Int.reduceToNat, Int.reduceLT, Int.reduceLE, Int.reduceAdd, Int.reduceSub, Int.reduceEq, reduceIte, Nat.reduceBNe, Int.reducePow, Nat.reducePow, Int.reduceMul, Int.reduceNeg, isB_i, isB_b, isB_y, isBv_i, isBv_b, eqCells_t, TT]
    refine ⟨by omega, by simp; omega, ⟨by omega, by omega, by omega⟩, by rw [hx']; rfl, ⟨o + 1, pre ++ [x], sp, ?_, ?_, by simp; omega, h4, fun _ => h5 (by simp; omega)⟩, fun k hk => List.getElem?_set_ne (Ne.symm hk)⟩
    · rw [List.getElem?_set_self lt1]; rfl
    · rw [List.getElem?_set_ne (Ne.symm h4), h2]; simp

theorem left_spec (H : List SB) (i w : Nat) (ow : Bool) (L : List Nat) (D : Dc H i w ow L) : Spec cx.P 12 [.c (.ptr i 0)] H fun t h' => t = .c (i64 (L.length : Int)) ∧ h' = H := by
  obtain ⟨o, pre, sp, h1, h2, h3, h4, h5⟩ := D.ex
  have lt1 := lt_of h1
  refine spec_of_X cx_ok Try.func12 rfl (by kernel_rfl) (by kernel_rfl) (Nat.le_of_ble_eq_true rfl) 400 3 ?_
  simp (maxSteps := 4000000) only [Try.results12, XX, Nat.reduceBEq, Nat.reduceLT, Nat.reduceAdd, Nat.reduceMul, Nat.reduceSub, Nat.reduceLeDiff, Nat.reduceEqDiff, Int.reduceToNat, Int.reduceLT, Int.reduceLE, Int.reduceAdd, Int.reduceSub, Int.reduceEq, reduceIte, Nat.reduceBNe, Int.reducePow, Nat.reducePow, Int.reduceMul, Int.reduceNeg, isB_i, isB_b, isB_y, isBv_i, isBv_b, eqCells_t, TT]
  simp (maxSteps := 4000000) only [Try.results12, h1, lt1, XX, Nat.reduceBEq, Nat.reduceLT, Nat.reduceAdd, Nat.reduceMul, Nat.reduceSub, Nat.reduceLeDiff, Nat.reduceEqDiff, Int.reduceToNat, Int.reduceLT, Int.reduceLE, Int.reduceAdd, Int.reduceSub, Int.reduceEq, reduceIte, Nat.reduceBNe, Int.reducePow, Nat.reducePow, Int.reduceMul, Int.reduceNeg, isB_i, isB_b, isB_y, isBv_i, isBv_b, eqCells_t, TT]

/-- All windows but one are as they were. -/
def Off (H H' : List SB) (i : Nat) : Prop := H'.length = H.length ∧ ∀ k, k ≠ i → H'[k]? = H[k]?

def KeepD (H H' : List SB) (i : Nat) : Prop := H.length ≤ H'.length ∧ ∀ k, k < H.length → k ≠ i → H'[k]? = H[k]?
theorem KeepD.of {H t H' : List SB} {i : Nat} (h : Off (H ++ t) H' i) : KeepD H H' i :=
  ⟨by have := h.1; simp only [List.length_append] at this; omega, fun k hk hne => (h.2 k hne).trans (List.getElem?_append_left hk)⟩
theorem made_spec (H : List SB) (i w : Nat) (ow : Bool) (L : List Nat) (D : Dc H i w ow L) (hL : L.headD 0 < 4294967296) (f : Nat) (caps : List (Nat × Nat)) (R : Int)
    (hf : ∀ H', Off H H' i → Spec cx.P f (.c (u64 (L.headD 0 : Nat)) :: caps.map fun p => .c (.ptr p.1 p.2)) H' fun t h' => t = .c (i64 R) ∧ h' = H') :
    Spec cx.P 26 [.c (.ptr i 0), .c (.fn f caps)] H fun t h' => t = .c (i64 R) ∧ Dc h' i w ow L.tail ∧ Off H h' i := by
  have p := next_spec H i w ow L D
  have ww : IntKind.u64.wrap ((L.headD 0 : Nat) : Int) = ((L.headD 0 : Nat) : Int) := by rw [wu64] <;> omega
  refine spec_of_X cx_ok Try.func26 rfl (by kernel_rfl) (by kernel_rfl) (Nat.le_of_ble_eq_true rfl) 400 5 ?_
  simp (maxSteps := 4000000) only [Try.results26, XX, Nat.reduceBEq, Nat.reduceLT, Nat.reduceAdd, Nat.reduceMul, Nat.reduceSub, Nat.reduceLeDiff, Nat.reduceEqDiff, Int.reduceToNat, Int.reduceLT, Int.reduceLE, Int.reduceAdd, Int.reduceSub, Int.reduceEq, reduceIte, Nat.reduceBNe, Int.reducePow, Nat.reducePow, Int.reduceMul, Int.reduceNeg, isB_i, isB_b, isB_y, isBv_i, isBv_b, eqCells_t, TT]
  refine call_is p ?_
  rintro _ H' ⟨rfl, D', hl, hk⟩
  simp (maxSteps := 4000000) only [Try.results26, ww, XX, Nat.reduceBEq, Nat.reduceLT, Nat.reduceAdd, Nat.reduceMul, Nat.reduceSub, Nat.reduceLeDiff, Nat.reduceEqDiff, Int.reduceToNat, Int.reduceLT, Int.reduceLE, Int.reduceAdd, Int.reduceSub, Int.reduceEq, reduceIte, Nat.reduceBNe, Int.reducePow, Nat.reducePow, Int.reduceMul, Int.reduceNeg, isB_i, isB_b, isB_y, isBv_i, isBv_b, eqCells_t, TT]
  refine call_is (hf H' ⟨hl, hk⟩) ?_
  rintro _ _ ⟨rfl, rfl⟩
  simp (maxSteps := 4000000) only [Try.results26, XX, Nat.reduceBEq, Nat.reduceLT, Nat.reduceAdd, Nat.reduceMul, Nat.reduceSub, Nat.reduceLeDiff, Nat.reduceEqDiff, Int.reduceToNat, Int.reduceLT, Int.reduceLE, Int.reduceAdd, Int.reduceSub, Int.reduceEq, reduceIte, Nat.reduceBNe, Int.reducePow, Nat.reducePow, Int.reduceMul, Int.reduceNeg, isB_i, isB_b, isB_y, isBv_i, isBv_b, eqCells_t, TT]
  exact ⟨D', hl, hk⟩

theorem port1_spec (H : List SB) (n : Nat) (hn : n < 4294967296) : Spec cx.P 28 [.c (u64 n)] H fun t h' => t = .c (i64 ((49152 + n % 16384 : Nat) : Int)) ∧ h' = H := by
  have e : IntKind.i64.wrap (49152 + IntKind.i64.wrap ((n : Int).tmod 16384)) = ((49152 + n % 16384 : Nat) : Int) := by
    have : (n : Int).tmod 16384 = ((n % 16384 : Nat) : Int) := rfl
    rw [this, w64 (x := ((n % 16384 : Nat) : Int)) (by omega) (by omega), w64] <;> omega
  refine spec_of_X cx_ok Try.func28 rfl (by kernel_rfl) (by kernel_rfl) (Nat.le_of_ble_eq_true rfl) 400 3 ?_
  simp (maxSteps := 4000000) only [Try.results28, XX, Nat.reduceBEq, Nat.reduceLT, Nat.reduceAdd, Nat.reduceMul, Nat.reduceSub, Nat.reduceLeDiff, Nat.reduceEqDiff, Int.reduceToNat, Int.reduceLT, Int.reduceLE, Int.reduceAdd, Int.reduceSub, Int.reduceEq, reduceIte, Nat.reduceBNe, Int.reducePow, Nat.reducePow, Int.reduceMul, Int.reduceNeg, isB_i, isB_b, isB_y, isBv_i, isBv_b, eqCells_t, TT]
  rw [e]

theorem port_spec (H : List SB) (i w : Nat) (ow : Bool) (L : List Nat) (D : Dc H i w ow L) (hL : L.headD 0 < 4294967296) : Spec cx.P 17 [.c (.ptr i 0)] H fun t h' => t = .c (i64 ((49152 + L.headD 0 % 16384 : Nat) : Int)) ∧ Dc h' i w ow L.tail ∧ Off H h' i := by
  have z0 : (#[] : Array Operand).size = 0 := rfl
  refine spec_of_X cx_ok Try.func17 rfl (by kernel_rfl) (by kernel_rfl) (Nat.le_of_ble_eq_true rfl) 400 3 ?_
  simp (maxSteps := 4000000) only [Try.results17, XX, Nat.reduceBEq, Nat.reduceLT, Nat.reduceAdd, Nat.reduceMul, Nat.reduceSub, Nat.reduceLeDiff, Nat.reduceEqDiff, Int.reduceToNat, Int.reduceLT, Int.reduceLE, Int.reduceAdd, Int.reduceSub, Int.reduceEq, reduceIte, Nat.reduceBNe, Int.reducePow, Nat.reducePow, Int.reduceMul, Int.reduceNeg, isB_i, isB_b, isB_y, isBv_i, isBv_b, eqCells_t, TT]
  refine call_is (made_spec H i w ow L D hL _ [] _ fun H' _ => port1_spec H' _ hL) ?_
  rintro _ H' ⟨rfl, D', off⟩
  simp (maxSteps := 4000000) only [Try.results17, XX, Nat.reduceBEq, Nat.reduceLT, Nat.reduceAdd, Nat.reduceMul, Nat.reduceSub, Nat.reduceLeDiff, Nat.reduceEqDiff, Int.reduceToNat, Int.reduceLT, Int.reduceLE, Int.reduceAdd, Int.reduceSub, Int.reduceEq, reduceIte, Nat.reduceBNe, Int.reducePow, Nat.reducePow, Int.reduceMul, Int.reduceNeg, isB_i, isB_b, isB_y, isBv_i, isBv_b, eqCells_t, TT]
  exact ⟨D', off⟩

theorem Dc.app {H : List SB} {i w : Nat} {ow : Bool} {L : List Nat} (D : Dc H i w ow L) (t : List SB) : Dc (H ++ t) i w ow L := by
  obtain ⟨o, pre, sp, h1, h2, h3, h4, h5⟩ := D.ex
  exact ⟨o, pre, sp, by rw [List.getElem?_append_left (lt_of h1)]; exact h1, by rw [List.getElem?_append_left (lt_of h2)]; exact h2, h3, h4, h5⟩

/-- A span of which the ends are apart. -/
def spanV (lo hi : Int) (n : Nat) : Int := IntKind.i64.wrap (IntKind.u64.wrap (IntKind.u64.wrap lo + (if IntKind.u64.wrap (IntKind.u64.wrap (IntKind.u64.wrap hi - IntKind.u64.wrap lo) + 1) = 0 then (n : Int) else (n : Int).tmod (IntKind.u64.wrap (IntKind.u64.wrap (IntKind.u64.wrap hi - IntKind.u64.wrap lo) + 1)))))
theorem spanV_in {lo hi : Int} {n : Nat} (h1 : -9223372036854775808 ≤ lo) (h2 : hi < 9223372036854775808) (h : lo < hi) : lo ≤ spanV lo hi n ∧ spanV lo hi n ≤ hi := by
  unfold spanV
  have e1 : IntKind.u64.wrap (IntKind.u64.wrap hi - IntKind.u64.wrap lo) = hi - lo := by
    rw [wrap_u64, wrap_u64, wrap_u64]; omega
  rw [e1, wrap_u64 (hi - lo + 1), wrap_u64 lo]
  split
  · rw [wrap_i64, wrap_u64]; omega
  next hne =>
    have hm : (hi - lo + 1) % 18446744073709551616 = hi - lo + 1 := by omega
    rw [hm] at hne ⊢
    have h3 := Int.tmod_nonneg (hi - lo + 1) (Int.natCast_nonneg n)
    have h4 := Int.tmod_lt_of_pos (n : Int) (show 0 < hi - lo + 1 by omega)
    generalize (n : Int).tmod (hi - lo + 1) = r at h3 h4
    rw [wrap_i64, wrap_u64]; omega

theorem span1_spec (H : List SB) (a b : Nat) (lo m : Int) (n : Nat) (hn : n < 4294967296) (ha : H[a]? = some ⟨true, 50, [u64 m]⟩) (hb : H[b]? = some ⟨true, 3, [i64 lo]⟩) : Spec cx.P 27 [.c (u64 n), .c (.ptr a 0), .c (.ptr b 0)] H fun t h' => t = .c (i64 (IntKind.i64.wrap (IntKind.u64.wrap (IntKind.u64.wrap lo + (if m = 0 then (n : Int) else (n : Int).tmod m))))) ∧ h' = H := by
  have lta := lt_of ha
  have ltb := lt_of hb
  by_cases h : m = 0
  · have d : decide (m = 0) = true := by simpa using h
    rw [if_pos h]
    refine spec_of_X cx_ok Try.func27 rfl (by kernel_rfl) (by kernel_rfl) (Nat.le_of_ble_eq_true rfl) 400 5 ?_
    simp (maxSteps := 4000000) only [Try.results27, XX, Nat.reduceBEq, Nat.reduceLT, Nat.reduceAdd, Nat.reduceMul, Nat.reduceSub, Nat.reduceLeDiff, Nat.reduceEqDiff, Int.reduceToNat, Int.reduceLT, Int.reduceLE, Int.reduceAdd, Int.reduceSub, Int.reduceEq, reduceIte, Nat.reduceBNe, Int.reducePow, Nat.reducePow, Int.reduceMul, Int.reduceNeg, isB_i, isB_b, isB_y, isBv_i, isBv_b, eqCells_t, TT]
    simp (maxSteps := 4000000) only [Try.results27, ha, hb, lta, ltb, d, XX, Nat.reduceBEq, Nat.reduceLT, Nat.reduceAdd, Nat.reduceMul, Nat.reduceSub, Nat.reduceLeDiff, Nat.reduceEqDiff, Int.reduceToNat, Int.reduceLT, Int.reduceLE, Int.reduceAdd, Int.reduceSub, Int.reduceEq, reduceIte, Nat.reduceBNe, Int.reducePow, Nat.reducePow, Int.reduceMul, Int.reduceNeg, isB_i, isB_b, isB_y, isBv_i, isBv_b, eqCells_t, TT]
  · have d : decide (m = 0) = false := by simpa using h
    rw [if_neg h]
    refine spec_of_X cx_ok Try.func27 rfl (by kernel_rfl) (by kernel_rfl) (Nat.le_of_ble_eq_true rfl) 400 5 ?_
    simp (maxSteps := 4000000) only [Try.results27, XX, Nat.reduceBEq, Nat.reduceLT, Nat.reduceAdd, Nat.reduceMul, Nat.reduceSub, Nat.reduceLeDiff, Nat.reduceEqDiff, Int.reduceToNat, Int.reduceLT, Int.reduceLE, Int.reduceAdd, Int.reduceSub, Int.reduceEq, reduceIte, Nat.reduceBNe, Int.reducePow, Nat.reducePow, Int.reduceMul, Int.reduceNeg, isB_i, isB_b, isB_y, isBv_i, isBv_b, eqCells_t, TT]
    simp (maxSteps := 4000000) only [Try.results27, ha, hb, lta, ltb, d, XX, Nat.reduceBEq, Nat.reduceLT, Nat.reduceAdd, Nat.reduceMul, Nat.reduceSub, Nat.reduceLeDiff, Nat.reduceEqDiff, Int.reduceToNat, Int.reduceLT, Int.reduceLE, Int.reduceAdd, Int.reduceSub, Int.reduceEq, reduceIte, Nat.reduceBNe, Int.reducePow, Nat.reducePow, Int.reduceMul, Int.reduceNeg, isB_i, isB_b, isB_y, isBv_i, isBv_b, eqCells_t, TT]
    exact h

theorem span_spec (H : List SB) (i w : Nat) (ow : Bool) (L : List Nat) (D : Dc H i w ow L) (hL : L.headD 0 < 4294967296) (lo hi : Int) (h : lo < hi) : Spec cx.P 16 [.c (.ptr i 0), .c (i64 lo), .c (i64 hi)] H fun t h' => t = .c (i64 (spanV lo hi (L.headD 0))) ∧ Dc h' i w ow L.tail ∧ KeepD H h' i := by
  have d0 : decide (hi ≤ lo) = false := by simp only [decide_eq_false_iff_not]; omega
  obtain ⟨o, pre, sp, h1, h2, h3, h4, h5⟩ := D.ex
  have lt1 := lt_of h1
  have z0 : (#[] : Array Operand).size = 0 := rfl
  have hset : ∀ (G : List SB) (x y v : SB), (G ++ [x, y]).set (G.length + 1) v = G ++ [x, v] := fun G x y v => by
    rw [List.set_append_right _ _ (by omega), Nat.add_sub_cancel_left]; rfl
  refine spec_of_X cx_ok Try.func16 rfl (by kernel_rfl) (by kernel_rfl) (Nat.le_of_ble_eq_true rfl) 400 8 ?_
  simp (maxSteps := 4000000) only [Try.results16, XX, Nat.reduceBEq, Nat.reduceLT, Nat.reduceAdd, Nat.reduceMul, Nat.reduceSub, Nat.reduceLeDiff, Nat.reduceEqDiff, Int.reduceToNat, Int.reduceLT, Int.reduceLE, Int.reduceAdd, Int.reduceSub, Int.reduceEq, reduceIte, Nat.reduceBNe, Int.reducePow, Nat.reducePow, Int.reduceMul, Int.reduceNeg, isB_i, isB_b, isB_y, isBv_i, isBv_b, eqCells_t, TT]
  simp (maxSteps := 4000000) only [Try.results16, h1, lt1, d0, z0, hset, List.append_assoc, List.getElem?_append_left, List.getElem?_append_right, List.length_append, List.length_set, List.set_append_left, gset, List.getElem?_set_ne, Nat.add_sub_cancel_left, Nat.sub_self, Nat.le_refl, Nat.le_add_right, List.replicate_one, List.flatten_cons, List.flatten_nil, rep_flat, XX, Nat.reduceBEq, Nat.reduceLT, Nat.reduceAdd, Nat.reduceMul, Nat.reduceSub, Nat.reduceLeDiff, Nat.reduceEqDiff, Int.reduceToNat, Int.reduceLT, Int.reduceLE, Int.reduceAdd, Int.reduceSub, Int.reduceEq, reduceIte, Nat.reduceBNe, Int.reducePow, Nat.reducePow, Int.reduceMul, Int.reduceNeg, isB_i, isB_b, isB_y, isBv_i, isBv_b, eqCells_t, TT]
  have hn1 : H.length ≠ i := by omega
  have hn2 : H.length + 1 ≠ i := by omega
  refine call_is (made_spec _ i w ow L (D.app _) hL _ [(H.length + 1, 0), (H.length, 0)] (spanV lo hi (L.headD 0)) fun H' off => span1_spec H' (H.length + 1) H.length lo (IntKind.u64.wrap (IntKind.u64.wrap (IntKind.u64.wrap hi - IntKind.u64.wrap lo) + 1)) _ hL ?_ ?_) ?_
  · rw [off.2 _ hn2, List.getElem?_append_right (by omega), Nat.add_sub_cancel_left]; rfl
  · rw [off.2 _ hn1, List.getElem?_append_right (by omega), Nat.sub_self]; rfl
  rintro _ H' ⟨rfl, D', off⟩
  simp (maxSteps := 4000000) only [Try.results16, XX, Nat.reduceBEq, Nat.reduceLT, Nat.reduceAdd, Nat.reduceMul, Nat.reduceSub, Nat.reduceLeDiff, Nat.reduceEqDiff, Int.reduceToNat, Int.reduceLT, Int.reduceLE, Int.reduceAdd, Int.reduceSub, Int.reduceEq, reduceIte, Nat.reduceBNe, Int.reducePow, Nat.reducePow, Int.reduceMul, Int.reduceNeg, isB_i, isB_b, isB_y, isBv_i, isBv_b, eqCells_t, TT]
  exact ⟨D', KeepD.of off⟩
theorem span0_spec (H : List SB) (i : Nat) (lo hi : Int) (h : hi ≤ lo) : Spec cx.P 16 [.c (.ptr i 0), .c (i64 lo), .c (i64 hi)] H fun t h' => t = .c (i64 lo) ∧ ∃ t, h' = H ++ t := by
  have d0 : decide (hi ≤ lo) = true := by simp only [decide_eq_true_eq]; omega
  refine spec_of_X cx_ok Try.func16 rfl (by kernel_rfl) (by kernel_rfl) (Nat.le_of_ble_eq_true rfl) 400 8 ?_
  simp (maxSteps := 4000000) only [Try.results16, XX, Nat.reduceBEq, Nat.reduceLT, Nat.reduceAdd, Nat.reduceMul, Nat.reduceSub, Nat.reduceLeDiff, Nat.reduceEqDiff, Int.reduceToNat, Int.reduceLT, Int.reduceLE, Int.reduceAdd, Int.reduceSub, Int.reduceEq, reduceIte, Nat.reduceBNe, Int.reducePow, Nat.reducePow, Int.reduceMul, Int.reduceNeg, isB_i, isB_b, isB_y, isBv_i, isBv_b, eqCells_t, TT]
  simp (maxSteps := 4000000) only [Try.results16, d0, List.append_assoc, List.getElem?_append_left, List.getElem?_append_right, List.length_append, List.length_set, List.set_append_left, gset, List.getElem?_set_ne, Nat.add_sub_cancel_left, Nat.sub_self, Nat.le_refl, Nat.le_add_right, List.replicate_one, List.flatten_cons, List.flatten_nil, rep_flat, XX, Nat.reduceBEq, Nat.reduceLT, Nat.reduceAdd, Nat.reduceMul, Nat.reduceSub, Nat.reduceLeDiff, Nat.reduceEqDiff, Int.reduceToNat, Int.reduceLT, Int.reduceLE, Int.reduceAdd, Int.reduceSub, Int.reduceEq, reduceIte, Nat.reduceBNe, Int.reducePow, Nat.reducePow, Int.reduceMul, Int.reduceNeg, isB_i, isB_b, isB_y, isBv_i, isBv_b, eqCells_t, TT]
  exact ⟨_, rfl⟩

end Go.Proofs.Ytniednekfnfhmaa.Sx
