/- The symbolic executor, at work: options that were lent stand as they were. No condition. -/
import Derived.Test.YtflccffjfnfoiaaOpL
namespace Go.Proofs.Ytflccffjfnfoiaa.Sx
open Go
set_option linter.unusedSimpArgs false
set_option linter.unusedVariables false
set_option maxRecDepth 10000
set_option maxHeartbeats 2000000

theorem rowL_drop {es : List PE} : (rowL es).drop (es.length * 2) = marksO := by
  have lA := flatc_len es
  simp only [rowL, rowC, List.append_assoc]
  generalize (es.map PE.c).flatten = A at lA ⊢
  rw [List.drop_append, List.drop_of_length_le (by omega), lA, Nat.sub_self, List.nil_append]; rfl
theorem rowL_len (es : List PE) : (rowL es).length = (es.length + 2) * 2 := by
  rw [List.length_append, rowC_len]; show _ + 4 = _; omega
theorem rowL_m (es : List PE) : (rowL es).getD (es.length * 2) .any = i64 71 ∧ (rowL es).getD (es.length * 2 + 1) .any = nilS ∧ (rowL es).getD ((es.length + 1) * 2) .any = i64 72 ∧ (rowL es).getD ((es.length + 1) * 2 + 1) .any = nilS := by
  have h : ∀ j, (rowL es).getD (es.length * 2 + j) .any = marksO.getD j .any := fun j => by
    rw [List.getD_eq_getElem?_getD, ← List.getElem?_drop, rowL_drop, List.getD_eq_getElem?_getD]
  refine ⟨h 0, h 1, ?_, ?_⟩
  · rw [show (es.length + 1) * 2 = es.length * 2 + 2 by omega]; exact h 2
  · rw [show (es.length + 1) * 2 + 1 = es.length * 2 + 3 by omega]; exact h 3
theorem rowL_get {es : List PE} {i : Nat} {e : PE} (h : es[i]? = some e) : (rowL es).getD (i * 2) .any = i64 e.k ∧ (rowL es).getD (i * 2 + 1) .any = slB e.w e.d e.sp := by
  obtain ⟨h1, h2⟩ := row_get (r := 0) h
  have hi := (List.getElem?_eq_some_iff.1 h).1
  have lr := rowC_len es 0
  rw [List.getD_eq_getElem?_getD] at h1 h2
  constructor
  · rw [List.getD_eq_getElem?_getD, List.getElem?_append_left (by omega)]; exact h1
  · rw [List.getD_eq_getElem?_getD, List.getElem?_append_left (by omega)]; exact h2

theorem asLentO_spec (H : List SB) (iO : Nat) (es : List PE) (O : LentO H iO es) (xs sp : List OI) (c : Nat) (hxs : es.map PE.pi = piL xs) (hok : ∀ x ∈ xs, x.ok) (hn : xs.length ≤ 4398046511104) :
    Spec cx.P 14 [.c (.sl iO 0 es.length (es.length + 2)), .c (roO xs sp c)] H fun s h' => s = .c (bC true) ∧ h'.length = H.length ∧ ∀ k, k ≠ iO → (∀ e ∈ es, k ≠ e.w) → h'[k]? = H[k]? := by
  have hlen : es.length = xs.length := by have := congrArg List.length hxs; simpa using this
  have dl : decide ((es.length : Int) = (xs.length : Int)) = true := by simp only [decide_eq_true_eq]; omega
  have e1 : IntKind.i64.wrap ((xs.length : Int) + 2) = ((xs.length + 2 : Nat) : Int) := by rw [w64] <;> omega
  have e2 : IntKind.i64.wrap ((xs.length : Int) + 1) = ((xs.length + 1 : Nat) : Int) := by rw [w64] <;> omega
  have e4 : (((xs.length + 1 : Nat) : Int)).toNat = xs.length + 1 := by omega
  have hrow := O.row
  have lrow := lt_of hrow
  have lr := rowL_len es
  obtain ⟨m1, m2, m3, m4⟩ := rowL_m es
  rw [hlen] at m1 m2 m3 m4
  have gget := fun (i : Nat) (e : PE) (h : es[i]? = some e) => rowL_get h
  obtain ⟨RL, hRL⟩ : ∃ RL, RL = rowL es := ⟨_, rfl⟩
  rw [← hRL] at hrow lr m1 m2 m3 m4
  simp only [← hRL] at gget
  refine spec_of_X cx_ok Try.func14 rfl (by kernel_rfl) (by kernel_rfl) (Nat.le_of_ble_eq_true rfl) 400 10 ?_
  simp (maxSteps := 4000000) only [Try.results14, XX, Nat.reduceBEq, Nat.reduceLT, Nat.reduceAdd, Nat.reduceMul, Nat.reduceSub, Nat.reduceLeDiff, Nat.reduceEqDiff, Int.reduceToNat, Int.reduceLT, Int.reduceLE, Int.reduceAdd, Int.reduceSub, Int.reduceEq, reduceIte, Nat.reduceBNe, Int.reducePow, Nat.reducePow, Int.reduceMul, Int.reduceNeg, isB_i, isB_b, isB_y, isBv_i, isBv_b, eqCells_t, TT]
  simp (maxSteps := 4000000) only [Try.results14, dl, e1, e2, e4, hrow, lrow, m1, m2, m3, m4, XX, Nat.reduceBEq, Nat.reduceLT, Nat.reduceAdd, Nat.reduceMul, Nat.reduceSub, Nat.reduceLeDiff, Nat.reduceEqDiff, Int.reduceToNat, Int.reduceLT, Int.reduceLE, Int.reduceAdd, Int.reduceSub, Int.reduceEq, reduceIte, Nat.reduceBNe, Int.reducePow, Nat.reducePow, Int.reduceMul, Int.reduceNeg, isB_i, isB_b, isB_y, isBv_i, isBv_b, eqCells_t, TT]
  refine ⟨by omega, by omega, by omega, by omega, by omega, by omega, by omega, by omega, by omega, ?_⟩
  refine loop_any cx_ok 400 (fun μ σ => ∃ (i : Nat) (H1 : List SB), μ = xs.length - i ∧ i ≤ xs.length ∧ H1.length = H.length ∧ (∀ k, (∀ (j : Nat) (e : PE), j < i → es[j]? = some e → k ≠ e.w) → H1[k]? = H[k]?) ∧
      σ = ⟨⟨10, H.length⟩, [(1, .c (roO xs sp c)), (5, .c (.sl iO 0 (xs.length + 2) (es.length + 2))), (6, .c (bC true)), (7, .c (i64 i))], H1⟩) xs.length
    ⟨⟨10, H.length⟩, [(1, .c (roO xs sp c)), (5, .c (.sl iO 0 (xs.length + 2) (es.length + 2))), (6, .c (bC true)), (7, .c (i64 (0 : Nat)))], H⟩ ⟨0, H, rfl, Nat.zero_le _, rfl, fun _ _ => rfl, rfl⟩ (.inl ⟨rfl, rfl, rfl, rfl, rfl, rfl, trivial⟩) ?_
  rintro μ σ ⟨i, H1, rfl, hi, hl1, hk1, rfl⟩
  have hrow1 : H1[iO]? = some (optB true RL) := (hk1 iO fun j e _ he => (O.neR he).symm).trans hrow
  have lrow1 := lt_of hrow1
  by_cases hlt : i < xs.length
  · have hd : decide ((i : Int) < (xs.length : Int)) = true := by simp only [decide_eq_true_eq]; omega
    have e3 : IntKind.i64.wrap ((i : Int) + 1) = ((i + 1 : Nat) : Int) := by rw [w64] <;> omega
    obtain ⟨x, hx⟩ : ∃ x, xs[i]? = some x := ⟨_, List.getElem?_eq_getElem hlt⟩
    obtain ⟨e, he⟩ : ∃ e, es[i]? = some e := ⟨_, List.getElem?_eq_getElem (by omega)⟩
    have hxe : e.k = x.k ∧ e.d = x.d := by
      have h1 : (es.map PE.pi)[i]? = (piL xs)[i]? := by rw [hxs]
      rw [List.getElem?_map, List.getElem?_map, he, hx] at h1
      simpa using h1
    obtain ⟨R, hR⟩ := osR_at (sp := sp) hx
    obtain ⟨ox1, ox2, ox3⟩ := hok x (List.mem_of_getElem? hx)
    obtain ⟨g1, g2⟩ := gget i e he
    obtain ⟨s1, s2⟩ := O.sp e (List.mem_of_getElem? he)
    have hw1 : H1[e.w]? = some (wB true (x.d ++ [71, 72])) := by
      rw [hk1 e.w fun j f hj hf => O.ne i j e f (by omega) he hf, (O.at_ i e he).1, s1, s2, hxe.2]
    have lw1 := lt_of hw1
    have ds : decide (e.k = x.k) = true := by simpa using hxe.1
    rw [s1, hxe.2] at g2
    rw [hxe.1] at g1
    simp (maxSteps := 4000000) only [Try.results14, hd, XX, Nat.reduceBEq, Nat.reduceLT, Nat.reduceAdd, Nat.reduceMul, Nat.reduceSub, Nat.reduceLeDiff, Nat.reduceEqDiff, Int.reduceToNat, Int.reduceLT, Int.reduceLE, Int.reduceAdd, Int.reduceSub, Int.reduceEq, reduceIte, Nat.reduceBNe, Int.reducePow, Nat.reducePow, Int.reduceMul, Int.reduceNeg, isB_i, isB_b, isB_y, isBv_i, isBv_b, eqCells_t, TT]
    refine draw_of cx_ok (by kernel_rfl) 400 [] [(0, true), (1, true), (2, true), (3, true), (5, true), (6, true), (7, true), (8, true), (9, true), (4, false), (10, false), (11, true)] (by kernel_rfl) (by first | exact hok | simp [*]) ?_
    simp (maxSteps := 4000000) only [Try.results14, hR, hrow1, lrow1, g2, maskL_nil, unL_nil, List.append_assoc, List.getElem?_append_left, List.getElem?_append_right, List.length_append, List.length_set, List.set_append_left, gset, List.getElem?_set_ne, Nat.add_sub_cancel_left, Nat.sub_self, Nat.le_refl, Nat.le_add_right, List.replicate_one, List.flatten_cons, List.flatten_nil, rep_flat, XX, Nat.reduceBEq, Nat.reduceLT, Nat.reduceAdd, Nat.reduceMul, Nat.reduceSub, Nat.reduceLeDiff, Nat.reduceEqDiff, Int.reduceToNat, Int.reduceLT, Int.reduceLE, Int.reduceAdd, Int.reduceSub, Int.reduceEq, reduceIte, Nat.reduceBNe, Int.reducePow, Nat.reducePow, Int.reduceMul, Int.reduceNeg, isB_i, isB_b, isB_y, isBv_i, isBv_b, eqCells_t, TT]
    refine ⟨by omega, by omega, by omega, by omega, ?_⟩
    refine call_frame (asLent_spec x.d x.sp x.c (by omega)) [e.w] rfl rfl ?_ rfl ?_ ?_
    · simp only [XX, Nat.reduceBEq, Nat.reduceLT, Nat.reduceAdd, Nat.reduceMul, Nat.reduceSub, Nat.reduceLeDiff, Nat.reduceEqDiff, Int.reduceToNat, Int.reduceLT, Int.reduceLE, Int.reduceAdd, Int.reduceSub, Int.reduceEq, reduceIte, Nat.reduceBNe, Int.reducePow, Nat.reducePow, Int.reduceMul, Int.reduceNeg, isB_i, isB_b, isB_y, isBv_i, isBv_b, eqCells_t, TT, preOk, hw1, ids_bsC, ren_bsC, noRo_bsC, plain_bsC, lt_bsC, ids_byte, ren_byte, noRo_byte, plain_byte, lt_byte]
    · simp only [XX, Nat.reduceBEq, Nat.reduceLT, Nat.reduceAdd, Nat.reduceMul, Nat.reduceSub, Nat.reduceLeDiff, Nat.reduceEqDiff, Int.reduceToNat, Int.reduceLT, Int.reduceLE, Int.reduceAdd, Int.reduceSub, Int.reduceEq, reduceIte, Nat.reduceBNe, Int.reducePow, Nat.reducePow, Int.reduceMul, Int.reduceNeg, isB_i, isB_b, isB_y, isBv_i, isBv_b, eqCells_t, TT, ids_bsC, ren_bsC, noRo_bsC, plain_bsC, lt_bsC, ids_byte, ren_byte, noRo_byte, plain_byte, lt_byte]
    rintro _ _ ⟨rfl, rfl⟩
    simp (maxSteps := 4000000) only [Try.results14, hw1, lw1, ids_bsC, ren_bsC, noRo_bsC, plain_bsC, lt_bsC, ids_byte, ren_byte, noRo_byte, plain_byte, lt_byte, maskL_nil, unL_nil, XX, Nat.reduceBEq, Nat.reduceLT, Nat.reduceAdd, Nat.reduceMul, Nat.reduceSub, Nat.reduceLeDiff, Nat.reduceEqDiff, Int.reduceToNat, Int.reduceLT, Int.reduceLE, Int.reduceAdd, Int.reduceSub, Int.reduceEq, reduceIte, Nat.reduceBNe, Int.reducePow, Nat.reducePow, Int.reduceMul, Int.reduceNeg, isB_i, isB_b, isB_y, isBv_i, isBv_b, eqCells_t, TT]
    have ne1 : e.w ≠ iO := O.neR he
    have hrow2 : (H1.set e.w ⟨true, 5, bsC (List.replicate (x.d.length + 2) 83)⟩)[iO]? = some (optB true RL) := by rw [List.getElem?_set_ne ne1]; exact hrow1
    have hl2 : (H1.set e.w ⟨true, 5, bsC (List.replicate (x.d.length + 2) 83)⟩).length = H.length := by rw [List.length_set]; exact hl1
    have hk2 : ∀ k, (∀ (j : Nat) (f : PE), j < i + 1 → es[j]? = some f → k ≠ f.w) → (H1.set e.w ⟨true, 5, bsC (List.replicate (x.d.length + 2) 83)⟩)[k]? = H[k]? := fun k hk => by
      rw [List.getElem?_set_ne (Ne.symm (hk i e (by omega) he))]
      exact hk1 k fun j f hj hf => hk j f (by omega) hf
    generalize H1.set e.w ⟨true, 5, bsC (List.replicate (x.d.length + 2) 83)⟩ = H2 at hrow2 hl2 hk2 ⊢
    have lrow2 := lt_of hrow2
    have dk : decide (x.k = x.k) = true := by simp
    refine draw_of cx_ok (by kernel_rfl) 400 [] [(0, true), (1, true), (2, true), (3, true), (4, true), (5, true), (6, true), (7, true), (8, true), (10, true), (11, true), (12, true), (13, true), (14, true), (9, false), (15, true), (16, true), (17, true)] (by kernel_rfl) (by first | exact hok | simp [*]) ?_
    simp (maxSteps := 4000000) only [Try.results14, hR, hrow2, lrow2, g1, dk, e3, maskL_nil, unL_nil, List.append_assoc, List.getElem?_append_left, List.getElem?_append_right, List.length_append, List.length_set, List.set_append_left, gset, List.getElem?_set_ne, Nat.add_sub_cancel_left, Nat.sub_self, Nat.le_refl, Nat.le_add_right, List.replicate_one, List.flatten_cons, List.flatten_nil, rep_flat, XX, Nat.reduceBEq, Nat.reduceLT, Nat.reduceAdd, Nat.reduceMul, Nat.reduceSub, Nat.reduceLeDiff, Nat.reduceEqDiff, Int.reduceToNat, Int.reduceLT, Int.reduceLE, Int.reduceAdd, Int.reduceSub, Int.reduceEq, reduceIte, Nat.reduceBNe, Int.reducePow, Nat.reducePow, Int.reduceMul, Int.reduceNeg, isB_i, isB_b, isB_y, isBv_i, isBv_b, eqCells_t, TT]
    exact ⟨by omega, by omega, by omega, by omega, xs.length - (i + 1), by omega, _, ⟨i + 1, H2, rfl, by omega, hl2, hk2, rfl⟩, .inl ⟨rfl, rfl, rfl, rfl, rfl, rfl, trivial⟩⟩
  obtain rfl : i = xs.length := by omega
  have hd : decide ((xs.length : Int) < (xs.length : Int)) = false := by simp
  simp (maxSteps := 4000000) only [Try.results14, hd, XX, Nat.reduceBEq, Nat.reduceLT, Nat.reduceAdd, Nat.reduceMul, Nat.reduceSub, Nat.reduceLeDiff, Nat.reduceEqDiff, Int.reduceToNat, Int.reduceLT, Int.reduceLE, Int.reduceAdd, Int.reduceSub, Int.reduceEq, reduceIte, Nat.reduceBNe, Int.reducePow, Nat.reducePow, Int.reduceMul, Int.reduceNeg, isB_i, isB_b, isB_y, isBv_i, isBv_b, eqCells_t, TT]
  refine loop_any cx_ok 400 (fun μ σ => ∃ (m : Nat) (H2 : List SB) (cells : List SC), μ = xs.length + 2 - m ∧ m ≤ xs.length + 2 ∧ H2.length = H.length ∧ H2[iO]? = some (optB true cells) ∧ cells.length = (xs.length + 2) * 2 ∧ (∀ k, k ≠ iO → H2[k]? = H1[k]?) ∧
      σ = ⟨⟨10, H.length⟩, [(5, .c (.sl iO 0 (xs.length + 2) (es.length + 2))), (6, .c (bC true)), (9, .c (i64 m))], H2⟩) (xs.length + 2)
    ⟨⟨10, H.length⟩, [(5, .c (.sl iO 0 (xs.length + 2) (es.length + 2))), (6, .c (bC true)), (9, .c (i64 (0 : Nat)))], H1⟩ ⟨0, H1, RL, rfl, Nat.zero_le _, hl1, hrow1, by rw [lr, hlen], fun _ _ => rfl, rfl⟩ (.inl ⟨rfl, rfl, rfl, rfl, rfl, trivial⟩) ?_
  rintro μ σ ⟨m, H2, cells, rfl, hm, hl2, hrow2, hc2, hk2, rfl⟩
  have lrow2 := lt_of hrow2
  by_cases hlt : m < xs.length + 2
  · have hd : decide ((m : Int) < ((xs.length + 2 : Nat) : Int)) = true := by simp only [decide_eq_true_eq]; omega
    have e3 : IntKind.i64.wrap ((m : Int) + 1) = ((m + 1 : Nat) : Int) := by rw [w64] <;> omega
    simp (maxSteps := 4000000) only [Try.results14, hd, hrow2, lrow2, e3, List.append_assoc, List.getElem?_append_left, List.getElem?_append_right, List.length_append, List.length_set, List.set_append_left, gset, List.getElem?_set_ne, Nat.add_sub_cancel_left, Nat.sub_self, Nat.le_refl, Nat.le_add_right, List.replicate_one, List.flatten_cons, List.flatten_nil, rep_flat, XX, Nat.reduceBEq, Nat.reduceLT, Nat.reduceAdd, Nat.reduceMul, Nat.reduceSub, Nat.reduceLeDiff, Nat.reduceEqDiff, Int.reduceToNat, Int.reduceLT, Int.reduceLE, Int.reduceAdd, Int.reduceSub, Int.reduceEq, reduceIte, Nat.reduceBNe, Int.reducePow, Nat.reducePow, Int.reduceMul, Int.reduceNeg, isB_i, isB_b, isB_y, isBv_i, isBv_b, eqCells_t, TT]
    exact ⟨by omega, by omega, xs.length + 2 - (m + 1), by omega, _, ⟨m + 1, _, _, rfl, by omega, by rw [List.length_set]; exact hl2, by rw [List.getElem?_set_self lrow2], by simp only [List.length_append, List.length_cons, List.length_take, List.length_drop]; omega, fun k hk => by rw [List.getElem?_set_ne (Ne.symm hk)]; exact hk2 k hk, rfl⟩, .inl ⟨rfl, rfl, rfl, rfl, rfl, trivial⟩⟩
  obtain rfl : m = xs.length + 2 := by omega
  have hd : decide (((xs.length + 2 : Nat) : Int) < ((xs.length + 2 : Nat) : Int)) = false := by simp
  simp (maxSteps := 4000000) only [Try.results14, hd, XX, Nat.reduceBEq, Nat.reduceLT, Nat.reduceAdd, Nat.reduceMul, Nat.reduceSub, Nat.reduceLeDiff, Nat.reduceEqDiff, Int.reduceToNat, Int.reduceLT, Int.reduceLE, Int.reduceAdd, Int.reduceSub, Int.reduceEq, reduceIte, Nat.reduceBNe, Int.reducePow, Nat.reducePow, Int.reduceMul, Int.reduceNeg, isB_i, isB_b, isB_y, isBv_i, isBv_b, eqCells_t, TT]
  exact ⟨hl2, fun k h1 h2 => (hk2 k h1).trans (hk1 k fun j e _ he => h2 e (List.mem_of_getElem? he))⟩
end Go.Proofs.Ytflccffjfnfoiaa.Sx
