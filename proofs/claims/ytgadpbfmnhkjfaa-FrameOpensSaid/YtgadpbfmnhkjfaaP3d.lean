/- The symbolic executor, at work: frames, as the reference seals them. No condition. -/
import Derived.Test.YtgadpbfmnhkjfaaP3c
import Derived.Test.YtgadpbfmnhkjfaaBf
namespace Go.Proofs.Ytgadpbfmnhkjfaa.Sx
open Go
set_option linter.unusedSimpArgs false
set_option linter.unusedVariables false
set_option maxRecDepth 10000
set_option maxHeartbeats 1000000

theorem rsealK_spec (d s : M6) (k : Int) (x : SC) (hk : k < 1536 ∨ 65535 < k) : Spec cx.P 9 [.agg (fraC d s k x)] [] fun s _ => s.plain = true ∧ s = .tup [(false, [noC]), (false, [i64 30])] := by
  refine spec_of_X cx_ok Try.func9 rfl (by kernel_rfl) (by kernel_rfl) (Nat.le_of_ble_eq_true rfl) 400 8 ?_
  simp (maxSteps := 4000000) only [Try.results9, XX, Nat.reduceBEq, Nat.reduceLT, Nat.reduceAdd, Nat.reduceMul, Nat.reduceSub, Nat.reduceLeDiff, Nat.reduceEqDiff, Int.reduceToNat, Int.reduceLT, Int.reduceLE, Int.reduceAdd, Int.reduceSub, Int.reduceEq, reduceIte, Nat.reduceBNe, Int.reducePow, Nat.reducePow, Int.reduceMul, Int.reduceNeg, isB_i, isB_b, isB_y, isBv_i, isBv_b, eqCells_t, TT]
  by_cases h1 : k < 1536
  · have d0 : decide (k < 1536) = true := by simpa using h1
    simp (maxSteps := 4000000) only [Try.results9, d0, XX, Nat.reduceBEq, Nat.reduceLT, Nat.reduceAdd, Nat.reduceMul, Nat.reduceSub, Nat.reduceLeDiff, Nat.reduceEqDiff, Int.reduceToNat, Int.reduceLT, Int.reduceLE, Int.reduceAdd, Int.reduceSub, Int.reduceEq, reduceIte, Nat.reduceBNe, Int.reducePow, Nat.reducePow, Int.reduceMul, Int.reduceNeg, isB_i, isB_b, isB_y, isBv_i, isBv_b, eqCells_t, TT]
  · have d0 : decide (k < 1536) = false := by simpa using h1
    have d2 : decide (65535 < k) = true := by simp; omega
    simp (maxSteps := 4000000) only [Try.results9, d0, d2, XX, Nat.reduceBEq, Nat.reduceLT, Nat.reduceAdd, Nat.reduceMul, Nat.reduceSub, Nat.reduceLeDiff, Nat.reduceEqDiff, Int.reduceToNat, Int.reduceLT, Int.reduceLE, Int.reduceAdd, Int.reduceSub, Int.reduceEq, reduceIte, Nat.reduceBNe, Int.reducePow, Nat.reducePow, Int.reduceMul, Int.reduceNeg, isB_i, isB_b, isB_y, isBv_i, isBv_b, eqCells_t, TT]

theorem rsealL_spec (d s : M6) (k : Int) (l sp : List UInt8) (c : Nat) (hk : 1536 ≤ k) (hk' : k ≤ 65535) (hl : 1500 < l.length) : Spec cx.P 9 [.agg (fraC d s k (roB l sp c))] [] fun s _ => s.plain = true ∧ s = .tup [(false, [noC]), (false, [i64 2])] := by
  have d0 : decide (k < 1536) = false := by simpa using hk
  have d2 : decide (65535 < k) = false := by simp; omega
  have d3 : decide (1500 < (l.length : Int)) = true := by simp; omega
  refine spec_of_X cx_ok Try.func9 rfl (by kernel_rfl) (by kernel_rfl) (Nat.le_of_ble_eq_true rfl) 400 8 ?_
  simp (maxSteps := 4000000) only [Try.results9, XX, Nat.reduceBEq, Nat.reduceLT, Nat.reduceAdd, Nat.reduceMul, Nat.reduceSub, Nat.reduceLeDiff, Nat.reduceEqDiff, Int.reduceToNat, Int.reduceLT, Int.reduceLE, Int.reduceAdd, Int.reduceSub, Int.reduceEq, reduceIte, Nat.reduceBNe, Int.reducePow, Nat.reducePow, Int.reduceMul, Int.reduceNeg, isB_i, isB_b, isB_y, isBv_i, isBv_b, eqCells_t, TT]
  simp (maxSteps := 4000000) only [Try.results9, d0, d2, d3, XX, Nat.reduceBEq, Nat.reduceLT, Nat.reduceAdd, Nat.reduceMul, Nat.reduceSub, Nat.reduceLeDiff, Nat.reduceEqDiff, Int.reduceToNat, Int.reduceLT, Int.reduceLE, Int.reduceAdd, Int.reduceSub, Int.reduceEq, reduceIte, Nat.reduceBNe, Int.reducePow, Nat.reducePow, Int.reduceMul, Int.reduceNeg, isB_i, isB_b, isB_y, isBv_i, isBv_b, eqCells_t, TT]

theorem m6_at (m : M6) (i : Nat) (hi : i < 6) (r : List SC) : (byteC m.a :: byteC m.b :: byteC m.c :: byteC m.d :: byteC m.e :: byteC m.f :: r).getD i .any = byteC (m.l.getD i 0) := by
  match i, hi with
  | 0, _ => rfl
  | 1, _ => rfl
  | 2, _ => rfl
  | 3, _ => rfl
  | 4, _ => rfl
  | 5, _ => rfl
theorem rseal_spec (d s : M6) (k : Nat) (l sp : List UInt8) (c : Nat) (hk : 1536 ≤ k) (hk' : k ≤ 65535) (hl : l.length ≤ 1500) : Spec cx.P 9 [.agg (fraC d s k (roB l sp c))] [] (resB (sealL d s k l) 0) := by
  have d0 : decide ((k : Int) < 1536) = false := by simp; omega
  have d2 : decide (65535 < (k : Int)) = false := by simp; omega
  have d3 : decide (1500 < (l.length : Int)) = false := by simp; omega
  have aD : ∀ i, i < 6 → (fraC d s k (roB l sp c)).getD i .any = byteC (d.l.getD i 0) := fun i hi => m6_at d i hi _
  have aS : ∀ i, i < 6 → (fraC d s k (roB l sp c)).getD (6 + i) .any = byteC (s.l.getD i 0) := fun i hi => by rw [Nat.add_comm]; exact m6_at s i hi _
  have lD : d.l.length = 6 := rfl
  have lS : s.l.length = 6 := rfl
  have hE := rput2_spec k (by omega)
  have lE : (be2 k).length = 2 := rfl
  have eL : sealL d s k l = d.l ++ s.l ++ be2 k ++ l ++ List.replicate (46 - l.length) 0 := (List.append_assoc _ _ _).symm
  generalize d.l = D at aD lD eL
  generalize s.l = S at aS lS eL
  generalize be2 k = E at hE lE eL
  generalize sealL d s k l = L at eL ⊢
  refine resB_of ?_
  refine spec_of_X cx_ok Try.func9 rfl (by kernel_rfl) (by kernel_rfl) (Nat.le_of_ble_eq_true rfl) 400 8 ?_
  simp (maxSteps := 4000000) only [Try.results9, XX, Nat.reduceBEq, Nat.reduceLT, Nat.reduceAdd, Nat.reduceMul, Nat.reduceSub, Nat.reduceLeDiff, Nat.reduceEqDiff, Int.reduceToNat, Int.reduceLT, Int.reduceLE, Int.reduceAdd, Int.reduceSub, Int.reduceEq, reduceIte, Nat.reduceBNe, Int.reducePow, Nat.reducePow, Int.reduceMul, Int.reduceNeg, isB_i, isB_b, isB_y, isBv_i, isBv_b, eqCells_t, TT]
  simp (maxSteps := 4000000) only [Try.results9, d0, d2, d3, XX, Nat.reduceBEq, Nat.reduceLT, Nat.reduceAdd, Nat.reduceMul, Nat.reduceSub, Nat.reduceLeDiff, Nat.reduceEqDiff, Int.reduceToNat, Int.reduceLT, Int.reduceLE, Int.reduceAdd, Int.reduceSub, Int.reduceEq, reduceIte, Nat.reduceBNe, Int.reducePow, Nat.reducePow, Int.reduceMul, Int.reduceNeg, isB_i, isB_b, isB_y, isBv_i, isBv_b, eqCells_t, TT]
  refine loop_any cx_ok 400 (fun μ σ => ∃ (i : Nat) (H : List SB) (w : Nat) (o : Bool) (z : List UInt8), μ = 6 - i ∧ i ≤ 6 ∧ H[0]? = some ⟨true, 27, fraC d s k (roB l sp c)⟩ ∧ w ≠ 0 ∧ Buf H w o (D.take i) z ∧
      σ = ⟨⟨8, 0⟩, [(1, .c (.ptr 0 0)), (4, .c (.sl w 0 i (i + z.length))), (5, .c (i64 i))], H⟩) 6
    ⟨⟨8, 0⟩, [(1, .c (.ptr 0 0)), (4, .c (.sl 1 0 0 0)), (5, .c (i64 (0 : Nat)))], [⟨true, 27, fraC d s k (roB l sp c)⟩, wB false []]⟩ ⟨0, _, 1, false, [], rfl, Nat.zero_le _, rfl, by decide, ⟨by rw [List.take_zero]; rfl, fun h => absurd h (by simp)⟩, rfl⟩
    (.inr ⟨[some 0, none], rfl, rfl, by simp only [XX, Nat.reduceBEq, Nat.reduceLT, Nat.reduceAdd, Nat.reduceMul, Nat.reduceSub, Nat.reduceLeDiff, Nat.reduceEqDiff, Int.reduceToNat, Int.reduceLT, Int.reduceLE, Int.reduceAdd, Int.reduceSub, Int.reduceEq, reduceIte, Nat.reduceBNe, Int.reducePow, Nat.reducePow, Int.reduceMul, Int.reduceNeg, isB_i, isB_b, isB_y, isBv_i, isBv_b, eqCells_t, TT, ids_bsC, ren_bsC, noRo_bsC, plain_bsC, lt_bsC, ids_byte, ren_byte, noRo_byte, plain_byte, lt_byte], ⟨.inl ⟨rfl, rfl⟩, wk_nil, .inl ⟨rfl, rfl⟩, trivial⟩⟩) ?_
  rintro μ σ ⟨i, H, w, o, z, rfl, hi, hF, hw, B, rfl⟩
  by_cases hlt : i < 6
  · have hd : decide ((i : Int) < 6) = true := by simp only [decide_eq_true_eq]; omega
    have e3 : IntKind.i64.wrap ((i : Int) + 1) = ((i + 1 : Nat) : Int) := by rw [w64] <;> omega
    have hn : (D.take i).length = i := by simp; omega
    simp (maxSteps := 4000000) only [Try.results9, hd, hF, aD i hlt, B.at_, lt_of B.at_, lt_of hF, List.append_assoc, List.getElem?_append_left, List.getElem?_append_right, List.length_append, List.length_set, List.set_append_left, gset, List.getElem?_set_ne, Nat.add_sub_cancel_left, Nat.sub_self, Nat.le_refl, Nat.le_add_right, List.replicate_one, List.flatten_cons, List.flatten_nil, rep_flat, XX, Nat.reduceBEq, Nat.reduceLT, Nat.reduceAdd, Nat.reduceMul, Nat.reduceSub, Nat.reduceLeDiff, Nat.reduceEqDiff, Int.reduceToNat, Int.reduceLT, Int.reduceLE, Int.reduceAdd, Int.reduceSub, Int.reduceEq, reduceIte, Nat.reduceBNe, Int.reducePow, Nat.reducePow, Int.reduceMul, Int.reduceNeg, isB_i, isB_b, isB_y, isBv_i, isBv_b, eqCells_t, TT]
    refine ⟨⟨by omega, by omega⟩, by omega, ⟨⟨by omega, by unfold maxLen; omega, by simp; omega, fun h => ⟨B.own (by omega), by simp; omega⟩⟩, ?_⟩⟩
    refine xapp_one B hn rfl rfl fun H' w' z' B' h1 h2 h3 => ?_
    simp (maxSteps := 4000000) only [Try.results9, e3, XX, Nat.reduceBEq, Nat.reduceLT, Nat.reduceAdd, Nat.reduceMul, Nat.reduceSub, Nat.reduceLeDiff, Nat.reduceEqDiff, Int.reduceToNat, Int.reduceLT, Int.reduceLE, Int.reduceAdd, Int.reduceSub, Int.reduceEq, reduceIte, Nat.reduceBNe, Int.reducePow, Nat.reducePow, Int.reduceMul, Int.reduceNeg, isB_i, isB_b, isB_y, isBv_i, isBv_b, eqCells_t, TT]
    have hF' : H'[0]? = some ⟨true, 27, fraC d s k (roB l sp c)⟩ := (h2 0 (lt_of hF) hw.symm).trans hF
    rw [take_next D i (by omega)] at B' ⊢
    refine ⟨6 - (i + 1), by omega, _, ⟨i + 1, H', w', true, z', rfl, by omega, hF', by have := lt_of hF; omega, B', rfl⟩, .inl ⟨rfl, rfl, rfl, ?_, rfl, trivial⟩⟩
    have hn' : (D.take (i + 1)).length = i + 1 := by simp; omega
    simp only [XX, Nat.reduceBEq, Nat.reduceLT, Nat.reduceAdd, Nat.reduceMul, Nat.reduceSub, Nat.reduceLeDiff, Nat.reduceEqDiff, Int.reduceToNat, Int.reduceLT, Int.reduceLE, Int.reduceAdd, Int.reduceSub, Int.reduceEq, reduceIte, Nat.reduceBNe, Int.reducePow, Nat.reducePow, Int.reduceMul, Int.reduceNeg, isB_i, isB_b, isB_y, isBv_i, isBv_b, eqCells_t, TT, slB, hn']
  obtain rfl : i = 6 := by omega
  simp (maxSteps := 4000000) only [Try.results9, XX, Nat.reduceBEq, Nat.reduceLT, Nat.reduceAdd, Nat.reduceMul, Nat.reduceSub, Nat.reduceLeDiff, Nat.reduceEqDiff, Int.reduceToNat, Int.reduceLT, Int.reduceLE, Int.reduceAdd, Int.reduceSub, Int.reduceEq, reduceIte, Nat.reduceBNe, Int.reducePow, Nat.reducePow, Int.reduceMul, Int.reduceNeg, isB_i, isB_b, isB_y, isBv_i, isBv_b, eqCells_t, TT]
  have hn6 : (D.take 6).length = 6 := by simp; omega
  have ho := B.own (by rw [hn6]; omega)
  subst ho
  rw [List.take_of_length_le (by omega)] at B
  refine loop_any cx_ok 400 (fun μ σ => ∃ (i : Nat) (H : List SB) (w : Nat) (z : List UInt8), μ = 6 - i ∧ i ≤ 6 ∧ H[0]? = some ⟨true, 27, fraC d s k (roB l sp c)⟩ ∧ w ≠ 0 ∧ Buf H w true (D ++ S.take i) z ∧
      σ = ⟨⟨8, 0⟩, [(1, .c (.ptr 0 0)), (4, .c (.sl w 0 (6 + i) (6 + i + z.length))), (6, .c (i64 i))], H⟩) 6
    ⟨⟨8, 0⟩, [(1, .c (.ptr 0 0)), (4, .c (.sl w 0 (6 + 0) (6 + 0 + z.length))), (6, .c (i64 (0 : Nat)))], H⟩ ⟨0, _, w, z, rfl, Nat.zero_le _, hF, hw, by rw [List.take_zero, List.append_nil]; exact B, rfl⟩
    (.inl ⟨rfl, rfl, rfl, rfl, rfl, trivial⟩) ?_
  rintro μ σ ⟨i, H, w, z, rfl, hi, hF, hw, B, rfl⟩
  by_cases hlt : i < 6
  · have hd : decide ((i : Int) < 6) = true := by simp only [decide_eq_true_eq]; omega
    have e3 : IntKind.i64.wrap ((i : Int) + 1) = ((i + 1 : Nat) : Int) := by rw [w64] <;> omega
    have hn : (D ++ S.take i).length = 6 + i := by simp; omega
    obtain ⟨DS, hDS⟩ : ∃ DS, DS = D ++ S.take i := ⟨_, rfl⟩
    rw [← hDS] at B hn
    simp (maxSteps := 4000000) only [Try.results9, hd, hF, aS i hlt, B.at_, lt_of B.at_, lt_of hF, List.append_assoc, List.getElem?_append_left, List.getElem?_append_right, List.length_append, List.length_set, List.set_append_left, gset, List.getElem?_set_ne, Nat.add_sub_cancel_left, Nat.sub_self, Nat.le_refl, Nat.le_add_right, List.replicate_one, List.flatten_cons, List.flatten_nil, rep_flat, XX, Nat.reduceBEq, Nat.reduceLT, Nat.reduceAdd, Nat.reduceMul, Nat.reduceSub, Nat.reduceLeDiff, Nat.reduceEqDiff, Int.reduceToNat, Int.reduceLT, Int.reduceLE, Int.reduceAdd, Int.reduceSub, Int.reduceEq, reduceIte, Nat.reduceBNe, Int.reducePow, Nat.reducePow, Int.reduceMul, Int.reduceNeg, isB_i, isB_b, isB_y, isBv_i, isBv_b, eqCells_t, TT]
    refine ⟨⟨by omega, by omega⟩, by omega, ⟨⟨by omega, by unfold maxLen; omega, by simp; omega, fun h => by simp; omega⟩, ?_⟩⟩
    refine xapp_one B hn rfl rfl fun H' w' z' B' h1 h2 h3 => ?_
    simp (maxSteps := 4000000) only [Try.results9, e3, XX, Nat.reduceBEq, Nat.reduceLT, Nat.reduceAdd, Nat.reduceMul, Nat.reduceSub, Nat.reduceLeDiff, Nat.reduceEqDiff, Int.reduceToNat, Int.reduceLT, Int.reduceLE, Int.reduceAdd, Int.reduceSub, Int.reduceEq, reduceIte, Nat.reduceBNe, Int.reducePow, Nat.reducePow, Int.reduceMul, Int.reduceNeg, isB_i, isB_b, isB_y, isBv_i, isBv_b, eqCells_t, TT]
    have hF' : H'[0]? = some ⟨true, 27, fraC d s k (roB l sp c)⟩ := (h2 0 (lt_of hF) hw.symm).trans hF
    rw [hDS, List.append_assoc, take_next S i (by omega)] at B' ⊢
    refine ⟨6 - (i + 1), by omega, _, ⟨i + 1, H', w', z', rfl, by omega, hF', by have := lt_of hF; omega, B', rfl⟩, .inl ⟨rfl, rfl, rfl, ?_, rfl, trivial⟩⟩
    have hn' : (D ++ S.take (i + 1)).length = 6 + (i + 1) := by simp; omega
    simp only [XX, Nat.reduceBEq, Nat.reduceLT, Nat.reduceAdd, Nat.reduceMul, Nat.reduceSub, Nat.reduceLeDiff, Nat.reduceEqDiff, Int.reduceToNat, Int.reduceLT, Int.reduceLE, Int.reduceAdd, Int.reduceSub, Int.reduceEq, reduceIte, Nat.reduceBNe, Int.reducePow, Nat.reducePow, Int.reduceMul, Int.reduceNeg, isB_i, isB_b, isB_y, isBv_i, isBv_b, eqCells_t, TT, slB, hn']
  obtain rfl : i = 6 := by omega
  rw [show S.take 6 = S from List.take_of_length_le (by omega)] at B
  have m4 : IntKind.u64.wrap (k : Int) = (k : Int) := by rw [wu64] <;> omega
  have hn : (D ++ S).length = 12 := by simp; omega
  generalize D ++ S = DS at B hn eL
  simp (maxSteps := 4000000) only [Try.results9, hF, m4, XX, Nat.reduceBEq, Nat.reduceLT, Nat.reduceAdd, Nat.reduceMul, Nat.reduceSub, Nat.reduceLeDiff, Nat.reduceEqDiff, Int.reduceToNat, Int.reduceLT, Int.reduceLE, Int.reduceAdd, Int.reduceSub, Int.reduceEq, reduceIte, Nat.reduceBNe, Int.reducePow, Nat.reducePow, Int.reduceMul, Int.reduceNeg, isB_i, isB_b, isB_y, isBv_i, isBv_b, eqCells_t, TT]
  refine call_frame (hE) [] rfl rfl trivial rfl rfl ?_
  rintro _ _ ⟨rfl, rfl⟩
  have tE : (bsC E).take 2 = bsC E := List.take_of_length_le (by simp; omega)
  have lE' : (bsC E).length = 2 := by simp [lE]
  simp (maxSteps := 4000000) only [Try.results9, ids_bsC, ren_bsC, noRo_bsC, plain_bsC, lt_bsC, ids_byte, ren_byte, noRo_byte, plain_byte, lt_byte, B.at_, lt_of B.at_, tE, lE', List.append_assoc, List.getElem?_append_left, List.getElem?_append_right, List.length_append, List.length_set, List.set_append_left, gset, List.getElem?_set_ne, Nat.add_sub_cancel_left, Nat.sub_self, Nat.le_refl, Nat.le_add_right, List.replicate_one, List.flatten_cons, List.flatten_nil, rep_flat, XX, Nat.reduceBEq, Nat.reduceLT, Nat.reduceAdd, Nat.reduceMul, Nat.reduceSub, Nat.reduceLeDiff, Nat.reduceEqDiff, Int.reduceToNat, Int.reduceLT, Int.reduceLE, Int.reduceAdd, Int.reduceSub, Int.reduceEq, reduceIte, Nat.reduceBNe, Int.reducePow, Nat.reducePow, Int.reduceMul, Int.reduceNeg, isB_i, isB_b, isB_y, isBv_i, isBv_b, eqCells_t, TT]
  refine ⟨⟨by unfold maxLen; omega, by simp; omega, fun h => by simp; omega⟩, ?_⟩
  refine xapp_more B hn lE rfl rfl (by omega) fun H' w' z' B' h1 h2 h3 => ?_
  have hF' : H'[0]? = some ⟨true, 27, fraC d s k (roB l sp c)⟩ := (h2 0 (lt_of hF) hw.symm).trans hF
  have hw' : w' ≠ 0 := by have := lt_of hF; omega
  clear h2 h1 h3 hF hw B
  have hn' : (DS ++ E).length = 14 := by simp; omega
  have m9 : (bsR (l ++ sp)).take l.length = bsR l := by rw [rs_take, List.take_left' rfl]
  have m10 : (bsR l).map RC.toSC = bsC l := bsR_toSC l
  generalize DS ++ E = DE at B' hn' eL
  simp only [slB, hn']
  simp (maxSteps := 4000000) only [Try.results9, hF', B'.at_, lt_of B'.at_, m9, m10, bsC_len, List.append_assoc, List.getElem?_append_left, List.getElem?_append_right, List.length_append, List.length_set, List.set_append_left, gset, List.getElem?_set_ne, Nat.add_sub_cancel_left, Nat.sub_self, Nat.le_refl, Nat.le_add_right, List.replicate_one, List.flatten_cons, List.flatten_nil, rep_flat, XX, Nat.reduceBEq, Nat.reduceLT, Nat.reduceAdd, Nat.reduceMul, Nat.reduceSub, Nat.reduceLeDiff, Nat.reduceEqDiff, Int.reduceToNat, Int.reduceLT, Int.reduceLE, Int.reduceAdd, Int.reduceSub, Int.reduceEq, reduceIte, Nat.reduceBNe, Int.reducePow, Nat.reducePow, Int.reduceMul, Int.reduceNeg, isB_i, isB_b, isB_y, isBv_i, isBv_b, eqCells_t, TT]
  refine ⟨⟨⟨by omega, by unfold maxLen; omega, by omega, fun h => by omega⟩, by simp⟩, ?_⟩
  refine xapp_more0 B' hn' rfl rfl rfl (by omega) fun H w z B h1 h2 h3 => ?_
  clear h2 h1 h3
  have hn2 : (DE ++ l).length = 14 + l.length := by simp; omega
  generalize DE ++ l = DL at B hn2 eL
  simp only [slB, hn2]
  simp (maxSteps := 4000000) only [Try.results9, XX, Nat.reduceBEq, Nat.reduceLT, Nat.reduceAdd, Nat.reduceMul, Nat.reduceSub, Nat.reduceLeDiff, Nat.reduceEqDiff, Int.reduceToNat, Int.reduceLT, Int.reduceLE, Int.reduceAdd, Int.reduceSub, Int.reduceEq, reduceIte, Nat.reduceBNe, Int.reducePow, Nat.reducePow, Int.reduceMul, Int.reduceNeg, isB_i, isB_b, isB_y, isBv_i, isBv_b, eqCells_t, TT]
  refine loop_any cx_ok 400 (fun μ σ => ∃ (i : Nat) (H : List SB) (w : Nat) (z : List UInt8), μ = 46 - l.length - i ∧ i ≤ 46 - l.length ∧ Buf H w true (DL ++ List.replicate i 0) z ∧
      σ = ⟨⟨8, 0⟩, [(4, .c (.sl w 0 (14 + l.length + i) (14 + l.length + i + z.length)))], H⟩) (46 - l.length)
    ⟨⟨8, 0⟩, [(4, .c (.sl w 0 (14 + l.length + 0) (14 + l.length + 0 + z.length)))], H⟩ ⟨0, _, w, z, rfl, Nat.zero_le _, by rw [List.replicate_zero, List.append_nil]; exact B, rfl⟩
    (.inl ⟨rfl, rfl, rfl, trivial⟩) ?_
  clear B
  rintro μ σ ⟨i, H, w, z, rfl, hi, B, rfl⟩
  have hn3 : (DL ++ List.replicate i 0).length = 14 + l.length + i := by simp; omega
  have hn4 : (DL ++ List.replicate (i + 1) 0).length = 14 + l.length + (i + 1) := by simp; omega
  have hn5 : DL ++ List.replicate (i + 1) 0 = DL ++ List.replicate i 0 ++ [0] := by rw [List.append_assoc, ← List.replicate_succ']
  by_cases hlt : i < 46 - l.length
  · have hd : decide (((14 + l.length + i : Nat) : Int) < 60) = true := by simp only [decide_eq_true_eq]; omega
    have b0 : SC.v (.int .u8 0) = byteC 0 := rfl
    generalize DL ++ List.replicate i 0 = M at B hn3 hn5
    simp (maxSteps := 4000000) only [Try.results9, hd, B.at_, lt_of B.at_, b0, List.append_assoc, List.getElem?_append_left, List.getElem?_append_right, List.length_append, List.length_set, List.set_append_left, gset, List.getElem?_set_ne, Nat.add_sub_cancel_left, Nat.sub_self, Nat.le_refl, Nat.le_add_right, List.replicate_one, List.flatten_cons, List.flatten_nil, rep_flat, XX, Nat.reduceBEq, Nat.reduceLT, Nat.reduceAdd, Nat.reduceMul, Nat.reduceSub, Nat.reduceLeDiff, Nat.reduceEqDiff, Int.reduceToNat, Int.reduceLT, Int.reduceLE, Int.reduceAdd, Int.reduceSub, Int.reduceEq, reduceIte, Nat.reduceBNe, Int.reducePow, Nat.reducePow, Int.reduceMul, Int.reduceNeg, isB_i, isB_b, isB_y, isBv_i, isBv_b, eqCells_t, TT]
    refine ⟨⟨by omega, by unfold maxLen; omega, by simp; omega, fun h => by simp; omega⟩, ?_⟩
    refine xapp_one B hn3 rfl rfl fun H' w' z' B' h1 h2 h3 => ?_
    rw [← hn5] at B' ⊢
    simp (maxSteps := 4000000) only [Try.results9, XX, Nat.reduceBEq, Nat.reduceLT, Nat.reduceAdd, Nat.reduceMul, Nat.reduceSub, Nat.reduceLeDiff, Nat.reduceEqDiff, Int.reduceToNat, Int.reduceLT, Int.reduceLE, Int.reduceAdd, Int.reduceSub, Int.reduceEq, reduceIte, Nat.reduceBNe, Int.reducePow, Nat.reducePow, Int.reduceMul, Int.reduceNeg, isB_i, isB_b, isB_y, isBv_i, isBv_b, eqCells_t, TT]
    refine ⟨46 - l.length - (i + 1), by omega, _, ⟨i + 1, H', w', z', rfl, by omega, B', rfl⟩, .inl ⟨rfl, rfl, ?_, trivial⟩⟩
    simp only [XX, Nat.reduceBEq, Nat.reduceLT, Nat.reduceAdd, Nat.reduceMul, Nat.reduceSub, Nat.reduceLeDiff, Nat.reduceEqDiff, Int.reduceToNat, Int.reduceLT, Int.reduceLE, Int.reduceAdd, Int.reduceSub, Int.reduceEq, reduceIte, Nat.reduceBNe, Int.reducePow, Nat.reducePow, Int.reduceMul, Int.reduceNeg, isB_i, isB_b, isB_y, isBv_i, isBv_b, eqCells_t, TT, slB, hn4]
  have hd : decide (((14 + l.length + i : Nat) : Int) < 60) = false := by simp only [decide_eq_false_iff_not]; omega
  obtain rfl : i = 46 - l.length := by omega
  have eL2 : L = DL ++ List.replicate (46 - l.length) 0 := eL
  rw [← eL2] at B hn3
  simp (maxSteps := 4000000) only [Try.results9, hd, XX, Nat.reduceBEq, Nat.reduceLT, Nat.reduceAdd, Nat.reduceMul, Nat.reduceSub, Nat.reduceLeDiff, Nat.reduceEqDiff, Int.reduceToNat, Int.reduceLT, Int.reduceLE, Int.reduceAdd, Int.reduceSub, Int.reduceEq, reduceIte, Nat.reduceBNe, Int.reducePow, Nat.reducePow, Int.reduceMul, Int.reduceNeg, isB_i, isB_b, isB_y, isBv_i, isBv_b, eqCells_t, TT]
  exact ⟨w, z, true, by rw [hn3], B⟩

end Go.Proofs.Ytgadpbfmnhkjfaa.Sx
