/- The symbolic executor, at work: bytes behind bytes, by the reference. No condition. -/
import Derived.Test.YtcihljikepielaaRs
import Derived.Test.YtcihljikepielaaArg
namespace Go.Proofs.Ytcihljikepielaa.Sx
open Go
set_option linter.unusedSimpArgs false
set_option linter.unusedVariables false
set_option maxRecDepth 10000
set_option maxHeartbeats 2000000

theorem dropAt {l sp : List UInt8} {j : Nat} (h : j < l.length) : ∃ R, (bsR (l ++ sp)).drop j = .v (.int .u8 (l.getD j 0).toNat) :: R := by
  refine ⟨(bsR (l ++ sp)).drop (j + 1), ?_⟩
  rw [List.drop_eq_getElem_cons (by simp; omega)]
  simp only [List.getElem_map, byteR]
  rw [List.getElem_append_left (by omega), List.getD_eq_getElem?_getD, List.getElem?_eq_getElem (by omega)]
  rfl

theorem addWR (H0 : List SB) (w0 : Nat) (o0 : Bool) (l z : List UInt8) (B0 : Buf H0 w0 o0 l z) (m sp : List UInt8) (c : Nat) (hl : l.length + m.length ≤ 70368744177664) : Spec cx.P 27 [.c (slB w0 l z), .c (roB m sp c)] H0 fun s h' => ∃ w z' o, s = .c (slB w (l ++ m) z') ∧ Buf h' w o (l ++ m) z' ∧ H0.length ≤ h'.length ∧ (∀ k, k < H0.length → k ≠ w0 → h'[k]? = H0[k]?) ∧ (w = w0 ∨ H0.length ≤ w) := by
  refine spec_of_X cx_ok Try.func27 rfl (by kernel_rfl) (by kernel_rfl) (Nat.le_of_ble_eq_true rfl) 400 6 ?_
  simp (maxSteps := 4000000) only [Try.results27, XX, Nat.reduceBEq, Nat.reduceLT, Nat.reduceAdd, Nat.reduceMul, Nat.reduceSub, Nat.reduceLeDiff, Nat.reduceEqDiff, Int.reduceToNat, Int.reduceLT, Int.reduceLE, Int.reduceAdd, Int.reduceSub, Int.reduceEq, reduceIte, Nat.reduceBNe, Int.reducePow, Nat.reducePow, Int.reduceMul, Int.reduceNeg, isB_i, isB_b, isB_y, isBv_i, isBv_b, eqCells_t, TT]
  refine loop_any cx_ok 400 (fun μ σ => ∃ (i : Nat) (H : List SB) (w : Nat) (o : Bool) (z' : List UInt8), μ = m.length - i ∧ i ≤ m.length ∧ Buf H w o (l ++ m.take i) z' ∧ H0.length ≤ H.length ∧ (∀ k, k < H0.length → k ≠ w0 → H[k]? = H0[k]?) ∧ (w = w0 ∨ H0.length ≤ w) ∧
      σ = ⟨⟨6, H0.length⟩, [(0, .c (.sl w 0 (l.length + i) ((l.length + i) + z'.length))), (1, .c (roB m sp c)), (5, .c (i64 i))], H⟩) m.length
    ⟨⟨6, H0.length⟩, [(0, .c (.sl w0 0 (l.length + 0) (l.length + 0 + z.length))), (1, .c (roB m sp c)), (5, .c (i64 (0 : Nat)))], H0⟩ ⟨0, H0, w0, o0, z, rfl, Nat.zero_le _, by rw [List.take_zero, List.append_nil]; exact B0, Nat.le_refl _, fun _ _ _ => rfl, .inl rfl, rfl⟩
    (.inl ⟨rfl, rfl, rfl, rfl, rfl, trivial⟩) ?_
  rintro μ σ ⟨i, H, w, o, z', rfl, hi, B, k1, k2, k3, rfl⟩
  by_cases hlt : i < m.length
  · have hd : decide ((i : Int) < (m.length : Int)) = true := by simp only [decide_eq_true_eq]; omega
    have e3 : IntKind.i64.wrap ((i : Int) + 1) = ((i + 1 : Nat) : Int) := by rw [w64] <;> omega
    obtain ⟨R, hR⟩ := dropAt (sp := sp) hlt
    have hb : SC.v (.int .u8 (m.getD i 0).toNat) = byteC (m.getD i 0) := rfl
    have hn : (l ++ m.take i).length = l.length + i := by simp; omega
    obtain ⟨LM, hLM⟩ : ∃ LM, LM = l ++ m.take i := ⟨_, rfl⟩
    rw [← hLM] at B hn
    simp (maxSteps := 4000000) only [Try.results27, hd, hR, hb, B.at_, lt_of B.at_, List.append_assoc, List.getElem?_append_left, List.getElem?_append_right, List.length_append, List.length_set, List.set_append_left, gset, List.getElem?_set_ne, Nat.add_sub_cancel_left, Nat.sub_self, Nat.le_refl, Nat.le_add_right, List.replicate_one, List.flatten_cons, List.flatten_nil, rep_flat, XX, Nat.reduceBEq, Nat.reduceLT, Nat.reduceAdd, Nat.reduceMul, Nat.reduceSub, Nat.reduceLeDiff, Nat.reduceEqDiff, Int.reduceToNat, Int.reduceLT, Int.reduceLE, Int.reduceAdd, Int.reduceSub, Int.reduceEq, reduceIte, Nat.reduceBNe, Int.reducePow, Nat.reducePow, Int.reduceMul, Int.reduceNeg, isB_i, isB_b, isB_y, isBv_i, isBv_b, eqCells_t, TT]
    refine ⟨⟨by omega, by omega⟩, by simp, ⟨⟨by omega, by unfold maxLen; omega, by simp; omega, fun h => ⟨B.own (by omega), by simp; omega⟩⟩, ?_⟩⟩
    refine xapp_one B hn rfl rfl fun H' w' z2 B' h1 h2 h3 => ?_
    simp (maxSteps := 4000000) only [Try.results27, e3, XX, Nat.reduceBEq, Nat.reduceLT, Nat.reduceAdd, Nat.reduceMul, Nat.reduceSub, Nat.reduceLeDiff, Nat.reduceEqDiff, Int.reduceToNat, Int.reduceLT, Int.reduceLE, Int.reduceAdd, Int.reduceSub, Int.reduceEq, reduceIte, Nat.reduceBNe, Int.reducePow, Nat.reducePow, Int.reduceMul, Int.reduceNeg, isB_i, isB_b, isB_y, isBv_i, isBv_b, eqCells_t, TT]
    have hL2 : LM ++ [m.getD i 0] = l ++ m.take (i + 1) := by rw [hLM, List.append_assoc, take_next m i hlt]
    have hn' : (l ++ m.take (i + 1)).length = l.length + i + 1 := by simp; omega
    rw [hL2] at B' ⊢
    refine ⟨m.length - (i + 1), by omega, _, ⟨i + 1, H', w', true, z2, rfl, by omega, B', by omega, fun k hk hkne => (h2 k (by omega) (by rcases k3 with k3 | k3 <;> omega)).trans (k2 k hk hkne), by omega, rfl⟩, .inl ⟨rfl, rfl, ?_, rfl, rfl, trivial⟩⟩
    simp only [XX, Nat.reduceBEq, Nat.reduceLT, Nat.reduceAdd, Nat.reduceMul, Nat.reduceSub, Nat.reduceLeDiff, Nat.reduceEqDiff, Int.reduceToNat, Int.reduceLT, Int.reduceLE, Int.reduceAdd, Int.reduceSub, Int.reduceEq, reduceIte, Nat.reduceBNe, Int.reducePow, Nat.reducePow, Int.reduceMul, Int.reduceNeg, isB_i, isB_b, isB_y, isBv_i, isBv_b, eqCells_t, TT, slB, hn', Nat.add_assoc]
  obtain rfl : i = m.length := by omega
  have hd : decide ((m.length : Int) < (m.length : Int)) = false := by simp
  rw [List.take_length] at B
  simp (maxSteps := 4000000) only [Try.results27, hd, XX, Nat.reduceBEq, Nat.reduceLT, Nat.reduceAdd, Nat.reduceMul, Nat.reduceSub, Nat.reduceLeDiff, Nat.reduceEqDiff, Int.reduceToNat, Int.reduceLT, Int.reduceLE, Int.reduceAdd, Int.reduceSub, Int.reduceEq, reduceIte, Nat.reduceBNe, Int.reducePow, Nat.reducePow, Int.reduceMul, Int.reduceNeg, isB_i, isB_b, isB_y, isBv_i, isBv_b, eqCells_t, TT]
  exact ⟨w, z', o, by simp only [slB, List.length_append], B, k1, k2, k3⟩

theorem addWW (H0 : List SB) (w0 : Nat) (o0 : Bool) (l z : List UInt8) (B0 : Buf H0 w0 o0 l z) (wb : Nat) (ob : Bool) (m sp : List UInt8) (Bb : Buf H0 wb ob m sp) (hne : wb ≠ w0) (hl : l.length + m.length ≤ 70368744177664) : Spec cx.P 27 [.c (slB w0 l z), .c (slB wb m sp)] H0 fun s h' => ∃ w z' o, s = .c (slB w (l ++ m) z') ∧ Buf h' w o (l ++ m) z' ∧ H0.length ≤ h'.length ∧ (∀ k, k < H0.length → k ≠ w0 → h'[k]? = H0[k]?) ∧ (w = w0 ∨ H0.length ≤ w) := by
  refine spec_of_X cx_ok Try.func27 rfl (by kernel_rfl) (by kernel_rfl) (Nat.le_of_ble_eq_true rfl) 400 6 ?_
  simp (maxSteps := 4000000) only [Try.results27, XX, Nat.reduceBEq, Nat.reduceLT, Nat.reduceAdd, Nat.reduceMul, Nat.reduceSub, Nat.reduceLeDiff, Nat.reduceEqDiff, Int.reduceToNat, Int.reduceLT, Int.reduceLE, Int.reduceAdd, Int.reduceSub, Int.reduceEq, reduceIte, Nat.reduceBNe, Int.reducePow, Nat.reducePow, Int.reduceMul, Int.reduceNeg, isB_i, isB_b, isB_y, isBv_i, isBv_b, eqCells_t, TT]
  refine loop_any cx_ok 400 (fun μ σ => ∃ (i : Nat) (H : List SB) (w : Nat) (o : Bool) (z' : List UInt8), μ = m.length - i ∧ i ≤ m.length ∧ Buf H w o (l ++ m.take i) z' ∧ H0.length ≤ H.length ∧ (∀ k, k < H0.length → k ≠ w0 → H[k]? = H0[k]?) ∧ (w = w0 ∨ H0.length ≤ w) ∧
      σ = ⟨⟨6, H0.length⟩, [(0, .c (.sl w 0 (l.length + i) ((l.length + i) + z'.length))), (1, .c (slB wb m sp)), (5, .c (i64 i))], H⟩) m.length
    ⟨⟨6, H0.length⟩, [(0, .c (.sl w0 0 (l.length + 0) (l.length + 0 + z.length))), (1, .c (slB wb m sp)), (5, .c (i64 (0 : Nat)))], H0⟩ ⟨0, H0, w0, o0, z, rfl, Nat.zero_le _, by rw [List.take_zero, List.append_nil]; exact B0, Nat.le_refl _, fun _ _ _ => rfl, .inl rfl, rfl⟩
    (.inl ⟨rfl, rfl, rfl, rfl, rfl, trivial⟩) ?_
  rintro μ σ ⟨i, H, w, o, z', rfl, hi, B, k1, k2, k3, rfl⟩
  by_cases hlt : i < m.length
  · have hd : decide ((i : Int) < (m.length : Int)) = true := by simp only [decide_eq_true_eq]; omega
    have e3 : IntKind.i64.wrap ((i : Int) + 1) = ((i + 1 : Nat) : Int) := by rw [w64] <;> omega
    have wb1 : H[wb]? = some (wB ob (m ++ sp)) := (k2 wb (lt_of Bb.at_) hne).trans Bb.at_
    have hR : (bsC (m ++ sp)).getD i .any = SC.v (.int .u8 (m.getD i 0).toNat) := by
      rw [List.getD_eq_getElem?_getD, List.getElem?_map, List.getElem?_append_left hlt, List.getD_eq_getElem?_getD, List.getElem?_eq_getElem hlt]; rfl
    have hb : SC.v (.int .u8 (m.getD i 0).toNat) = byteC (m.getD i 0) := rfl
    have hn : (l ++ m.take i).length = l.length + i := by simp; omega
    obtain ⟨LM, hLM⟩ : ∃ LM, LM = l ++ m.take i := ⟨_, rfl⟩
    rw [← hLM] at B hn
    simp (maxSteps := 4000000) only [Try.results27, hd, hR, hb, B.at_, lt_of B.at_, wb1, lt_of wb1, List.append_assoc, List.getElem?_append_left, List.getElem?_append_right, List.length_append, List.length_set, List.set_append_left, gset, List.getElem?_set_ne, Nat.add_sub_cancel_left, Nat.sub_self, Nat.le_refl, Nat.le_add_right, List.replicate_one, List.flatten_cons, List.flatten_nil, rep_flat, XX, Nat.reduceBEq, Nat.reduceLT, Nat.reduceAdd, Nat.reduceMul, Nat.reduceSub, Nat.reduceLeDiff, Nat.reduceEqDiff, Int.reduceToNat, Int.reduceLT, Int.reduceLE, Int.reduceAdd, Int.reduceSub, Int.reduceEq, reduceIte, Nat.reduceBNe, Int.reducePow, Nat.reducePow, Int.reduceMul, Int.reduceNeg, isB_i, isB_b, isB_y, isBv_i, isBv_b, eqCells_t, TT]
    refine ⟨⟨by omega, by omega⟩, by simp; omega, ⟨⟨by omega, by unfold maxLen; omega, by simp; omega, fun h => ⟨B.own (by omega), by simp; omega⟩⟩, ?_⟩⟩
    refine xapp_one B hn rfl rfl fun H' w' z2 B' h1 h2 h3 => ?_
    simp (maxSteps := 4000000) only [Try.results27, e3, XX, Nat.reduceBEq, Nat.reduceLT, Nat.reduceAdd, Nat.reduceMul, Nat.reduceSub, Nat.reduceLeDiff, Nat.reduceEqDiff, Int.reduceToNat, Int.reduceLT, Int.reduceLE, Int.reduceAdd, Int.reduceSub, Int.reduceEq, reduceIte, Nat.reduceBNe, Int.reducePow, Nat.reducePow, Int.reduceMul, Int.reduceNeg, isB_i, isB_b, isB_y, isBv_i, isBv_b, eqCells_t, TT]
    have hL2 : LM ++ [m.getD i 0] = l ++ m.take (i + 1) := by rw [hLM, List.append_assoc, take_next m i hlt]
    have hn' : (l ++ m.take (i + 1)).length = l.length + i + 1 := by simp; omega
    rw [hL2] at B' ⊢
    refine ⟨m.length - (i + 1), by omega, _, ⟨i + 1, H', w', true, z2, rfl, by omega, B', by omega, fun k hk hkne => (h2 k (by omega) (by rcases k3 with k3 | k3 <;> omega)).trans (k2 k hk hkne), by omega, rfl⟩, .inl ⟨rfl, rfl, ?_, rfl, rfl, trivial⟩⟩
    simp only [XX, Nat.reduceBEq, Nat.reduceLT, Nat.reduceAdd, Nat.reduceMul, Nat.reduceSub, Nat.reduceLeDiff, Nat.reduceEqDiff, Int.reduceToNat, Int.reduceLT, Int.reduceLE, Int.reduceAdd, Int.reduceSub, Int.reduceEq, reduceIte, Nat.reduceBNe, Int.reducePow, Nat.reducePow, Int.reduceMul, Int.reduceNeg, isB_i, isB_b, isB_y, isBv_i, isBv_b, eqCells_t, TT, slB, hn', Nat.add_assoc]
  obtain rfl : i = m.length := by omega
  have hd : decide ((m.length : Int) < (m.length : Int)) = false := by simp
  rw [List.take_length] at B
  simp (maxSteps := 4000000) only [Try.results27, hd, XX, Nat.reduceBEq, Nat.reduceLT, Nat.reduceAdd, Nat.reduceMul, Nat.reduceSub, Nat.reduceLeDiff, Nat.reduceEqDiff, Int.reduceToNat, Int.reduceLT, Int.reduceLE, Int.reduceAdd, Int.reduceSub, Int.reduceEq, reduceIte, Nat.reduceBNe, Int.reducePow, Nat.reducePow, Int.reduceMul, Int.reduceNeg, isB_i, isB_b, isB_y, isBv_i, isBv_b, eqCells_t, TT]
  exact ⟨w, z', o, by simp only [slB, List.length_append], B, k1, k2, k3⟩

theorem addNR  (m sp : List UInt8) (c : Nat) (hl : m.length ≤ 140737488355328) : Spec cx.P 27 [.c (.v (.slice none 0 0)), .c (roB m sp c)] [] fun s h' => ∃ w z' o, s = .c (slB w m z') ∧ Buf h' w o m z' := by
  refine spec_of_X cx_ok Try.func27 rfl (by kernel_rfl) (by kernel_rfl) (Nat.le_of_ble_eq_true rfl) 400 6 ?_
  simp (maxSteps := 4000000) only [Try.results27, XX, Nat.reduceBEq, Nat.reduceLT, Nat.reduceAdd, Nat.reduceMul, Nat.reduceSub, Nat.reduceLeDiff, Nat.reduceEqDiff, Int.reduceToNat, Int.reduceLT, Int.reduceLE, Int.reduceAdd, Int.reduceSub, Int.reduceEq, reduceIte, Nat.reduceBNe, Int.reducePow, Nat.reducePow, Int.reduceMul, Int.reduceNeg, isB_i, isB_b, isB_y, isBv_i, isBv_b, eqCells_t, TT]
  refine loop_any cx_ok 400 (fun μ σ => ∃ (i : Nat) (H : List SB) (w : Nat) (o : Bool) (z' : List UInt8), μ = m.length - i ∧ i ≤ m.length ∧ Buf H w o (m.take i) z' ∧
      σ = ⟨⟨6, 0⟩, [(0, .c (.sl w 0 i (i + z'.length))), (1, .c (roB m sp c)), (5, .c (i64 i))], H⟩) m.length
    ⟨⟨6, 0⟩, [(0, .c (.sl 0 0 0 0)), (1, .c (roB m sp c)), (5, .c (i64 (0 : Nat)))], [wB false []]⟩ ⟨0, _, 0, false, [], rfl, Nat.zero_le _, by rw [List.take_zero]; exact ⟨rfl, fun h => absurd h (by simp)⟩, rfl⟩
    (.inr ⟨[none], rfl, rfl, by simp only [XX, Nat.reduceBEq, Nat.reduceLT, Nat.reduceAdd, Nat.reduceMul, Nat.reduceSub, Nat.reduceLeDiff, Nat.reduceEqDiff, Int.reduceToNat, Int.reduceLT, Int.reduceLE, Int.reduceAdd, Int.reduceSub, Int.reduceEq, reduceIte, Nat.reduceBNe, Int.reducePow, Nat.reducePow, Int.reduceMul, Int.reduceNeg, isB_i, isB_b, isB_y, isBv_i, isBv_b, eqCells_t, TT, List.map_nil], ⟨wk_nil, .inl ⟨rfl, rfl⟩, .inl ⟨rfl, rfl⟩, trivial⟩⟩) ?_
  rintro μ σ ⟨i, H, w, o, z', rfl, hi, B, rfl⟩
  by_cases hlt : i < m.length
  · have hd : decide ((i : Int) < (m.length : Int)) = true := by simp only [decide_eq_true_eq]; omega
    have e3 : IntKind.i64.wrap ((i : Int) + 1) = ((i + 1 : Nat) : Int) := by rw [w64] <;> omega
    obtain ⟨R, hR⟩ := dropAt (sp := sp) hlt
    have hb : SC.v (.int .u8 (m.getD i 0).toNat) = byteC (m.getD i 0) := rfl
    have hn : (m.take i).length = i := by simp; omega
    obtain ⟨LM, hLM⟩ : ∃ LM, LM = m.take i := ⟨_, rfl⟩
    rw [← hLM] at B hn
    simp (maxSteps := 4000000) only [Try.results27, hd, hR, hb, B.at_, lt_of B.at_, List.append_assoc, List.getElem?_append_left, List.getElem?_append_right, List.length_append, List.length_set, List.set_append_left, gset, List.getElem?_set_ne, Nat.add_sub_cancel_left, Nat.sub_self, Nat.le_refl, Nat.le_add_right, List.replicate_one, List.flatten_cons, List.flatten_nil, rep_flat, XX, Nat.reduceBEq, Nat.reduceLT, Nat.reduceAdd, Nat.reduceMul, Nat.reduceSub, Nat.reduceLeDiff, Nat.reduceEqDiff, Int.reduceToNat, Int.reduceLT, Int.reduceLE, Int.reduceAdd, Int.reduceSub, Int.reduceEq, reduceIte, Nat.reduceBNe, Int.reducePow, Nat.reducePow, Int.reduceMul, Int.reduceNeg, isB_i, isB_b, isB_y, isBv_i, isBv_b, eqCells_t, TT]
    refine ⟨⟨by omega, by omega⟩, by simp, ⟨⟨by omega, by unfold maxLen; omega, by simp; omega, fun h => ⟨B.own (by omega), by simp; omega⟩⟩, ?_⟩⟩
    refine xapp_one B hn rfl rfl fun H' w' z2 B' h1 h2 h3 => ?_
    simp (maxSteps := 4000000) only [Try.results27, e3, XX, Nat.reduceBEq, Nat.reduceLT, Nat.reduceAdd, Nat.reduceMul, Nat.reduceSub, Nat.reduceLeDiff, Nat.reduceEqDiff, Int.reduceToNat, Int.reduceLT, Int.reduceLE, Int.reduceAdd, Int.reduceSub, Int.reduceEq, reduceIte, Nat.reduceBNe, Int.reducePow, Nat.reducePow, Int.reduceMul, Int.reduceNeg, isB_i, isB_b, isB_y, isBv_i, isBv_b, eqCells_t, TT]
    have hL2 : LM ++ [m.getD i 0] = m.take (i + 1) := by rw [hLM, take_next m i hlt]
    have hn' : (m.take (i + 1)).length = i + 1 := by simp; omega
    rw [hL2] at B' ⊢
    refine ⟨m.length - (i + 1), by omega, _, ⟨i + 1, H', w', true, z2, rfl, by omega, B', rfl⟩, .inl ⟨rfl, rfl, ?_, rfl, rfl, trivial⟩⟩
    simp only [XX, Nat.reduceBEq, Nat.reduceLT, Nat.reduceAdd, Nat.reduceMul, Nat.reduceSub, Nat.reduceLeDiff, Nat.reduceEqDiff, Int.reduceToNat, Int.reduceLT, Int.reduceLE, Int.reduceAdd, Int.reduceSub, Int.reduceEq, reduceIte, Nat.reduceBNe, Int.reducePow, Nat.reducePow, Int.reduceMul, Int.reduceNeg, isB_i, isB_b, isB_y, isBv_i, isBv_b, eqCells_t, TT, slB, hn', Nat.add_assoc]
  obtain rfl : i = m.length := by omega
  have hd : decide ((m.length : Int) < (m.length : Int)) = false := by simp
  rw [List.take_length] at B
  simp (maxSteps := 4000000) only [Try.results27, hd, XX, Nat.reduceBEq, Nat.reduceLT, Nat.reduceAdd, Nat.reduceMul, Nat.reduceSub, Nat.reduceLeDiff, Nat.reduceEqDiff, Int.reduceToNat, Int.reduceLT, Int.reduceLE, Int.reduceAdd, Int.reduceSub, Int.reduceEq, reduceIte, Nat.reduceBNe, Int.reducePow, Nat.reducePow, Int.reduceMul, Int.reduceNeg, isB_i, isB_b, isB_y, isBv_i, isBv_b, eqCells_t, TT]
  exact ⟨w, z', o, by simp only [slB, List.length_append], B⟩

theorem addWR' (H0 : List SB) (w0 : Nat) (o0 : Bool) (l z : List UInt8) (B0 : Buf H0 w0 o0 l z) (n cap : Nat) (hn : l.length = n) (hc : n + z.length = cap) (m sp : List UInt8) (c : Nat) (hl : l.length + m.length ≤ 70368744177664) : Spec cx.P 27 [.c (.sl w0 0 n cap), .c (roB m sp c)] H0 fun s h' => ∃ w z' o, s = .c (slB w (l ++ m) z') ∧ Buf h' w o (l ++ m) z' ∧ H0.length ≤ h'.length ∧ (∀ k, k < H0.length → k ≠ w0 → h'[k]? = H0[k]?) ∧ (w = w0 ∨ H0.length ≤ w) := by
  subst hn; subst hc
  exact addWR H0 w0 o0 l z B0 m sp c hl
theorem addWW' (H0 : List SB) (w0 : Nat) (o0 : Bool) (l z : List UInt8) (B0 : Buf H0 w0 o0 l z) (n cap : Nat) (hn : l.length = n) (hc : n + z.length = cap) (wb : Nat) (ob : Bool) (m sp : List UInt8) (Bb : Buf H0 wb ob m sp) (n2 cap2 : Nat) (hn2 : m.length = n2) (hc2 : n2 + sp.length = cap2) (hne : wb ≠ w0) (hl : l.length + m.length ≤ 70368744177664) : Spec cx.P 27 [.c (.sl w0 0 n cap), .c (.sl wb 0 n2 cap2)] H0 fun s h' => ∃ w z' o, s = .c (slB w (l ++ m) z') ∧ Buf h' w o (l ++ m) z' ∧ H0.length ≤ h'.length ∧ (∀ k, k < H0.length → k ≠ w0 → h'[k]? = H0[k]?) ∧ (w = w0 ∨ H0.length ≤ w) := by
  subst hn; subst hc; subst hn2; subst hc2
  exact addWW H0 w0 o0 l z B0 wb ob m sp Bb hne hl

end Go.Proofs.Ytcihljikepielaa.Sx
