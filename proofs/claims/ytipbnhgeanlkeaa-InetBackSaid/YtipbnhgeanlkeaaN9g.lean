/- The symbolic executor, at work: heads are laid, as the document says. No condition. -/
import Derived.Test.YtipbnhgeanlkeaaN9f
namespace Go.Proofs.Ytipbnhgeanlkeaa.Sx
open Go
set_option linter.unusedSimpArgs false
set_option linter.unusedVariables false
set_option maxRecDepth 10000
set_option maxHeartbeats 2000000

theorem encA_spec (h : IP) (l sp : List UInt8) (c : Nat) (hsrc : h.src < 4294967296) (hdst : h.dst < 4294967296) (hl2 : l.length ≤ 140737488355328) : Spec cx.P 11 [.agg (ipC h), .c (roB l sp c)] [] (resB (encR h l) (encE h l)) := by
  unfold encR
  by_cases hb : badH h
  · have e : encE h l = 1 := if_pos hb
    rw [e]
    exact resB_nil (encB_spec h _ hb)
  · by_cases hl : 1480 < l.length
    · have e : encE h l = 2 := by unfold encE; rw [if_neg hb, if_pos hl]
      rw [e]
      exact resB_nil (encLong_spec h l sp c hb hl hl2)
    · have e : encE h l = 0 := by unfold encE; rw [if_neg hb, if_neg hl]
      rw [e, if_pos rfl]
      exact enc_spec h l sp c hb hsrc hdst (by omega)

/-- A number behind others. -/
theorem put_spec (H : List SB) (w : Nat) (o : Bool) (L z : List UInt8) (B : Buf H w o L z) (x : Int) (k : Nat) (Y : List UInt8) (hY : Spec cx.P 32 [.c (u64 (IntKind.u64.wrap x)), .c (i64 k)] [] fun s h' => s = .c (.sl 0 0 k k) ∧ h' = [wB true Y]) (hk : Y.length = k) (hk0 : 0 < k) (hk8 : k ≤ 8) (hl : L.length ≤ 70368744177664) :
    Spec cx.P 28 [.c (slB w L z), .c (i64 x), .c (i64 k)] H fun s h' => ∃ w' z', s = .c (slB w' (L ++ Y) z') ∧ Buf h' w' true (L ++ Y) z' ∧ H.length ≤ h'.length ∧ (∀ k, k < H.length → k ≠ w → h'[k]? = H[k]?) ∧ (w' = w ∨ H.length ≤ w') := by
  have lw := lt_of B.at_
  refine spec_of_X cx_ok Try.func28 rfl (by kernel_rfl) (by kernel_rfl) (Nat.le_of_ble_eq_true rfl) 400 8 ?_
  simp (maxSteps := 4000000) only [Try.results28, XX, Nat.reduceBEq, Nat.reduceLT, Nat.reduceAdd, Nat.reduceMul, Nat.reduceSub, Nat.reduceLeDiff, Nat.reduceEqDiff, Int.reduceToNat, Int.reduceLT, Int.reduceLE, Int.reduceAdd, Int.reduceSub, Int.reduceEq, reduceIte, Nat.reduceBNe, Int.reducePow, Nat.reducePow, Int.reduceMul, Int.reduceNeg, isB_i, isB_b, isB_y, isBv_i, isBv_b, eqCells_t, TT]
  refine call_fz [.c (u64 (IntKind.u64.wrap x)), .c (i64 k)] hY (fun t h' h => by obtain ⟨rfl, rfl⟩ := h; exact ⟨rfl, by simp only [XX, Nat.reduceBEq, Nat.reduceLT, Nat.reduceAdd, Nat.reduceMul, Nat.reduceSub, Nat.reduceLeDiff, Nat.reduceEqDiff, Int.reduceToNat, Int.reduceLT, Int.reduceLE, Int.reduceAdd, Int.reduceSub, Int.reduceEq, reduceIte, Nat.reduceBNe, Int.reducePow, Nat.reducePow, Int.reduceMul, Int.reduceNeg, isB_i, isB_b, isB_y, isBv_i, isBv_b, eqCells_t, TT, ids_bsC, ren_bsC, noRo_bsC, plain_bsC, lt_bsC, ids_byte, ren_byte, noRo_byte, plain_byte, lt_byte]⟩) ⟨.inl ⟨rfl, rfl⟩, .inl ⟨rfl, rfl⟩, trivial⟩ ?_
  rintro _ _ ⟨rfl, rfl⟩
  have t1 : (bsC Y).take k = bsC Y := List.take_of_length_le (by simp [hk])
  have m1 : (bsC Y).length = k := by simp [hk]
  have B1 : Buf (H ++ [wB true Y]) w o L z := B.app
  simp (maxSteps := 4000000) only [Try.results28, B.at_, lw, t1, m1, bsC_len, rep_flat, ids_bsC, ren_bsC, noRo_bsC, plain_bsC, lt_bsC, ids_byte, ren_byte, noRo_byte, plain_byte, lt_byte, List.append_assoc, List.getElem?_append_left, List.getElem?_append_right, List.length_append, List.length_set, List.set_append_left, gset, List.getElem?_set_ne, Nat.add_sub_cancel_left, Nat.sub_self, Nat.le_refl, Nat.le_add_right, List.replicate_one, List.flatten_cons, List.flatten_nil, rep_flat, XX, Nat.reduceBEq, Nat.reduceLT, Nat.reduceAdd, Nat.reduceMul, Nat.reduceSub, Nat.reduceLeDiff, Nat.reduceEqDiff, Int.reduceToNat, Int.reduceLT, Int.reduceLE, Int.reduceAdd, Int.reduceSub, Int.reduceEq, reduceIte, Nat.reduceBNe, Int.reducePow, Nat.reducePow, Int.reduceMul, Int.reduceNeg, isB_i, isB_b, isB_y, isBv_i, isBv_b, eqCells_t, TT]
  refine ⟨⟨by omega, by unfold maxLen; omega, fun h => ⟨.inr (B.own (by omega)), by omega⟩⟩, ?_⟩
  refine xapp_more (t := [wB true Y]) B rfl hk rfl rfl (by omega) fun H' w' z' B' g1 g2 g3 => ?_
  simp (maxSteps := 4000000) only [Try.results28, XX, Nat.reduceBEq, Nat.reduceLT, Nat.reduceAdd, Nat.reduceMul, Nat.reduceSub, Nat.reduceLeDiff, Nat.reduceEqDiff, Int.reduceToNat, Int.reduceLT, Int.reduceLE, Int.reduceAdd, Int.reduceSub, Int.reduceEq, reduceIte, Nat.reduceBNe, Int.reducePow, Nat.reducePow, Int.reduceMul, Int.reduceNeg, isB_i, isB_b, isB_y, isBv_i, isBv_b, eqCells_t, TT]
  exact ⟨w', z', rfl, B', g1, g2, g3⟩

theorem headR_spec (t i u p : Nat) (keep : Bool) (src dst n sum : Nat) (ht : t < 256) (hi : i < 65536) (hu : u < 256) (hp : p < 256) (hsrc : src < 4294967296) (hdst : dst < 4294967296) (hn : n < 65536) (hs : sum < 65536) :
    Spec cx.P 17 [.agg (ipC ⟨t, i, u, p, keep, src, dst⟩), .c (i64 n), .c (i64 sum)] [] (resS (headL ⟨t, i, u, p, keep, src, dst⟩ n sum)) := by
  refine resS_of ?_
  have wn : IntKind.u64.wrap (n : Int) = (n : Int) := by rw [wu64] <;> omega
  have wi : IntKind.u64.wrap (i : Int) = (i : Int) := by rw [wu64] <;> omega
  have ws : IntKind.u64.wrap (sum : Int) = (sum : Int) := by rw [wu64] <;> omega
  have wa : IntKind.i64.wrap (src : Int) = (src : Int) := by rw [w64] <;> omega
  have wb : IntKind.i64.wrap (dst : Int) = (dst : Int) := by rw [w64] <;> omega
  have wc : IntKind.u64.wrap (src : Int) = (src : Int) := by rw [wu64] <;> omega
  have wd : IntKind.u64.wrap (dst : Int) = (dst : Int) := by rw [wu64] <;> omega
  have pn := rput2_spec n (by omega)
  have pi := rput2_spec i (by omega)
  have ps := rput2_spec sum (by omega)
  have pa := rput4_spec src (by omega)
  have pb := rput4_spec dst (by omega)
  rw [← wn] at pn
  rw [← wi] at pi
  rw [← ws] at ps
  rw [← wc] at pa
  rw [← wd] at pb
  have pf : ∀ k, Spec cx.P 32 [.c (u64 (IntKind.u64.wrap (flagN k : Nat))), .c (i64 2)] [] fun s h' => s = .c (.sl 0 0 2 2) ∧ h' = [wB true (be2 (flagN k))] := fun k => by
    have e : IntKind.u64.wrap (flagN k : Nat) = (flagN k : Nat) := by cases k <;> rfl
    rw [e]
    exact rput2_spec _ (by cases k <;> decide)
  refine spec_of_X cx_ok Try.func17 rfl (by kernel_rfl) (by kernel_rfl) (Nat.le_of_ble_eq_true rfl) 400 9 ?_
  simp (maxSteps := 4000000) only [Try.results17, XX, Nat.reduceBEq, Nat.reduceLT, Nat.reduceAdd, Nat.reduceMul, Nat.reduceSub, Nat.reduceLeDiff, Nat.reduceEqDiff, Int.reduceToNat, Int.reduceLT, Int.reduceLE, Int.reduceAdd, Int.reduceSub, Int.reduceEq, reduceIte, Nat.reduceBNe, Int.reducePow, Nat.reducePow, Int.reduceMul, Int.reduceNeg, isB_i, isB_b, isB_y, isBv_i, isBv_b, eqCells_t, TT]
  cases keep
  · simp (maxSteps := 4000000) only [Try.results17, byteC_n, List.replicate_succ, List.replicate_zero, List.flatten_cons, List.flatten_nil, XX, Nat.reduceBEq, Nat.reduceLT, Nat.reduceAdd, Nat.reduceMul, Nat.reduceSub, Nat.reduceLeDiff, Nat.reduceEqDiff, Int.reduceToNat, Int.reduceLT, Int.reduceLE, Int.reduceAdd, Int.reduceSub, Int.reduceEq, reduceIte, Nat.reduceBNe, Int.reducePow, Nat.reducePow, Int.reduceMul, Int.reduceNeg, isB_i, isB_b, isB_y, isBv_i, isBv_b, eqCells_t, TT]
    refine call_is (put_spec _ 1 true [69, UInt8.ofNat t] [] ⟨rfl, fun _ => rfl⟩ n 2 (be2 n) pn rfl (by decide) (by decide) (by simp)) ?_
    rintro _ H1 ⟨w1, z1, rfl, B1, g1, g2, g3⟩
    have b1 : H1[0]? = some ⟨true, 27, ipC ⟨t, i, u, p, false, src, dst⟩⟩ := g2 0 (by simp) (by decide)
    have q1 : w1 ≠ 0 := by simp at g3; omega
    generalize hL1 : ([69, UInt8.ofNat t] ++ be2 n : List UInt8) = L1 at B1 ⊢
    have n1 : L1.length = 4 := by rw [← hL1]; rfl
    clear g1 g2 g3
    simp (maxSteps := 4000000) only [Try.results17, b1, lt_of b1, XX, Nat.reduceBEq, Nat.reduceLT, Nat.reduceAdd, Nat.reduceMul, Nat.reduceSub, Nat.reduceLeDiff, Nat.reduceEqDiff, Int.reduceToNat, Int.reduceLT, Int.reduceLE, Int.reduceAdd, Int.reduceSub, Int.reduceEq, reduceIte, Nat.reduceBNe, Int.reducePow, Nat.reducePow, Int.reduceMul, Int.reduceNeg, isB_i, isB_b, isB_y, isBv_i, isBv_b, eqCells_t, TT]
    refine call_is (put_spec H1 w1 true L1 z1 B1 i 2 (be2 i) pi rfl (by decide) (by decide) (by omega)) ?_
    rintro _ H2 ⟨w2, z2, rfl, B2, g1, g2, g3⟩
    have b2 := (g2 0 (lt_of b1) (Ne.symm q1)).trans b1
    have q2 : w2 ≠ 0 := by have := lt_of b1; omega
    generalize hL2 : L1 ++ be2 i = L2 at B2 ⊢
    have n2 : L2.length = 6 := by rw [← hL2, List.length_append, n1]; rfl
    clear g1 g2 g3
    simp (maxSteps := 4000000) only [Try.results17, b2, lt_of b2, XX, Nat.reduceBEq, Nat.reduceLT, Nat.reduceAdd, Nat.reduceMul, Nat.reduceSub, Nat.reduceLeDiff, Nat.reduceEqDiff, Int.reduceToNat, Int.reduceLT, Int.reduceLE, Int.reduceAdd, Int.reduceSub, Int.reduceEq, reduceIte, Nat.reduceBNe, Int.reducePow, Nat.reducePow, Int.reduceMul, Int.reduceNeg, isB_i, isB_b, isB_y, isBv_i, isBv_b, eqCells_t, TT]
    refine call_is (put_spec H2 w2 true L2 z2 B2 (flagN false : Nat) 2 (be2 (flagN false)) (pf false) rfl (by decide) (by decide) (by omega)) ?_
    rintro _ H3 ⟨w3, z3, rfl, B3, g1, g2, g3⟩
    have b3 := (g2 0 (lt_of b2) (Ne.symm q2)).trans b2
    have q3 : w3 ≠ 0 := by have := lt_of b2; omega
    generalize hL3 : L2 ++ be2 (flagN false) = L3 at B3 ⊢
    have n3 : L3.length = 8 := by rw [← hL3, List.length_append, n2]; rfl
    clear g1 g2 g3
    simp (maxSteps := 4000000) only [Try.results17, b3, lt_of b3, B3.at_, lt_of B3.at_, byteC_n, List.replicate_succ, List.replicate_zero, List.flatten_cons, List.flatten_nil, List.append_assoc, List.getElem?_append_left, List.getElem?_append_right, List.length_append, List.length_set, List.set_append_left, gset, List.getElem?_set_ne, Nat.add_sub_cancel_left, Nat.sub_self, Nat.le_refl, Nat.le_add_right, List.replicate_one, List.flatten_cons, List.flatten_nil, rep_flat, XX, Nat.reduceBEq, Nat.reduceLT, Nat.reduceAdd, Nat.reduceMul, Nat.reduceSub, Nat.reduceLeDiff, Nat.reduceEqDiff, Int.reduceToNat, Int.reduceLT, Int.reduceLE, Int.reduceAdd, Int.reduceSub, Int.reduceEq, reduceIte, Nat.reduceBNe, Int.reducePow, Nat.reducePow, Int.reduceMul, Int.reduceNeg, isB_i, isB_b, isB_y, isBv_i, isBv_b, eqCells_t, TT]
    refine ⟨⟨by omega, by unfold maxLen; omega, by simp, fun h => by simp; omega⟩, ?_⟩
    refine xapp_more (t := [wB true [UInt8.ofNat u, UInt8.ofNat p]]) (news := [UInt8.ofNat u, UInt8.ofNat p]) B3 rfl rfl rfl rfl (by omega) fun H4 w4 z4 B4 g1 g2 g3 => ?_
    have b4 := (g2 0 (lt_of b3) (Ne.symm q3)).trans b3
    have q4 : w4 ≠ 0 := by have := lt_of b3; omega
    generalize hL4 : L3 ++ [UInt8.ofNat u, UInt8.ofNat p] = L4 at B4 ⊢
    have n4 : L4.length = 10 := by rw [← hL4, List.length_append, n3]; rfl
    clear g1 g2 g3
    simp (maxSteps := 4000000) only [Try.results17, b4, lt_of b4, XX, Nat.reduceBEq, Nat.reduceLT, Nat.reduceAdd, Nat.reduceMul, Nat.reduceSub, Nat.reduceLeDiff, Nat.reduceEqDiff, Int.reduceToNat, Int.reduceLT, Int.reduceLE, Int.reduceAdd, Int.reduceSub, Int.reduceEq, reduceIte, Nat.reduceBNe, Int.reducePow, Nat.reducePow, Int.reduceMul, Int.reduceNeg, isB_i, isB_b, isB_y, isBv_i, isBv_b, eqCells_t, TT]
    refine call_is (put_spec H4 w4 true L4 z4 B4 sum 2 (be2 sum) ps rfl (by decide) (by decide) (by omega)) ?_
    rintro _ H5 ⟨w5, z5, rfl, B5, g1, g2, g3⟩
    have b5 := (g2 0 (lt_of b4) (Ne.symm q4)).trans b4
    have q5 : w5 ≠ 0 := by have := lt_of b4; omega
    generalize hL5 : L4 ++ be2 sum = L5 at B5 ⊢
    have n5 : L5.length = 12 := by rw [← hL5, List.length_append, n4]; rfl
    clear g1 g2 g3
    simp (maxSteps := 4000000) only [Try.results17, b5, lt_of b5, wa, XX, Nat.reduceBEq, Nat.reduceLT, Nat.reduceAdd, Nat.reduceMul, Nat.reduceSub, Nat.reduceLeDiff, Nat.reduceEqDiff, Int.reduceToNat, Int.reduceLT, Int.reduceLE, Int.reduceAdd, Int.reduceSub, Int.reduceEq, reduceIte, Nat.reduceBNe, Int.reducePow, Nat.reducePow, Int.reduceMul, Int.reduceNeg, isB_i, isB_b, isB_y, isBv_i, isBv_b, eqCells_t, TT]
    refine call_is (put_spec H5 w5 true L5 z5 B5 src 4 (be4 src) pa rfl (by decide) (by decide) (by omega)) ?_
    rintro _ H6 ⟨w6, z6, rfl, B6, g1, g2, g3⟩
    have b6 := (g2 0 (lt_of b5) (Ne.symm q5)).trans b5
    have q6 : w6 ≠ 0 := by have := lt_of b5; omega
    generalize hL6 : L5 ++ be4 src = L6 at B6 ⊢
    have n6 : L6.length = 16 := by rw [← hL6, List.length_append, n5]; rfl
    clear g1 g2 g3
    simp (maxSteps := 4000000) only [Try.results17, b6, lt_of b6, wb, XX, Nat.reduceBEq, Nat.reduceLT, Nat.reduceAdd, Nat.reduceMul, Nat.reduceSub, Nat.reduceLeDiff, Nat.reduceEqDiff, Int.reduceToNat, Int.reduceLT, Int.reduceLE, Int.reduceAdd, Int.reduceSub, Int.reduceEq, reduceIte, Nat.reduceBNe, Int.reducePow, Nat.reducePow, Int.reduceMul, Int.reduceNeg, isB_i, isB_b, isB_y, isBv_i, isBv_b, eqCells_t, TT]
    refine call_is (put_spec H6 w6 true L6 z6 B6 dst 4 (be4 dst) pb rfl (by decide) (by decide) (by omega)) ?_
    rintro _ H7 ⟨w7, z7, rfl, B7, g1, g2, g3⟩
    have e : L6 ++ be4 dst = headL ⟨t, i, u, p, false, src, dst⟩ n sum := by
      rw [← hL6, ← hL5, ← hL4, ← hL3, ← hL2, ← hL1]; rfl
    rw [e] at B7 ⊢
    simp (maxSteps := 4000000) only [Try.results17, XX, Nat.reduceBEq, Nat.reduceLT, Nat.reduceAdd, Nat.reduceMul, Nat.reduceSub, Nat.reduceLeDiff, Nat.reduceEqDiff, Int.reduceToNat, Int.reduceLT, Int.reduceLE, Int.reduceAdd, Int.reduceSub, Int.reduceEq, reduceIte, Nat.reduceBNe, Int.reducePow, Nat.reducePow, Int.reduceMul, Int.reduceNeg, isB_i, isB_b, isB_y, isBv_i, isBv_b, eqCells_t, TT]
    exact ⟨w7, z7, true, rfl, B7⟩
  · simp (maxSteps := 4000000) only [Try.results17, byteC_n, List.replicate_succ, List.replicate_zero, List.flatten_cons, List.flatten_nil, XX, Nat.reduceBEq, Nat.reduceLT, Nat.reduceAdd, Nat.reduceMul, Nat.reduceSub, Nat.reduceLeDiff, Nat.reduceEqDiff, Int.reduceToNat, Int.reduceLT, Int.reduceLE, Int.reduceAdd, Int.reduceSub, Int.reduceEq, reduceIte, Nat.reduceBNe, Int.reducePow, Nat.reducePow, Int.reduceMul, Int.reduceNeg, isB_i, isB_b, isB_y, isBv_i, isBv_b, eqCells_t, TT]
    refine call_is (put_spec _ 1 true [69, UInt8.ofNat t] [] ⟨rfl, fun _ => rfl⟩ n 2 (be2 n) pn rfl (by decide) (by decide) (by simp)) ?_
    rintro _ H1 ⟨w1, z1, rfl, B1, g1, g2, g3⟩
    have b1 : H1[0]? = some ⟨true, 27, ipC ⟨t, i, u, p, true, src, dst⟩⟩ := g2 0 (by simp) (by decide)
    have q1 : w1 ≠ 0 := by simp at g3; omega
    generalize hL1 : ([69, UInt8.ofNat t] ++ be2 n : List UInt8) = L1 at B1 ⊢
    have n1 : L1.length = 4 := by rw [← hL1]; rfl
    clear g1 g2 g3
    simp (maxSteps := 4000000) only [Try.results17, b1, lt_of b1, XX, Nat.reduceBEq, Nat.reduceLT, Nat.reduceAdd, Nat.reduceMul, Nat.reduceSub, Nat.reduceLeDiff, Nat.reduceEqDiff, Int.reduceToNat, Int.reduceLT, Int.reduceLE, Int.reduceAdd, Int.reduceSub, Int.reduceEq, reduceIte, Nat.reduceBNe, Int.reducePow, Nat.reducePow, Int.reduceMul, Int.reduceNeg, isB_i, isB_b, isB_y, isBv_i, isBv_b, eqCells_t, TT]
    refine call_is (put_spec H1 w1 true L1 z1 B1 i 2 (be2 i) pi rfl (by decide) (by decide) (by omega)) ?_
    rintro _ H2 ⟨w2, z2, rfl, B2, g1, g2, g3⟩
    have b2 := (g2 0 (lt_of b1) (Ne.symm q1)).trans b1
    have q2 : w2 ≠ 0 := by have := lt_of b1; omega
    generalize hL2 : L1 ++ be2 i = L2 at B2 ⊢
    have n2 : L2.length = 6 := by rw [← hL2, List.length_append, n1]; rfl
    clear g1 g2 g3
    simp (maxSteps := 4000000) only [Try.results17, b2, lt_of b2, XX, Nat.reduceBEq, Nat.reduceLT, Nat.reduceAdd, Nat.reduceMul, Nat.reduceSub, Nat.reduceLeDiff, Nat.reduceEqDiff, Int.reduceToNat, Int.reduceLT, Int.reduceLE, Int.reduceAdd, Int.reduceSub, Int.reduceEq, reduceIte, Nat.reduceBNe, Int.reducePow, Nat.reducePow, Int.reduceMul, Int.reduceNeg, isB_i, isB_b, isB_y, isBv_i, isBv_b, eqCells_t, TT]
    refine call_is (put_spec H2 w2 true L2 z2 B2 (flagN true : Nat) 2 (be2 (flagN true)) (pf true) rfl (by decide) (by decide) (by omega)) ?_
    rintro _ H3 ⟨w3, z3, rfl, B3, g1, g2, g3⟩
    have b3 := (g2 0 (lt_of b2) (Ne.symm q2)).trans b2
    have q3 : w3 ≠ 0 := by have := lt_of b2; omega
    generalize hL3 : L2 ++ be2 (flagN true) = L3 at B3 ⊢
    have n3 : L3.length = 8 := by rw [← hL3, List.length_append, n2]; rfl
    clear g1 g2 g3
    simp (maxSteps := 4000000) only [Try.results17, b3, lt_of b3, B3.at_, lt_of B3.at_, byteC_n, List.replicate_succ, List.replicate_zero, List.flatten_cons, List.flatten_nil, List.append_assoc, List.getElem?_append_left, List.getElem?_append_right, List.length_append, List.length_set, List.set_append_left, gset, List.getElem?_set_ne, Nat.add_sub_cancel_left, Nat.sub_self, Nat.le_refl, Nat.le_add_right, List.replicate_one, List.flatten_cons, List.flatten_nil, rep_flat, XX, Nat.reduceBEq, Nat.reduceLT, Nat.reduceAdd, Nat.reduceMul, Nat.reduceSub, Nat.reduceLeDiff, Nat.reduceEqDiff, Int.reduceToNat, Int.reduceLT, Int.reduceLE, Int.reduceAdd, Int.reduceSub, Int.reduceEq, reduceIte, Nat.reduceBNe, Int.reducePow, Nat.reducePow, Int.reduceMul, Int.reduceNeg, isB_i, isB_b, isB_y, isBv_i, isBv_b, eqCells_t, TT]
    refine ⟨⟨by omega, by unfold maxLen; omega, by simp, fun h => by simp; omega⟩, ?_⟩
    refine xapp_more (t := [wB true [UInt8.ofNat u, UInt8.ofNat p]]) (news := [UInt8.ofNat u, UInt8.ofNat p]) B3 rfl rfl rfl rfl (by omega) fun H4 w4 z4 B4 g1 g2 g3 => ?_
    have b4 := (g2 0 (lt_of b3) (Ne.symm q3)).trans b3
    have q4 : w4 ≠ 0 := by have := lt_of b3; omega
    generalize hL4 : L3 ++ [UInt8.ofNat u, UInt8.ofNat p] = L4 at B4 ⊢
    have n4 : L4.length = 10 := by rw [← hL4, List.length_append, n3]; rfl
    clear g1 g2 g3
    simp (maxSteps := 4000000) only [Try.results17, b4, lt_of b4, XX, Nat.reduceBEq, Nat.reduceLT, Nat.reduceAdd, Nat.reduceMul, Nat.reduceSub, Nat.reduceLeDiff, Nat.reduceEqDiff, Int.reduceToNat, Int.reduceLT, Int.reduceLE, Int.reduceAdd, Int.reduceSub, Int.reduceEq, reduceIte, Nat.reduceBNe, Int.reducePow, Nat.reducePow, Int.reduceMul, Int.reduceNeg, isB_i, isB_b, isB_y, isBv_i, isBv_b, eqCells_t, TT]
    refine call_is (put_spec H4 w4 true L4 z4 B4 sum 2 (be2 sum) ps rfl (by decide) (by decide) (by omega)) ?_
    rintro _ H5 ⟨w5, z5, rfl, B5, g1, g2, g3⟩
    have b5 := (g2 0 (lt_of b4) (Ne.symm q4)).trans b4
    have q5 : w5 ≠ 0 := by have := lt_of b4; omega
    generalize hL5 : L4 ++ be2 sum = L5 at B5 ⊢
    have n5 : L5.length = 12 := by rw [← hL5, List.length_append, n4]; rfl
    clear g1 g2 g3
    simp (maxSteps := 4000000) only [Try.results17, b5, lt_of b5, wa, XX, Nat.reduceBEq, Nat.reduceLT, Nat.reduceAdd, Nat.reduceMul, Nat.reduceSub, Nat.reduceLeDiff, Nat.reduceEqDiff, Int.reduceToNat, Int.reduceLT, Int.reduceLE, Int.reduceAdd, Int.reduceSub, Int.reduceEq, reduceIte, Nat.reduceBNe, Int.reducePow, Nat.reducePow, Int.reduceMul, Int.reduceNeg, isB_i, isB_b, isB_y, isBv_i, isBv_b, eqCells_t, TT]
    refine call_is (put_spec H5 w5 true L5 z5 B5 src 4 (be4 src) pa rfl (by decide) (by decide) (by omega)) ?_
    rintro _ H6 ⟨w6, z6, rfl, B6, g1, g2, g3⟩
    have b6 := (g2 0 (lt_of b5) (Ne.symm q5)).trans b5
    have q6 : w6 ≠ 0 := by have := lt_of b5; omega
    generalize hL6 : L5 ++ be4 src = L6 at B6 ⊢
    have n6 : L6.length = 16 := by rw [← hL6, List.length_append, n5]; rfl
    clear g1 g2 g3
    simp (maxSteps := 4000000) only [Try.results17, b6, lt_of b6, wb, XX, Nat.reduceBEq, Nat.reduceLT, Nat.reduceAdd, Nat.reduceMul, Nat.reduceSub, Nat.reduceLeDiff, Nat.reduceEqDiff, Int.reduceToNat, Int.reduceLT, Int.reduceLE, Int.reduceAdd, Int.reduceSub, Int.reduceEq, reduceIte, Nat.reduceBNe, Int.reducePow, Nat.reducePow, Int.reduceMul, Int.reduceNeg, isB_i, isB_b, isB_y, isBv_i, isBv_b, eqCells_t, TT]
    refine call_is (put_spec H6 w6 true L6 z6 B6 dst 4 (be4 dst) pb rfl (by decide) (by decide) (by omega)) ?_
    rintro _ H7 ⟨w7, z7, rfl, B7, g1, g2, g3⟩
    have e : L6 ++ be4 dst = headL ⟨t, i, u, p, true, src, dst⟩ n sum := by
      rw [← hL6, ← hL5, ← hL4, ← hL3, ← hL2, ← hL1]; rfl
    rw [e] at B7 ⊢
    simp (maxSteps := 4000000) only [Try.results17, XX, Nat.reduceBEq, Nat.reduceLT, Nat.reduceAdd, Nat.reduceMul, Nat.reduceSub, Nat.reduceLeDiff, Nat.reduceEqDiff, Int.reduceToNat, Int.reduceLT, Int.reduceLE, Int.reduceAdd, Int.reduceSub, Int.reduceEq, reduceIte, Nat.reduceBNe, Int.reducePow, Nat.reducePow, Int.reduceMul, Int.reduceNeg, isB_i, isB_b, isB_y, isBv_i, isBv_b, eqCells_t, TT]
    exact ⟨w7, z7, true, rfl, B7⟩

end Go.Proofs.Ytipbnhgeanlkeaa.Sx
