/- The symbolic executor, at work: heads are laid. No condition. -/
import Derived.Test.YtipbnhgeanlkeaaN9e
import Derived.Test.YtipbnhgeanlkeaaPt
namespace Go.Proofs.Ytipbnhgeanlkeaa.Sx
open Go
set_option linter.unusedSimpArgs false
set_option linter.unusedVariables false
set_option maxRecDepth 10000
set_option maxHeartbeats 2000000

/-- Can such a head not be laid? -/
def badH (h : IP) : Prop := h.tos < 0 ∨ 255 < h.tos ∨ h.proto < 0 ∨ 255 < h.proto ∨ h.id < 0 ∨ 65535 < h.id ∨ h.ttl < 1 ∨ 255 < h.ttl
instance (h : IP) : Decidable (badH h) := by unfold badH; infer_instance
def flagN (k : Bool) : Nat := if k then 16384 else 0
/-- A head's twenty bytes. -/
def headL (h : IP) (n sum : Nat) : List UInt8 := [69, UInt8.ofNat h.tos.toNat] ++ (be2 n ++ (be2 h.id.toNat ++ (be2 (flagN h.keep) ++ ([UInt8.ofNat h.ttl.toNat, UInt8.ofNat h.proto.toNat] ++ (be2 sum ++ (be4 h.src ++ be4 h.dst))))))
theorem isum_le (l : List UInt8) : isum l ≤ 65535 := by unfold isum; omega
theorem headL_len (h : IP) (n sum : Nat) : (headL h n sum).length = 20 := rfl
def encL (h : IP) (l : List UInt8) : List UInt8 := headL h (20 + l.length) (isum (headL h (20 + l.length) 0)) ++ l
theorem encL_len (h : IP) (l : List UInt8) : (encL h l).length = 20 + l.length := by simp [encL, headL_len]
def encE (h : IP) (l : List UInt8) : Int := if badH h then 1 else if 1480 < l.length then 2 else 0
def encR (h : IP) (l : List UInt8) : List UInt8 := if encE h l = 0 then encL h l else []
theorem encR_len (h : IP) (l : List UInt8) : (encR h l).length ≤ 1500 := by
  unfold encR
  split
  · next h0 =>
    unfold encE at h0
    rw [encL_len]
    split at h0
    · cases h0
    · split at h0
      · cases h0
      · omega
  · simp

theorem shr8i (x : Int) : x.fdiv (2 ^ min 8 64) = x / 256 := Int.fdiv_eq_ediv_of_nonneg _ (by decide)
theorem shr16i (x : Int) : x.fdiv (2 ^ min 16 64) = x / 65536 := Int.fdiv_eq_ediv_of_nonneg _ (by decide)

theorem encB_spec (h : IP) (x : SC) (hb : badH h) : Spec cx.P 11 [.agg (ipC h), .c x] [] fun t _ => t.plain = true ∧ t = .tup [(false, [noC]), (false, [i64 1])] := by
  obtain ⟨tos, id, ttl, proto, keep, src, dst⟩ := h
  simp only [badH] at hb
  by_cases h1 : tos / 256 = 0
  · have d1 : decide (tos / 256 = 0) = true := by simpa using h1
    by_cases h2 : proto / 256 = 0
    · have d2 : decide (proto / 256 = 0) = true := by simpa using h2
      by_cases h3 : id / 65536 = 0
      · have d3 : decide (id / 65536 = 0) = true := by simpa using h3
        by_cases h4 : ttl < 1
        · have d4 : decide (ttl < 1) = true := by simpa using h4
          refine spec_of_X cx_ok Try.func11 rfl (by kernel_rfl) (by kernel_rfl) (Nat.le_of_ble_eq_true rfl) 400 9 ?_
          simp (maxSteps := 4000000) only [Try.results11, XX, Nat.reduceBEq, Nat.reduceLT, Nat.reduceAdd, Nat.reduceMul, Nat.reduceSub, Nat.reduceLeDiff, Nat.reduceEqDiff, Int.reduceToNat, Int.reduceLT, Int.reduceLE, Int.reduceAdd, Int.reduceSub, Int.reduceEq, reduceIte, Nat.reduceBNe, Int.reducePow, Nat.reducePow, Int.reduceMul, Int.reduceNeg, isB_i, isB_b, isB_y, isBv_i, isBv_b, eqCells_t, TT]
          simp (maxSteps := 4000000) only [Try.results11, shr8i, shr16i, d1, d2, d3, d4, XX, Nat.reduceBEq, Nat.reduceLT, Nat.reduceAdd, Nat.reduceMul, Nat.reduceSub, Nat.reduceLeDiff, Nat.reduceEqDiff, Int.reduceToNat, Int.reduceLT, Int.reduceLE, Int.reduceAdd, Int.reduceSub, Int.reduceEq, reduceIte, Nat.reduceBNe, Int.reducePow, Nat.reducePow, Int.reduceMul, Int.reduceNeg, isB_i, isB_b, isB_y, isBv_i, isBv_b, eqCells_t, TT]
        · have d4 : decide (ttl < 1) = false := by simpa using h4
          have d5 : decide (255 < ttl) = true := by simp only [decide_eq_true_eq]; omega
          refine spec_of_X cx_ok Try.func11 rfl (by kernel_rfl) (by kernel_rfl) (Nat.le_of_ble_eq_true rfl) 400 9 ?_
          simp (maxSteps := 4000000) only [Try.results11, XX, Nat.reduceBEq, Nat.reduceLT, Nat.reduceAdd, Nat.reduceMul, Nat.reduceSub, Nat.reduceLeDiff, Nat.reduceEqDiff, Int.reduceToNat, Int.reduceLT, Int.reduceLE, Int.reduceAdd, Int.reduceSub, Int.reduceEq, reduceIte, Nat.reduceBNe, Int.reducePow, Nat.reducePow, Int.reduceMul, Int.reduceNeg, isB_i, isB_b, isB_y, isBv_i, isBv_b, eqCells_t, TT]
          simp (maxSteps := 4000000) only [Try.results11, shr8i, shr16i, d1, d2, d3, d4, d5, XX, Nat.reduceBEq, Nat.reduceLT, Nat.reduceAdd, Nat.reduceMul, Nat.reduceSub, Nat.reduceLeDiff, Nat.reduceEqDiff, Int.reduceToNat, Int.reduceLT, Int.reduceLE, Int.reduceAdd, Int.reduceSub, Int.reduceEq, reduceIte, Nat.reduceBNe, Int.reducePow, Nat.reducePow, Int.reduceMul, Int.reduceNeg, isB_i, isB_b, isB_y, isBv_i, isBv_b, eqCells_t, TT]
      · have d3 : decide (id / 65536 = 0) = false := by simpa using h3
        refine spec_of_X cx_ok Try.func11 rfl (by kernel_rfl) (by kernel_rfl) (Nat.le_of_ble_eq_true rfl) 400 9 ?_
        simp (maxSteps := 4000000) only [Try.results11, XX, Nat.reduceBEq, Nat.reduceLT, Nat.reduceAdd, Nat.reduceMul, Nat.reduceSub, Nat.reduceLeDiff, Nat.reduceEqDiff, Int.reduceToNat, Int.reduceLT, Int.reduceLE, Int.reduceAdd, Int.reduceSub, Int.reduceEq, reduceIte, Nat.reduceBNe, Int.reducePow, Nat.reducePow, Int.reduceMul, Int.reduceNeg, isB_i, isB_b, isB_y, isBv_i, isBv_b, eqCells_t, TT]
        simp (maxSteps := 4000000) only [Try.results11, shr8i, shr16i, d1, d2, d3, XX, Nat.reduceBEq, Nat.reduceLT, Nat.reduceAdd, Nat.reduceMul, Nat.reduceSub, Nat.reduceLeDiff, Nat.reduceEqDiff, Int.reduceToNat, Int.reduceLT, Int.reduceLE, Int.reduceAdd, Int.reduceSub, Int.reduceEq, reduceIte, Nat.reduceBNe, Int.reducePow, Nat.reducePow, Int.reduceMul, Int.reduceNeg, isB_i, isB_b, isB_y, isBv_i, isBv_b, eqCells_t, TT]
    · have d2 : decide (proto / 256 = 0) = false := by simpa using h2
      refine spec_of_X cx_ok Try.func11 rfl (by kernel_rfl) (by kernel_rfl) (Nat.le_of_ble_eq_true rfl) 400 9 ?_
      simp (maxSteps := 4000000) only [Try.results11, XX, Nat.reduceBEq, Nat.reduceLT, Nat.reduceAdd, Nat.reduceMul, Nat.reduceSub, Nat.reduceLeDiff, Nat.reduceEqDiff, Int.reduceToNat, Int.reduceLT, Int.reduceLE, Int.reduceAdd, Int.reduceSub, Int.reduceEq, reduceIte, Nat.reduceBNe, Int.reducePow, Nat.reducePow, Int.reduceMul, Int.reduceNeg, isB_i, isB_b, isB_y, isBv_i, isBv_b, eqCells_t, TT]
      simp (maxSteps := 4000000) only [Try.results11, shr8i, shr16i, d1, d2, XX, Nat.reduceBEq, Nat.reduceLT, Nat.reduceAdd, Nat.reduceMul, Nat.reduceSub, Nat.reduceLeDiff, Nat.reduceEqDiff, Int.reduceToNat, Int.reduceLT, Int.reduceLE, Int.reduceAdd, Int.reduceSub, Int.reduceEq, reduceIte, Nat.reduceBNe, Int.reducePow, Nat.reducePow, Int.reduceMul, Int.reduceNeg, isB_i, isB_b, isB_y, isBv_i, isBv_b, eqCells_t, TT]
  · have d1 : decide (tos / 256 = 0) = false := by simpa using h1
    refine spec_of_X cx_ok Try.func11 rfl (by kernel_rfl) (by kernel_rfl) (Nat.le_of_ble_eq_true rfl) 400 9 ?_
    simp (maxSteps := 4000000) only [Try.results11, XX, Nat.reduceBEq, Nat.reduceLT, Nat.reduceAdd, Nat.reduceMul, Nat.reduceSub, Nat.reduceLeDiff, Nat.reduceEqDiff, Int.reduceToNat, Int.reduceLT, Int.reduceLE, Int.reduceAdd, Int.reduceSub, Int.reduceEq, reduceIte, Nat.reduceBNe, Int.reducePow, Nat.reducePow, Int.reduceMul, Int.reduceNeg, isB_i, isB_b, isB_y, isBv_i, isBv_b, eqCells_t, TT]
    simp (maxSteps := 4000000) only [Try.results11, shr8i, shr16i, d1, XX, Nat.reduceBEq, Nat.reduceLT, Nat.reduceAdd, Nat.reduceMul, Nat.reduceSub, Nat.reduceLeDiff, Nat.reduceEqDiff, Int.reduceToNat, Int.reduceLT, Int.reduceLE, Int.reduceAdd, Int.reduceSub, Int.reduceEq, reduceIte, Nat.reduceBNe, Int.reducePow, Nat.reducePow, Int.reduceMul, Int.reduceNeg, isB_i, isB_b, isB_y, isBv_i, isBv_b, eqCells_t, TT]

/-- A head that can be laid has small numbers. -/
theorem good_of {h : IP} (hb : ¬ badH h) : ∃ t i u p : Nat, h.tos = t ∧ h.id = i ∧ h.ttl = u ∧ h.proto = p ∧ t < 256 ∧ i < 65536 ∧ 1 ≤ u ∧ u < 256 ∧ p < 256 := by
  unfold badH at hb
  exact ⟨h.tos.toNat, h.id.toNat, h.ttl.toNat, h.proto.toNat, by omega, by omega, by omega, by omega, by omega, by omega, by omega, by omega, by omega⟩
theorem zeros20 (n : Nat) : (List.replicate (20 + n) [SC.v (.int .u8 0)]).flatten = byteC 0 :: byteC 0 :: byteC 0 :: byteC 0 :: byteC 0 :: byteC 0 :: byteC 0 :: byteC 0 :: byteC 0 :: byteC 0 :: byteC 0 :: byteC 0 :: byteC 0 :: byteC 0 :: byteC 0 :: byteC 0 :: byteC 0 :: byteC 0 :: byteC 0 :: byteC 0 :: bsC (List.replicate n 0) := by
  rw [Nat.add_comm, zeros_flat]
  simp only [List.replicate_succ, bsC, List.map_cons]

theorem encLong_spec (h : IP) (l sp : List UInt8) (c : Nat) (hb : ¬ badH h) (hl : 1480 < l.length) (hl2 : l.length ≤ 140737488355328) : Spec cx.P 11 [.agg (ipC h), .c (roB l sp c)] [] fun t _ => t.plain = true ∧ t = .tup [(false, [noC]), (false, [i64 2])] := by
  obtain ⟨t, i, u, p, h1, h2, h3, h4, b1, b2, b3, b4, b5⟩ := good_of hb
  obtain ⟨tos, id, ttl, proto, keep, src, dst⟩ := h
  simp only at h1 h2 h3 h4
  subst h1; subst h2; subst h3; subst h4
  have d1 : decide ((t : Int) / 256 = 0) = true := by simp only [decide_eq_true_eq]; omega
  have d2 : decide ((p : Int) / 256 = 0) = true := by simp only [decide_eq_true_eq]; omega
  have d3 : decide ((i : Int) / 65536 = 0) = true := by simp only [decide_eq_true_eq]; omega
  have d4 : decide ((u : Int) < 1) = false := by simp only [decide_eq_false_iff_not]; omega
  have d5 : decide (255 < (u : Int)) = false := by simp only [decide_eq_false_iff_not]; omega
  have e1 : IntKind.i64.wrap (20 + (l.length : Int)) = ((20 + l.length : Nat) : Int) := by rw [w64] <;> omega
  have d6 : decide (1500 < ((20 + l.length : Nat) : Int)) = true := by simp only [decide_eq_true_eq]; omega
  refine spec_of_X cx_ok Try.func11 rfl (by kernel_rfl) (by kernel_rfl) (Nat.le_of_ble_eq_true rfl) 400 9 ?_
  simp (maxSteps := 4000000) only [Try.results11, XX, Nat.reduceBEq, Nat.reduceLT, Nat.reduceAdd, Nat.reduceMul, Nat.reduceSub, Nat.reduceLeDiff, Nat.reduceEqDiff, Int.reduceToNat, Int.reduceLT, Int.reduceLE, Int.reduceAdd, Int.reduceSub, Int.reduceEq, reduceIte, Nat.reduceBNe, Int.reducePow, Nat.reducePow, Int.reduceMul, Int.reduceNeg, isB_i, isB_b, isB_y, isBv_i, isBv_b, eqCells_t, TT]
  simp (maxSteps := 4000000) only [Try.results11, shr8i, shr16i, d1, d2, d3, d4, d5, e1, d6, XX, Nat.reduceBEq, Nat.reduceLT, Nat.reduceAdd, Nat.reduceMul, Nat.reduceSub, Nat.reduceLeDiff, Nat.reduceEqDiff, Int.reduceToNat, Int.reduceLT, Int.reduceLE, Int.reduceAdd, Int.reduceSub, Int.reduceEq, reduceIte, Nat.reduceBNe, Int.reducePow, Nat.reducePow, Int.reduceMul, Int.reduceNeg, isB_i, isB_b, isB_y, isBv_i, isBv_b, eqCells_t, TT]

theorem enc_spec (h : IP) (l sp : List UInt8) (c : Nat) (hb : ¬ badH h) (hsrc : h.src < 4294967296) (hdst : h.dst < 4294967296) (hl : l.length ≤ 1480) : Spec cx.P 11 [.agg (ipC h), .c (roB l sp c)] [] (resB (encL h l) 0) := by
  obtain ⟨t, i, u, p, h1, h2, h3, h4, b1, b2, b3, b4, b5⟩ := good_of hb
  obtain ⟨tos, id, ttl, proto, keep, src, dst⟩ := h
  simp only at h1 h2 h3 h4 hsrc hdst
  subst h1; subst h2; subst h3; subst h4
  refine resB_of ?_
  have d1 : decide ((t : Int) / 256 = 0) = true := by simp only [decide_eq_true_eq]; omega
  have d2 : decide ((p : Int) / 256 = 0) = true := by simp only [decide_eq_true_eq]; omega
  have d3 : decide ((i : Int) / 65536 = 0) = true := by simp only [decide_eq_true_eq]; omega
  have d4 : decide ((u : Int) < 1) = false := by simp only [decide_eq_false_iff_not]; omega
  have d5 : decide (255 < (u : Int)) = false := by simp only [decide_eq_false_iff_not]; omega
  have e1 : IntKind.i64.wrap (20 + (l.length : Int)) = ((20 + l.length : Nat) : Int) := by rw [w64] <;> omega
  have d6 : decide (1500 < ((20 + l.length : Nat) : Int)) = false := by simp only [decide_eq_false_iff_not]; omega
  have f1 : IntKind.u64.wrap 16384 = ((16384 : Nat) : Int) := rfl
  have f0 : IntKind.u64.wrap 0 = ((0 : Nat) : Int) := rfl
  have en : IntKind.u64.wrap ((20 + l.length : Nat) : Int) = ((20 + l.length : Nat) : Int) := by rw [wu64] <;> omega
  have ei : IntKind.u64.wrap (i : Int) = (i : Int) := by rw [wu64] <;> omega
  have es : IntKind.u64.wrap (src : Int) = (src : Int) := by rw [wu64] <;> omega
  have ed : IntKind.u64.wrap (dst : Int) = (dst : Int) := by rw [wu64] <;> omega
  have pn := put2_spec (20 + l.length) (by omega)
  have pi := put2_spec i (by omega)
  have ps := put4_spec src (by omega)
  have pd := put4_spec dst (by omega)
  have m2 : min 2 (20 + l.length - 2) = 2 := by omega
  have m4 : min 2 (20 + l.length - 4) = 2 := by omega
  have m6 : min 2 (20 + l.length - 6) = 2 := by omega
  have m12 : min 4 (20 + l.length - 12) = 4 := by omega
  have m16 : min 4 (20 + l.length - 16) = 4 := by omega
  have m10 : min 2 (20 + l.length - 10) = 2 := by omega
  refine spec_of_X cx_ok Try.func11 rfl (by kernel_rfl) (by kernel_rfl) (Nat.le_of_ble_eq_true rfl) 400 9 ?_
  simp (maxSteps := 4000000) only [Try.results11, XX, Nat.reduceBEq, Nat.reduceLT, Nat.reduceAdd, Nat.reduceMul, Nat.reduceSub, Nat.reduceLeDiff, Nat.reduceEqDiff, Int.reduceToNat, Int.reduceLT, Int.reduceLE, Int.reduceAdd, Int.reduceSub, Int.reduceEq, reduceIte, Nat.reduceBNe, Int.reducePow, Nat.reducePow, Int.reduceMul, Int.reduceNeg, isB_i, isB_b, isB_y, isBv_i, isBv_b, eqCells_t, TT]
  have p3 : ∀ k, Spec cx.P 20 [.c (.ro ([(headL ⟨t, i, u, p, k, src, dst⟩ (20 + l.length) 0, List.replicate l.length 0, 20 + l.length)].map partR ++ []) 1 1)] [] fun s _ => s.plain = true ∧ s = .c (u16 (isum (headL ⟨t, i, u, p, k, src, dst⟩ (20 + l.length) 0))) := fun k => by
    have := osum_spec [(headL ⟨t, i, u, p, k, src, dst⟩ (20 + l.length) 0, List.replicate l.length 0, 20 + l.length)] [] 1 (by simp) (by simp [bytesOf, headL_len])
    rwa [show bytesOf [(headL ⟨t, i, u, p, k, src, dst⟩ (20 + l.length) 0, List.replicate l.length 0, 20 + l.length)] = headL ⟨t, i, u, p, k, src, dst⟩ (20 + l.length) 0 by simp [bytesOf]] at this
  have m17 : min l.length (20 + l.length - 20) = l.length := by omega
  have k17 : (bsR (l ++ sp)).take l.length = bsR l := by rw [rs_take, List.take_left' rfl]
  cases keep
  · simp (maxSteps := 4000000) only [Try.results11, shr8i, shr16i, d1, d2, d3, d4, d5, e1, d6, zeros20, XX, Nat.reduceBEq, Nat.reduceLT, Nat.reduceAdd, Nat.reduceMul, Nat.reduceSub, Nat.reduceLeDiff, Nat.reduceEqDiff, Int.reduceToNat, Int.reduceLT, Int.reduceLE, Int.reduceAdd, Int.reduceSub, Int.reduceEq, reduceIte, Nat.reduceBNe, Int.reducePow, Nat.reducePow, Int.reduceMul, Int.reduceNeg, isB_i, isB_b, isB_y, isBv_i, isBv_b, eqCells_t, TT]
    refine ⟨⟨by omega, by omega, by omega, by omega⟩, ?_⟩
    refine draw_of cx_ok (by kernel_rfl) 400 [0] [(0, true), (1, true), (2, true), (3, true), (4, true), (5, true), (6, true), (7, true), (8, true), (9, true), (10, true), (11, true), (12, true), (13, true), (14, false), (15, true), (16, false), (17, true), (18, false), (19, true), (20, false)] (by kernel_rfl) rfl ?_
    simp (maxSteps := 4000000) only [Try.results11, byteC_n, bsC_len, List.length_replicate, XX, Nat.reduceBEq, Nat.reduceLT, Nat.reduceAdd, Nat.reduceMul, Nat.reduceSub, Nat.reduceLeDiff, Nat.reduceEqDiff, Int.reduceToNat, Int.reduceLT, Int.reduceLE, Int.reduceAdd, Int.reduceSub, Int.reduceEq, reduceIte, Nat.reduceBNe, Int.reducePow, Nat.reducePow, Int.reduceMul, Int.reduceNeg, isB_i, isB_b, isB_y, isBv_i, isBv_b, eqCells_t, TT]
    refine ⟨by omega, by omega, by omega, by omega, ?_⟩
    refine draw_of cx_ok (by kernel_rfl) 400 [0] [(0, true), (1, true), (2, true), (3, true), (4, false), (5, false)] (by kernel_rfl) rfl ?_
    simp (maxSteps := 4000000) only [Try.results11, en, XX, Nat.reduceBEq, Nat.reduceLT, Nat.reduceAdd, Nat.reduceMul, Nat.reduceSub, Nat.reduceLeDiff, Nat.reduceEqDiff, Int.reduceToNat, Int.reduceLT, Int.reduceLE, Int.reduceAdd, Int.reduceSub, Int.reduceEq, reduceIte, Nat.reduceBNe, Int.reducePow, Nat.reducePow, Int.reduceMul, Int.reduceNeg, isB_i, isB_b, isB_y, isBv_i, isBv_b, eqCells_t, TT]
    refine ⟨by omega, ?_⟩
    refine call_frame (pn) [] rfl rfl trivial rfl rfl ?_
    rintro _ _ ⟨rfl, rfl⟩
    simp (maxSteps := 4000000) only [Try.results11, ids_bsC, ren_bsC, noRo_bsC, plain_bsC, lt_bsC, ids_byte, ren_byte, noRo_byte, plain_byte, lt_byte, m2, bsC_len, List.length_replicate, List.map_cons, List.map_nil, XX, Nat.reduceBEq, Nat.reduceLT, Nat.reduceAdd, Nat.reduceMul, Nat.reduceSub, Nat.reduceLeDiff, Nat.reduceEqDiff, Int.reduceToNat, Int.reduceLT, Int.reduceLE, Int.reduceAdd, Int.reduceSub, Int.reduceEq, reduceIte, Nat.reduceBNe, Int.reducePow, Nat.reducePow, Int.reduceMul, Int.reduceNeg, isB_i, isB_b, isB_y, isBv_i, isBv_b, eqCells_t, TT]
    refine draw_of cx_ok (by kernel_rfl) 400 [0] [(0, true), (1, true), (2, true), (3, true), (4, true), (5, false), (6, false)] (by kernel_rfl) rfl ?_
    simp (maxSteps := 4000000) only [Try.results11, ei, XX, Nat.reduceBEq, Nat.reduceLT, Nat.reduceAdd, Nat.reduceMul, Nat.reduceSub, Nat.reduceLeDiff, Nat.reduceEqDiff, Int.reduceToNat, Int.reduceLT, Int.reduceLE, Int.reduceAdd, Int.reduceSub, Int.reduceEq, reduceIte, Nat.reduceBNe, Int.reducePow, Nat.reducePow, Int.reduceMul, Int.reduceNeg, isB_i, isB_b, isB_y, isBv_i, isBv_b, eqCells_t, TT]
    refine ⟨by omega, ?_⟩
    refine call_frame (pi) [] rfl rfl trivial rfl rfl ?_
    rintro _ _ ⟨rfl, rfl⟩
    simp (maxSteps := 4000000) only [Try.results11, ids_bsC, ren_bsC, noRo_bsC, plain_bsC, lt_bsC, ids_byte, ren_byte, noRo_byte, plain_byte, lt_byte, m4, bsC_len, List.length_replicate, List.map_cons, List.map_nil, XX, Nat.reduceBEq, Nat.reduceLT, Nat.reduceAdd, Nat.reduceMul, Nat.reduceSub, Nat.reduceLeDiff, Nat.reduceEqDiff, Int.reduceToNat, Int.reduceLT, Int.reduceLE, Int.reduceAdd, Int.reduceSub, Int.reduceEq, reduceIte, Nat.reduceBNe, Int.reducePow, Nat.reducePow, Int.reduceMul, Int.reduceNeg, isB_i, isB_b, isB_y, isBv_i, isBv_b, eqCells_t, TT]
    refine draw_of cx_ok (by kernel_rfl) 400 [0] [(0, true), (1, true), (2, true), (3, true), (4, false), (5, false)] (by kernel_rfl) rfl ?_
    simp (maxSteps := 4000000) only [Try.results11, f0, XX, Nat.reduceBEq, Nat.reduceLT, Nat.reduceAdd, Nat.reduceMul, Nat.reduceSub, Nat.reduceLeDiff, Nat.reduceEqDiff, Int.reduceToNat, Int.reduceLT, Int.reduceLE, Int.reduceAdd, Int.reduceSub, Int.reduceEq, reduceIte, Nat.reduceBNe, Int.reducePow, Nat.reducePow, Int.reduceMul, Int.reduceNeg, isB_i, isB_b, isB_y, isBv_i, isBv_b, eqCells_t, TT]
    refine ⟨by omega, ?_⟩
    refine call_frame (put2_spec 0 (by decide)) [] rfl rfl trivial rfl rfl ?_
    rintro _ _ ⟨rfl, rfl⟩
    simp (maxSteps := 4000000) only [Try.results11, ids_bsC, ren_bsC, noRo_bsC, plain_bsC, lt_bsC, ids_byte, ren_byte, noRo_byte, plain_byte, lt_byte, m6, bsC_len, List.length_replicate, List.map_cons, List.map_nil, XX, Nat.reduceBEq, Nat.reduceLT, Nat.reduceAdd, Nat.reduceMul, Nat.reduceSub, Nat.reduceLeDiff, Nat.reduceEqDiff, Int.reduceToNat, Int.reduceLT, Int.reduceLE, Int.reduceAdd, Int.reduceSub, Int.reduceEq, reduceIte, Nat.reduceBNe, Int.reducePow, Nat.reducePow, Int.reduceMul, Int.reduceNeg, isB_i, isB_b, isB_y, isBv_i, isBv_b, eqCells_t, TT]
    refine draw_of cx_ok (by kernel_rfl) 400 [0] [(0, true), (1, true), (2, true), (3, true), (4, true), (5, false), (6, false)] (by kernel_rfl) rfl ?_
    simp (maxSteps := 4000000) only [Try.results11, es, XX, Nat.reduceBEq, Nat.reduceLT, Nat.reduceAdd, Nat.reduceMul, Nat.reduceSub, Nat.reduceLeDiff, Nat.reduceEqDiff, Int.reduceToNat, Int.reduceLT, Int.reduceLE, Int.reduceAdd, Int.reduceSub, Int.reduceEq, reduceIte, Nat.reduceBNe, Int.reducePow, Nat.reducePow, Int.reduceMul, Int.reduceNeg, isB_i, isB_b, isB_y, isBv_i, isBv_b, eqCells_t, TT]
    refine ⟨by omega, ?_⟩
    refine call_frame (ps) [] rfl rfl trivial rfl rfl ?_
    rintro _ _ ⟨rfl, rfl⟩
    simp (maxSteps := 4000000) only [Try.results11, ids_bsC, ren_bsC, noRo_bsC, plain_bsC, lt_bsC, ids_byte, ren_byte, noRo_byte, plain_byte, lt_byte, m12, bsC_len, List.length_replicate, List.map_cons, List.map_nil, XX, Nat.reduceBEq, Nat.reduceLT, Nat.reduceAdd, Nat.reduceMul, Nat.reduceSub, Nat.reduceLeDiff, Nat.reduceEqDiff, Int.reduceToNat, Int.reduceLT, Int.reduceLE, Int.reduceAdd, Int.reduceSub, Int.reduceEq, reduceIte, Nat.reduceBNe, Int.reducePow, Nat.reducePow, Int.reduceMul, Int.reduceNeg, isB_i, isB_b, isB_y, isBv_i, isBv_b, eqCells_t, TT]
    refine draw_of cx_ok (by kernel_rfl) 400 [0] [(0, true), (1, true), (2, true), (3, true), (4, true), (5, false), (6, false)] (by kernel_rfl) rfl ?_
    simp (maxSteps := 4000000) only [Try.results11, ed, XX, Nat.reduceBEq, Nat.reduceLT, Nat.reduceAdd, Nat.reduceMul, Nat.reduceSub, Nat.reduceLeDiff, Nat.reduceEqDiff, Int.reduceToNat, Int.reduceLT, Int.reduceLE, Int.reduceAdd, Int.reduceSub, Int.reduceEq, reduceIte, Nat.reduceBNe, Int.reducePow, Nat.reducePow, Int.reduceMul, Int.reduceNeg, isB_i, isB_b, isB_y, isBv_i, isBv_b, eqCells_t, TT]
    refine ⟨by omega, ?_⟩
    refine call_frame (pd) [] rfl rfl trivial rfl rfl ?_
    rintro _ _ ⟨rfl, rfl⟩
    simp (maxSteps := 4000000) only [Try.results11, ids_bsC, ren_bsC, noRo_bsC, plain_bsC, lt_bsC, ids_byte, ren_byte, noRo_byte, plain_byte, lt_byte, m16, bsC_len, List.length_replicate, List.map_cons, List.map_nil, XX, Nat.reduceBEq, Nat.reduceLT, Nat.reduceAdd, Nat.reduceMul, Nat.reduceSub, Nat.reduceLeDiff, Nat.reduceEqDiff, Int.reduceToNat, Int.reduceLT, Int.reduceLE, Int.reduceAdd, Int.reduceSub, Int.reduceEq, reduceIte, Nat.reduceBNe, Int.reducePow, Nat.reducePow, Int.reduceMul, Int.reduceNeg, isB_i, isB_b, isB_y, isBv_i, isBv_b, eqCells_t, TT]
    refine draw_of cx_ok (by kernel_rfl) 400 [] [(0, true), (1, true), (2, true), (3, true), (4, false), (5, false), (6, true), (7, false), (8, false)] (by kernel_rfl) rfl ?_
    simp (maxSteps := 4000000) only [Try.results11, List.replicate_one, List.flatten_cons, List.flatten_nil, XX, Nat.reduceBEq, Nat.reduceLT, Nat.reduceAdd, Nat.reduceMul, Nat.reduceSub, Nat.reduceLeDiff, Nat.reduceEqDiff, Int.reduceToNat, Int.reduceLT, Int.reduceLE, Int.reduceAdd, Int.reduceSub, Int.reduceEq, reduceIte, Nat.reduceBNe, Int.reducePow, Nat.reducePow, Int.reduceMul, Int.reduceNeg, isB_i, isB_b, isB_y, isBv_i, isBv_b, eqCells_t, TT]
    refine ⟨by omega, by omega, ?_⟩
    refine call_pureF [.c (.ro ([(headL ⟨t, i, u, p, false, src, dst⟩ (20 + l.length) 0, List.replicate l.length 0, 20 + l.length)].map partR ++ []) 1 1)] (p3 false) ⟨fz_rows rfl rfl ⟨fr_win (i := 1) rfl rfl rfl rfl, trivial⟩, trivial⟩ ?_
    rintro _ rfl
    have hx := isum_le (headL ⟨t, i, u, p, false, src, dst⟩ (20 + l.length) 0)
    unfold encL
    generalize isum (headL ⟨t, i, u, p, false, src, dst⟩ (20 + l.length) 0) = x at hx ⊢
    have e2 : IntKind.u64.wrap (x : Int) = (x : Int) := by rw [wu64] <;> omega
    have p2 := put2_spec x (by omega)
    simp (maxSteps := 4000000) only [Try.results11, e2, XX, Nat.reduceBEq, Nat.reduceLT, Nat.reduceAdd, Nat.reduceMul, Nat.reduceSub, Nat.reduceLeDiff, Nat.reduceEqDiff, Int.reduceToNat, Int.reduceLT, Int.reduceLE, Int.reduceAdd, Int.reduceSub, Int.reduceEq, reduceIte, Nat.reduceBNe, Int.reducePow, Nat.reducePow, Int.reduceMul, Int.reduceNeg, isB_i, isB_b, isB_y, isBv_i, isBv_b, eqCells_t, TT]
    refine call_frame p2 [] rfl rfl trivial rfl rfl ?_
    rintro _ _ ⟨rfl, rfl⟩
    simp (maxSteps := 4000000) only [Try.results11, ids_bsC, ren_bsC, noRo_bsC, plain_bsC, lt_bsC, ids_byte, ren_byte, noRo_byte, plain_byte, lt_byte, m10, m17, k17, bsR_toSC, bsC_len, List.length_replicate, List.map_cons, List.map_nil, XX, Nat.reduceBEq, Nat.reduceLT, Nat.reduceAdd, Nat.reduceMul, Nat.reduceSub, Nat.reduceLeDiff, Nat.reduceEqDiff, Int.reduceToNat, Int.reduceLT, Int.reduceLE, Int.reduceAdd, Int.reduceSub, Int.reduceEq, reduceIte, Nat.reduceBNe, Int.reducePow, Nat.reducePow, Int.reduceMul, Int.reduceNeg, isB_i, isB_b, isB_y, isBv_i, isBv_b, eqCells_t, TT]
    refine ⟨by omega, ⟨by simp, by omega⟩, 1, [], true, ?_, ⟨?_, fun _ => rfl⟩⟩
    · simp only [slB, List.length_append, headL_len, List.length_nil, Nat.add_zero]
    · rw [show List.take l.length (bsC l) = bsC l from List.take_of_length_le (by simp), List.drop_of_length_le (by simp; omega), List.append_nil, List.append_nil]
      rfl
  · simp (maxSteps := 4000000) only [Try.results11, shr8i, shr16i, d1, d2, d3, d4, d5, e1, d6, zeros20, XX, Nat.reduceBEq, Nat.reduceLT, Nat.reduceAdd, Nat.reduceMul, Nat.reduceSub, Nat.reduceLeDiff, Nat.reduceEqDiff, Int.reduceToNat, Int.reduceLT, Int.reduceLE, Int.reduceAdd, Int.reduceSub, Int.reduceEq, reduceIte, Nat.reduceBNe, Int.reducePow, Nat.reducePow, Int.reduceMul, Int.reduceNeg, isB_i, isB_b, isB_y, isBv_i, isBv_b, eqCells_t, TT]
    refine ⟨⟨by omega, by omega, by omega, by omega⟩, ?_⟩
    refine draw_of cx_ok (by kernel_rfl) 400 [0] [(0, true), (1, true), (2, true), (3, true), (4, true), (5, true), (6, true), (7, true), (8, true), (9, true), (10, true), (11, true), (12, true), (13, true), (14, false), (15, true), (16, false), (17, true), (18, false), (19, true), (20, false)] (by kernel_rfl) rfl ?_
    simp (maxSteps := 4000000) only [Try.results11, byteC_n, bsC_len, List.length_replicate, XX, Nat.reduceBEq, Nat.reduceLT, Nat.reduceAdd, Nat.reduceMul, Nat.reduceSub, Nat.reduceLeDiff, Nat.reduceEqDiff, Int.reduceToNat, Int.reduceLT, Int.reduceLE, Int.reduceAdd, Int.reduceSub, Int.reduceEq, reduceIte, Nat.reduceBNe, Int.reducePow, Nat.reducePow, Int.reduceMul, Int.reduceNeg, isB_i, isB_b, isB_y, isBv_i, isBv_b, eqCells_t, TT]
    refine ⟨by omega, by omega, by omega, by omega, ?_⟩
    refine draw_of cx_ok (by kernel_rfl) 400 [0] [(0, true), (1, true), (2, true), (3, true), (4, false), (5, false)] (by kernel_rfl) rfl ?_
    simp (maxSteps := 4000000) only [Try.results11, en, XX, Nat.reduceBEq, Nat.reduceLT, Nat.reduceAdd, Nat.reduceMul, Nat.reduceSub, Nat.reduceLeDiff, Nat.reduceEqDiff, Int.reduceToNat, Int.reduceLT, Int.reduceLE, Int.reduceAdd, Int.reduceSub, Int.reduceEq, reduceIte, Nat.reduceBNe, Int.reducePow, Nat.reducePow, Int.reduceMul, Int.reduceNeg, isB_i, isB_b, isB_y, isBv_i, isBv_b, eqCells_t, TT]
    refine ⟨by omega, ?_⟩
    refine call_frame (pn) [] rfl rfl trivial rfl rfl ?_
    rintro _ _ ⟨rfl, rfl⟩
    simp (maxSteps := 4000000) only [Try.results11, ids_bsC, ren_bsC, noRo_bsC, plain_bsC, lt_bsC, ids_byte, ren_byte, noRo_byte, plain_byte, lt_byte, m2, bsC_len, List.length_replicate, List.map_cons, List.map_nil, XX, Nat.reduceBEq, Nat.reduceLT, Nat.reduceAdd, Nat.reduceMul, Nat.reduceSub, Nat.reduceLeDiff, Nat.reduceEqDiff, Int.reduceToNat, Int.reduceLT, Int.reduceLE, Int.reduceAdd, Int.reduceSub, Int.reduceEq, reduceIte, Nat.reduceBNe, Int.reducePow, Nat.reducePow, Int.reduceMul, Int.reduceNeg, isB_i, isB_b, isB_y, isBv_i, isBv_b, eqCells_t, TT]
    refine draw_of cx_ok (by kernel_rfl) 400 [0] [(0, true), (1, true), (2, true), (3, true), (4, true), (5, false), (6, false)] (by kernel_rfl) rfl ?_
    simp (maxSteps := 4000000) only [Try.results11, ei, XX, Nat.reduceBEq, Nat.reduceLT, Nat.reduceAdd, Nat.reduceMul, Nat.reduceSub, Nat.reduceLeDiff, Nat.reduceEqDiff, Int.reduceToNat, Int.reduceLT, Int.reduceLE, Int.reduceAdd, Int.reduceSub, Int.reduceEq, reduceIte, Nat.reduceBNe, Int.reducePow, Nat.reducePow, Int.reduceMul, Int.reduceNeg, isB_i, isB_b, isB_y, isBv_i, isBv_b, eqCells_t, TT]
    refine ⟨by omega, ?_⟩
    refine call_frame (pi) [] rfl rfl trivial rfl rfl ?_
    rintro _ _ ⟨rfl, rfl⟩
    simp (maxSteps := 4000000) only [Try.results11, ids_bsC, ren_bsC, noRo_bsC, plain_bsC, lt_bsC, ids_byte, ren_byte, noRo_byte, plain_byte, lt_byte, m4, bsC_len, List.length_replicate, List.map_cons, List.map_nil, XX, Nat.reduceBEq, Nat.reduceLT, Nat.reduceAdd, Nat.reduceMul, Nat.reduceSub, Nat.reduceLeDiff, Nat.reduceEqDiff, Int.reduceToNat, Int.reduceLT, Int.reduceLE, Int.reduceAdd, Int.reduceSub, Int.reduceEq, reduceIte, Nat.reduceBNe, Int.reducePow, Nat.reducePow, Int.reduceMul, Int.reduceNeg, isB_i, isB_b, isB_y, isBv_i, isBv_b, eqCells_t, TT]
    refine draw_of cx_ok (by kernel_rfl) 400 [0] [(0, true), (1, true), (2, true), (3, true), (4, false), (5, false)] (by kernel_rfl) rfl ?_
    simp (maxSteps := 4000000) only [Try.results11, f1, XX, Nat.reduceBEq, Nat.reduceLT, Nat.reduceAdd, Nat.reduceMul, Nat.reduceSub, Nat.reduceLeDiff, Nat.reduceEqDiff, Int.reduceToNat, Int.reduceLT, Int.reduceLE, Int.reduceAdd, Int.reduceSub, Int.reduceEq, reduceIte, Nat.reduceBNe, Int.reducePow, Nat.reducePow, Int.reduceMul, Int.reduceNeg, isB_i, isB_b, isB_y, isBv_i, isBv_b, eqCells_t, TT]
    refine ⟨by omega, ?_⟩
    refine call_frame (put2_spec 16384 (by decide)) [] rfl rfl trivial rfl rfl ?_
    rintro _ _ ⟨rfl, rfl⟩
    simp (maxSteps := 4000000) only [Try.results11, ids_bsC, ren_bsC, noRo_bsC, plain_bsC, lt_bsC, ids_byte, ren_byte, noRo_byte, plain_byte, lt_byte, m6, bsC_len, List.length_replicate, List.map_cons, List.map_nil, XX, Nat.reduceBEq, Nat.reduceLT, Nat.reduceAdd, Nat.reduceMul, Nat.reduceSub, Nat.reduceLeDiff, Nat.reduceEqDiff, Int.reduceToNat, Int.reduceLT, Int.reduceLE, Int.reduceAdd, Int.reduceSub, Int.reduceEq, reduceIte, Nat.reduceBNe, Int.reducePow, Nat.reducePow, Int.reduceMul, Int.reduceNeg, isB_i, isB_b, isB_y, isBv_i, isBv_b, eqCells_t, TT]
    refine draw_of cx_ok (by kernel_rfl) 400 [0] [(0, true), (1, true), (2, true), (3, true), (4, true), (5, false), (6, false)] (by kernel_rfl) rfl ?_
    simp (maxSteps := 4000000) only [Try.results11, es, XX, Nat.reduceBEq, Nat.reduceLT, Nat.reduceAdd, Nat.reduceMul, Nat.reduceSub, Nat.reduceLeDiff, Nat.reduceEqDiff, Int.reduceToNat, Int.reduceLT, Int.reduceLE, Int.reduceAdd, Int.reduceSub, Int.reduceEq, reduceIte, Nat.reduceBNe, Int.reducePow, Nat.reducePow, Int.reduceMul, Int.reduceNeg, isB_i, isB_b, isB_y, isBv_i, isBv_b, eqCells_t, TT]
    refine ⟨by omega, ?_⟩
    refine call_frame (ps) [] rfl rfl trivial rfl rfl ?_
    rintro _ _ ⟨rfl, rfl⟩
    simp (maxSteps := 4000000) only [Try.results11, ids_bsC, ren_bsC, noRo_bsC, plain_bsC, lt_bsC, ids_byte, ren_byte, noRo_byte, plain_byte, lt_byte, m12, bsC_len, List.length_replicate, List.map_cons, List.map_nil, XX, Nat.reduceBEq, Nat.reduceLT, Nat.reduceAdd, Nat.reduceMul, Nat.reduceSub, Nat.reduceLeDiff, Nat.reduceEqDiff, Int.reduceToNat, Int.reduceLT, Int.reduceLE, Int.reduceAdd, Int.reduceSub, Int.reduceEq, reduceIte, Nat.reduceBNe, Int.reducePow, Nat.reducePow, Int.reduceMul, Int.reduceNeg, isB_i, isB_b, isB_y, isBv_i, isBv_b, eqCells_t, TT]
    refine draw_of cx_ok (by kernel_rfl) 400 [0] [(0, true), (1, true), (2, true), (3, true), (4, true), (5, false), (6, false)] (by kernel_rfl) rfl ?_
    simp (maxSteps := 4000000) only [Try.results11, ed, XX, Nat.reduceBEq, Nat.reduceLT, Nat.reduceAdd, Nat.reduceMul, Nat.reduceSub, Nat.reduceLeDiff, Nat.reduceEqDiff, Int.reduceToNat, Int.reduceLT, Int.reduceLE, Int.reduceAdd, Int.reduceSub, Int.reduceEq, reduceIte, Nat.reduceBNe, Int.reducePow, Nat.reducePow, Int.reduceMul, Int.reduceNeg, isB_i, isB_b, isB_y, isBv_i, isBv_b, eqCells_t, TT]
    refine ⟨by omega, ?_⟩
    refine call_frame (pd) [] rfl rfl trivial rfl rfl ?_
    rintro _ _ ⟨rfl, rfl⟩
    simp (maxSteps := 4000000) only [Try.results11, ids_bsC, ren_bsC, noRo_bsC, plain_bsC, lt_bsC, ids_byte, ren_byte, noRo_byte, plain_byte, lt_byte, m16, bsC_len, List.length_replicate, List.map_cons, List.map_nil, XX, Nat.reduceBEq, Nat.reduceLT, Nat.reduceAdd, Nat.reduceMul, Nat.reduceSub, Nat.reduceLeDiff, Nat.reduceEqDiff, Int.reduceToNat, Int.reduceLT, Int.reduceLE, Int.reduceAdd, Int.reduceSub, Int.reduceEq, reduceIte, Nat.reduceBNe, Int.reducePow, Nat.reducePow, Int.reduceMul, Int.reduceNeg, isB_i, isB_b, isB_y, isBv_i, isBv_b, eqCells_t, TT]
    refine draw_of cx_ok (by kernel_rfl) 400 [] [(0, true), (1, true), (2, true), (3, true), (4, false), (5, false), (6, true), (7, false), (8, false)] (by kernel_rfl) rfl ?_
    simp (maxSteps := 4000000) only [Try.results11, List.replicate_one, List.flatten_cons, List.flatten_nil, XX, Nat.reduceBEq, Nat.reduceLT, Nat.reduceAdd, Nat.reduceMul, Nat.reduceSub, Nat.reduceLeDiff, Nat.reduceEqDiff, Int.reduceToNat, Int.reduceLT, Int.reduceLE, Int.reduceAdd, Int.reduceSub, Int.reduceEq, reduceIte, Nat.reduceBNe, Int.reducePow, Nat.reducePow, Int.reduceMul, Int.reduceNeg, isB_i, isB_b, isB_y, isBv_i, isBv_b, eqCells_t, TT]
    refine ⟨by omega, by omega, ?_⟩
    refine call_pureF [.c (.ro ([(headL ⟨t, i, u, p, true, src, dst⟩ (20 + l.length) 0, List.replicate l.length 0, 20 + l.length)].map partR ++ []) 1 1)] (p3 true) ⟨fz_rows rfl rfl ⟨fr_win (i := 1) rfl rfl rfl rfl, trivial⟩, trivial⟩ ?_
    rintro _ rfl
    have hx := isum_le (headL ⟨t, i, u, p, true, src, dst⟩ (20 + l.length) 0)
    unfold encL
    generalize isum (headL ⟨t, i, u, p, true, src, dst⟩ (20 + l.length) 0) = x at hx ⊢
    have e2 : IntKind.u64.wrap (x : Int) = (x : Int) := by rw [wu64] <;> omega
    have p2 := put2_spec x (by omega)
    simp (maxSteps := 4000000) only [Try.results11, e2, XX, Nat.reduceBEq, Nat.reduceLT, Nat.reduceAdd, Nat.reduceMul, Nat.reduceSub, Nat.reduceLeDiff, Nat.reduceEqDiff, Int.reduceToNat, Int.reduceLT, Int.reduceLE, Int.reduceAdd, Int.reduceSub, Int.reduceEq, reduceIte, Nat.reduceBNe, Int.reducePow, Nat.reducePow, Int.reduceMul, Int.reduceNeg, isB_i, isB_b, isB_y, isBv_i, isBv_b, eqCells_t, TT]
    refine call_frame p2 [] rfl rfl trivial rfl rfl ?_
    rintro _ _ ⟨rfl, rfl⟩
    simp (maxSteps := 4000000) only [Try.results11, ids_bsC, ren_bsC, noRo_bsC, plain_bsC, lt_bsC, ids_byte, ren_byte, noRo_byte, plain_byte, lt_byte, m10, m17, k17, bsR_toSC, bsC_len, List.length_replicate, List.map_cons, List.map_nil, XX, Nat.reduceBEq, Nat.reduceLT, Nat.reduceAdd, Nat.reduceMul, Nat.reduceSub, Nat.reduceLeDiff, Nat.reduceEqDiff, Int.reduceToNat, Int.reduceLT, Int.reduceLE, Int.reduceAdd, Int.reduceSub, Int.reduceEq, reduceIte, Nat.reduceBNe, Int.reducePow, Nat.reducePow, Int.reduceMul, Int.reduceNeg, isB_i, isB_b, isB_y, isBv_i, isBv_b, eqCells_t, TT]
    refine ⟨by omega, ⟨by simp, by omega⟩, 1, [], true, ?_, ⟨?_, fun _ => rfl⟩⟩
    · simp only [slB, List.length_append, headL_len, List.length_nil, Nat.add_zero]
    · rw [show List.take l.length (bsC l) = bsC l from List.take_of_length_le (by simp), List.drop_of_length_le (by simp; omega), List.append_nil, List.append_nil]
      rfl

end Go.Proofs.Ytipbnhgeanlkeaa.Sx
