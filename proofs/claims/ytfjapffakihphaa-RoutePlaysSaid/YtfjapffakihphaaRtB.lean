/- The symbolic executor, at work: the net's functions, and the reference's. No condition. -/
import Derived.Test.YtfjapffakihphaaRtA
namespace Go.Proofs.Ytfjapffakihphaa.Sx
open Go
set_option linter.unusedSimpArgs false
set_option linter.unusedVariables false
set_option maxRecDepth 10000
set_option maxHeartbeats 1000000

def nAnd (a b : Int) : Int := bitI .and .u32 a b
def nOr (a b : Int) : Int := bitI .or .u32 a b

theorem bv_of (n : Int) (h0 : 0 ≤ n) (h1 : n < 4294967296) : ∃ x : BitVec 32, n = x.toNat ∧ BitVec.ofInt 32 n = x := by
  obtain ⟨m, rfl⟩ := Int.eq_ofNat_of_zero_le h0
  refine ⟨BitVec.ofNat 32 m, by simp; omega, ?_⟩
  apply BitVec.eq_of_toNat_eq
  rw [BitVec.toNat_ofInt]
  simp
  omega

theorem bitI_and_bv (x y : BitVec 32) : bitI .and .u32 x.toNat y.toNat = ((x &&& y).toNat : Int) := by
  show IntKind.u32.wrap ((BitVec.ofInt 32 (x.toNat : Int) &&& BitVec.ofInt 32 (y.toNat : Int)).toNat : Int) = _
  have e : ∀ z : BitVec 32, BitVec.ofInt 32 (z.toNat : Int) = z := fun z => by apply BitVec.eq_of_toNat_eq; rw [BitVec.toNat_ofInt]; simp; omega
  rw [e, e, wrap_u32]
  have := (x &&& y).isLt
  omega
theorem bitI_or_bv (x y : BitVec 32) : bitI .or .u32 x.toNat y.toNat = ((x ||| y).toNat : Int) := by
  show IntKind.u32.wrap ((BitVec.ofInt 32 (x.toNat : Int) ||| BitVec.ofInt 32 (y.toNat : Int)).toNat : Int) = _
  have e : ∀ z : BitVec 32, BitVec.ofInt 32 (z.toNat : Int) = z := fun z => by apply BitVec.eq_of_toNat_eq; rw [BitVec.toNat_ofInt]; simp; omega
  rw [e, e, wrap_u32]
  have := (x ||| y).isLt
  omega
theorem bitI_xor_bv (x y : BitVec 32) : bitI .xor .u32 x.toNat y.toNat = ((x ^^^ y).toNat : Int) := by
  show IntKind.u32.wrap ((BitVec.ofInt 32 (x.toNat : Int) ^^^ BitVec.ofInt 32 (y.toNat : Int)).toNat : Int) = _
  have e : ∀ z : BitVec 32, BitVec.ofInt 32 (z.toNat : Int) = z := fun z => by apply BitVec.eq_of_toNat_eq; rw [BitVec.toNat_ofInt]; simp; omega
  rw [e, e, wrap_u32]
  have := (x ^^^ y).isLt
  omega

theorem and_xor (a x m : Int) (a0 : 0 ≤ a) (a1 : a < 4294967296) (x0 : 0 ≤ x) (x1 : x < 4294967296) (m0 : 0 ≤ m) (m1 : m < 4294967296) :
    decide (bitI .and .u32 (bitI .xor .u32 a x) m = 0) = decide (nAnd a m = nAnd x m) := by
  obtain ⟨A, rfl, _⟩ := bv_of a a0 a1
  obtain ⟨X, rfl, _⟩ := bv_of x x0 x1
  obtain ⟨M, rfl, _⟩ := bv_of m m0 m1
  simp only [nAnd, bitI_xor_bv, bitI_and_bv]
  rw [decide_eq_decide]
  constructor
  · intro h
    have h1 : (A ^^^ X) &&& M = 0#32 := by apply BitVec.eq_of_toNat_eq; simpa using h
    have h2 : A &&& M = X &&& M := by
      ext i hi
      have := congrArg (fun z : BitVec 32 => z[i]) h1
      simp at this ⊢
      by_cases hm : M[i] = true
      · simp [hm] at this ⊢; exact this
      · simp [hm]
    rw [h2]
  · intro h
    have h1 : A &&& M = X &&& M := by apply BitVec.eq_of_toNat_eq; exact_mod_cast h
    have h2 : (A ^^^ X) &&& M = 0#32 := by
      ext i hi
      have := congrArg (fun z : BitVec 32 => z[i]) h1
      simp at this ⊢
      intro hx
      by_cases hm : M[i] = true
      · simp [hm] at this; exact absurd this hx
      · simpa using hm
    rw [h2]; rfl

def W (n : Int) : Prop := 0 ≤ n ∧ n < 4294967296

theorem nAnd_W (a b : Int) : W (nAnd a b) := by
  show W (IntKind.u32.wrap _)
  rw [wrap_u32]
  exact ⟨by omega, by omega⟩
theorem nOr_W (a b : Int) : W (nOr a b) := by
  show W (IntKind.u32.wrap _)
  rw [wrap_u32]
  exact ⟨by omega, by omega⟩

theorem has_spec {ip m r x : Int} (hip : W ip) (hm : W m) (hx : W x) :
    Spec cx.P 25 [.agg [i32 ip, i32 m, i32 r], .c (i32 x)] [] fun r _ => r.plain = true ∧ r = .c (bC (decide (nAnd ip m = nAnd x m))) := by
  refine spec_of_X cx_ok Try.func25 rfl (by kernel_rfl) (by kernel_rfl) (Nat.le_of_ble_eq_true rfl) 300 5 ?_
  simp (maxSteps := 4000000) only [Try.results25, XX, Nat.reduceBEq, Nat.reduceLT, Nat.reduceAdd, Nat.reduceMul, Nat.reduceSub, Nat.reduceLeDiff, Nat.reduceEqDiff, Int.reduceToNat, Int.reduceLT, Int.reduceLE, Int.reduceAdd, Int.reduceSub, Int.reduceEq, reduceIte, Nat.reduceBNe, Int.reducePow, Nat.reducePow, Int.reduceMul, Int.reduceNeg, TT]
  rw [and_xor ip x m hip.1 hip.2 hx.1 hx.2 hm.1 hm.2]

theorem ends_spec {ip m r : Int} (hm : W m) :
    Spec cx.P 32 [.agg [i32 ip, i32 m, i32 r]] [] fun s _ => s.plain = true ∧ s = .tup [(false, [i32 (nAnd ip m)]), (false, [i32 (nOr ip (4294967295 - m))]), (false, [bC (decide (ones m < 31))])] := by
  refine spec_of_X cx_ok Try.func32 rfl (by kernel_rfl) (by kernel_rfl) (Nat.le_of_ble_eq_true rfl) 300 5 ?_
  simp (maxSteps := 4000000) only [Try.results32, XX, Nat.reduceBEq, Nat.reduceLT, Nat.reduceAdd, Nat.reduceMul, Nat.reduceSub, Nat.reduceLeDiff, Nat.reduceEqDiff, Int.reduceToNat, Int.reduceLT, Int.reduceLE, Int.reduceAdd, Int.reduceSub, Int.reduceEq, reduceIte, Nat.reduceBNe, Int.reducePow, Nat.reducePow, Int.reduceMul, Int.reduceNeg, TT]
  refine draw_of cx_ok (by kernel_rfl) 300 [0] [(0, true), (1, true), (2, true), (3, true), (4, true), (5, true), (6, true), (7, true), (8, true), (9, true), (10, true), (11, true), (12, true), (13, false), (14, true), (15, true), (16, true), (17, true)] (by kernel_rfl) rfl ?_
  simp (maxSteps := 4000000) only [Try.results32, XX, Nat.reduceBEq, Nat.reduceLT, Nat.reduceAdd, Nat.reduceMul, Nat.reduceSub, Nat.reduceLeDiff, Nat.reduceEqDiff, Int.reduceToNat, Int.reduceLT, Int.reduceLE, Int.reduceAdd, Int.reduceSub, Int.reduceEq, reduceIte, Nat.reduceBNe, Int.reducePow, Nat.reducePow, Int.reduceMul, Int.reduceNeg, TT]
  refine call_plain (ones_spec m hm.1 hm.2) rfl ?_
  rintro _ rfl
  simp (maxSteps := 4000000) only [Try.results32, XX, Nat.reduceBEq, Nat.reduceLT, Nat.reduceAdd, Nat.reduceMul, Nat.reduceSub, Nat.reduceLeDiff, Nat.reduceEqDiff, Int.reduceToNat, Int.reduceLT, Int.reduceLE, Int.reduceAdd, Int.reduceSub, Int.reduceEq, reduceIte, Nat.reduceBNe, Int.reducePow, Nat.reducePow, Int.reduceMul, Int.reduceNeg, TT, bitI_not m hm.1 hm.2]
  rfl

def hostOf (ip m x : Int) : Bool := isHost x && decide (nAnd ip m = nAnd x m) && !(decide (ones m < 31) && (decide (x = nAnd ip m) || decide (x = nOr ip (4294967295 - m))))
def bcOf (ip m x : Int) : Bool := decide (ones m < 31) && decide (x = nOr ip (4294967295 - m))

theorem host_spec {ip m r x : Int} (hip : W ip) (hm : W m) (hx : W x) :
    Spec cx.P 23 [.agg [i32 ip, i32 m, i32 r], .c (i32 x)] [] fun s _ => s.plain = true ∧ s = .c (bC (hostOf ip m x)) := by
  refine spec_of_X cx_ok Try.func23 rfl (by kernel_rfl) (by kernel_rfl) (Nat.le_of_ble_eq_true rfl) 300 9 ?_
  simp (maxSteps := 4000000) only [Try.results23, XX, Nat.reduceBEq, Nat.reduceLT, Nat.reduceAdd, Nat.reduceMul, Nat.reduceSub, Nat.reduceLeDiff, Nat.reduceEqDiff, Int.reduceToNat, Int.reduceLT, Int.reduceLE, Int.reduceAdd, Int.reduceSub, Int.reduceEq, reduceIte, Nat.reduceBNe, Int.reducePow, Nat.reducePow, Int.reduceMul, Int.reduceNeg, TT]
  refine call_plain (ends_spec hm) rfl ?_
  rintro _ rfl
  simp (maxSteps := 4000000) only [Try.results23, XX, Nat.reduceBEq, Nat.reduceLT, Nat.reduceAdd, Nat.reduceMul, Nat.reduceSub, Nat.reduceLeDiff, Nat.reduceEqDiff, Int.reduceToNat, Int.reduceLT, Int.reduceLE, Int.reduceAdd, Int.reduceSub, Int.reduceEq, reduceIte, Nat.reduceBNe, Int.reducePow, Nat.reducePow, Int.reduceMul, Int.reduceNeg, TT]
  refine call_plain (isHost_spec x hx.1 hx.2) rfl ?_
  rintro _ rfl
  simp (maxSteps := 4000000) only [Try.results23, XX, Nat.reduceBEq, Nat.reduceLT, Nat.reduceAdd, Nat.reduceMul, Nat.reduceSub, Nat.reduceLeDiff, Nat.reduceEqDiff, Int.reduceToNat, Int.reduceLT, Int.reduceLE, Int.reduceAdd, Int.reduceSub, Int.reduceEq, reduceIte, Nat.reduceBNe, Int.reducePow, Nat.reducePow, Int.reduceMul, Int.reduceNeg, TT]
  refine ⟨fun hg => ?_, fun hg => ?_⟩ <;> simp (maxSteps := 4000000) only [Try.results23, hg, XX, Nat.reduceBEq, Nat.reduceLT, Nat.reduceAdd, Nat.reduceMul, Nat.reduceSub, Nat.reduceLeDiff, Nat.reduceEqDiff, Int.reduceToNat, Int.reduceLT, Int.reduceLE, Int.reduceAdd, Int.reduceSub, Int.reduceEq, reduceIte, Nat.reduceBNe, Int.reducePow, Nat.reducePow, Int.reduceMul, Int.reduceNeg, TT]
  · refine call_plain (has_spec hip hm hx) rfl ?_
    rintro _ rfl
    simp (maxSteps := 4000000) only [Try.results23, hg, XX, Nat.reduceBEq, Nat.reduceLT, Nat.reduceAdd, Nat.reduceMul, Nat.reduceSub, Nat.reduceLeDiff, Nat.reduceEqDiff, Int.reduceToNat, Int.reduceLT, Int.reduceLE, Int.reduceAdd, Int.reduceSub, Int.reduceEq, reduceIte, Nat.reduceBNe, Int.reducePow, Nat.reducePow, Int.reduceMul, Int.reduceNeg, TT]
    rw [hostOf, hg, Bool.true_and]
  · rw [hostOf, hg]
    rfl

theorem bc_spec {ip m r x : Int} (hm : W m) :
    Spec cx.P 24 [.agg [i32 ip, i32 m, i32 r], .c (i32 x)] [] fun s _ => s.plain = true ∧ s = .c (bC (bcOf ip m x)) := by
  refine spec_of_X cx_ok Try.func24 rfl (by kernel_rfl) (by kernel_rfl) (Nat.le_of_ble_eq_true rfl) 300 8 ?_
  simp (maxSteps := 4000000) only [Try.results24, XX, Nat.reduceBEq, Nat.reduceLT, Nat.reduceAdd, Nat.reduceMul, Nat.reduceSub, Nat.reduceLeDiff, Nat.reduceEqDiff, Int.reduceToNat, Int.reduceLT, Int.reduceLE, Int.reduceAdd, Int.reduceSub, Int.reduceEq, reduceIte, Nat.reduceBNe, Int.reducePow, Nat.reducePow, Int.reduceMul, Int.reduceNeg, TT]
  refine call_plain (ends_spec hm) rfl ?_
  rintro _ rfl
  simp (maxSteps := 4000000) only [Try.results24, XX, Nat.reduceBEq, Nat.reduceLT, Nat.reduceAdd, Nat.reduceMul, Nat.reduceSub, Nat.reduceLeDiff, Nat.reduceEqDiff, Int.reduceToNat, Int.reduceLT, Int.reduceLE, Int.reduceAdd, Int.reduceSub, Int.reduceEq, reduceIte, Nat.reduceBNe, Int.reducePow, Nat.reducePow, Int.reduceMul, Int.reduceNeg, TT]
  rfl

theorem refBc_spec {ip m : Int} (hm : W m) :
    Spec cx.P 29 [.c (i32 ip), .c (i32 m)] [] fun s _ => s.plain = true ∧ s = .tup [(false, [i32 (nOr ip (4294967295 - m))]), (false, [bC (decide (ones m < 31))])] := by
  refine spec_of_X cx_ok Try.func29 rfl (by kernel_rfl) (by kernel_rfl) (Nat.le_of_ble_eq_true rfl) 300 7 ?_
  simp (maxSteps := 4000000) only [Try.results29, XX, Nat.reduceBEq, Nat.reduceLT, Nat.reduceAdd, Nat.reduceMul, Nat.reduceSub, Nat.reduceLeDiff, Nat.reduceEqDiff, Int.reduceToNat, Int.reduceLT, Int.reduceLE, Int.reduceAdd, Int.reduceSub, Int.reduceEq, reduceIte, Nat.reduceBNe, Int.reducePow, Nat.reducePow, Int.reduceMul, Int.reduceNeg, TT]
  refine call_plain (refOnes_spec m hm.1 hm.2) rfl ?_
  rintro _ rfl
  simp (maxSteps := 4000000) only [Try.results29, XX, Nat.reduceBEq, Nat.reduceLT, Nat.reduceAdd, Nat.reduceMul, Nat.reduceSub, Nat.reduceLeDiff, Nat.reduceEqDiff, Int.reduceToNat, Int.reduceLT, Int.reduceLE, Int.reduceAdd, Int.reduceSub, Int.reduceEq, reduceIte, Nat.reduceBNe, Int.reducePow, Nat.reducePow, Int.reduceMul, Int.reduceNeg, TT, bitI_not m hm.1 hm.2]
  rfl

theorem refIn_spec {ip m x : Int} :
    Spec cx.P 30 [.c (i32 ip), .c (i32 m), .c (i32 x)] [] fun s _ => s.plain = true ∧ s = .c (bC (decide (nAnd ip m = nAnd x m))) := by
  refine spec_of_X cx_ok Try.func30 rfl (by kernel_rfl) (by kernel_rfl) (Nat.le_of_ble_eq_true rfl) 300 7 ?_
  simp (maxSteps := 4000000) only [Try.results30, XX, Nat.reduceBEq, Nat.reduceLT, Nat.reduceAdd, Nat.reduceMul, Nat.reduceSub, Nat.reduceLeDiff, Nat.reduceEqDiff, Int.reduceToNat, Int.reduceLT, Int.reduceLE, Int.reduceAdd, Int.reduceSub, Int.reduceEq, reduceIte, Nat.reduceBNe, Int.reducePow, Nat.reducePow, Int.reduceMul, Int.reduceNeg, TT]
  rfl

theorem refHost_spec {ip m x : Int} (hm : W m) (hx : W x) :
    Spec cx.P 28 [.c (i32 ip), .c (i32 m), .c (i32 x)] [] fun s _ => s.plain = true ∧ s = .c (bC (hostOf ip m x)) := by
  refine spec_of_X cx_ok Try.func28 rfl (by kernel_rfl) (by kernel_rfl) (Nat.le_of_ble_eq_true rfl) 300 11 ?_
  simp (maxSteps := 4000000) only [Try.results28, XX, Nat.reduceBEq, Nat.reduceLT, Nat.reduceAdd, Nat.reduceMul, Nat.reduceSub, Nat.reduceLeDiff, Nat.reduceEqDiff, Int.reduceToNat, Int.reduceLT, Int.reduceLE, Int.reduceAdd, Int.reduceSub, Int.reduceEq, reduceIte, Nat.reduceBNe, Int.reducePow, Nat.reducePow, Int.reduceMul, Int.reduceNeg, TT]
  refine call_plain (refIsHost_spec x hx.1 hx.2) rfl ?_
  rintro _ rfl
  simp (maxSteps := 4000000) only [Try.results28, XX, Nat.reduceBEq, Nat.reduceLT, Nat.reduceAdd, Nat.reduceMul, Nat.reduceSub, Nat.reduceLeDiff, Nat.reduceEqDiff, Int.reduceToNat, Int.reduceLT, Int.reduceLE, Int.reduceAdd, Int.reduceSub, Int.reduceEq, reduceIte, Nat.reduceBNe, Int.reducePow, Nat.reducePow, Int.reduceMul, Int.reduceNeg, TT]
  refine call_plain refIn_spec rfl ?_
  rintro _ rfl
  simp (maxSteps := 4000000) only [Try.results28, XX, Nat.reduceBEq, Nat.reduceLT, Nat.reduceAdd, Nat.reduceMul, Nat.reduceSub, Nat.reduceLeDiff, Nat.reduceEqDiff, Int.reduceToNat, Int.reduceLT, Int.reduceLE, Int.reduceAdd, Int.reduceSub, Int.reduceEq, reduceIte, Nat.reduceBNe, Int.reducePow, Nat.reducePow, Int.reduceMul, Int.reduceNeg, TT]
  refine call_plain (refBc_spec hm) rfl ?_
  rintro _ rfl
  simp (maxSteps := 4000000) only [Try.results28, XX, Nat.reduceBEq, Nat.reduceLT, Nat.reduceAdd, Nat.reduceMul, Nat.reduceSub, Nat.reduceLeDiff, Nat.reduceEqDiff, Int.reduceToNat, Int.reduceLT, Int.reduceLE, Int.reduceAdd, Int.reduceSub, Int.reduceEq, reduceIte, Nat.reduceBNe, Int.reducePow, Nat.reducePow, Int.reduceMul, Int.reduceNeg, TT]
  congr 3
  unfold hostOf
  rw [Bool.or_comm (decide (x = nAnd ip m))]
  rfl
end Go.Proofs.Ytfjapffakihphaa.Sx
