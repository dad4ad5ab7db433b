/- The symbolic executor, at work: package octet's functions of one number, and the reference's. No condition. -/
import Derived.Test.YtfjapffakihphaaSxOpen
import Derived.Laws.MathBits
namespace Go.Proofs.Ytfjapffakihphaa.Sx
open Go
set_option linter.unusedSimpArgs false
set_option linter.unusedVariables false
set_option maxRecDepth 10000
set_option maxHeartbeats 1000000

abbrev i32 (n : Int) : SC := .v (.int .u32 n)
abbrev i64 (n : Int) : SC := .v (.int .i64 n)
abbrev bC (b : Bool) : SC := .v (.bool b)

theorem wrap_u32 (x : Int) : IntKind.u32.wrap x = x % 4294967296 := by
  simp [IntKind.wrap, IntKind.bits, IntKind.signed]
theorem wrap_u8 (x : Int) : IntKind.u8.wrap x = x % 256 := by
  simp [IntKind.wrap, IntKind.bits, IntKind.signed]
theorem wrap_u16 (x : Int) : IntKind.u16.wrap x = x % 65536 := by
  simp [IntKind.wrap, IntKind.bits, IntKind.signed]
theorem wrap_u64 (x : Int) : IntKind.u64.wrap x = x % 18446744073709551616 := by
  simp [IntKind.wrap, IntKind.bits, IntKind.signed]
theorem wrap_i64 (x : Int) : IntKind.i64.wrap x = (x + 9223372036854775808) % 18446744073709551616 - 9223372036854775808 := by
  have : IntKind.i64.wrap x = if x % 18446744073709551616 ≥ 9223372036854775808 then x % 18446744073709551616 - 18446744073709551616 else x % 18446744073709551616 := by simp [IntKind.wrap, IntKind.bits, IntKind.signed]
  rw [this]
  split <;> omega

def isHost (n : Int) : Bool := decide (1 ≤ n / 16777216 ∧ n / 16777216 ≤ 223 ∧ n / 16777216 ≠ 127)

theorem isHost_spec (n : Int) (h0 : 0 ≤ n) (h1 : n < 4294967296) :
    Spec cx.P 21 [.c (i32 n)] [] fun r _ => r.plain = true ∧ r = .c (bC (isHost n)) := by
  refine spec_of_X cx_ok Try.func21 rfl (by kernel_rfl) (by kernel_rfl) (Nat.le_of_ble_eq_true rfl) 300 4 ?_
  simp (maxSteps := 4000000) only [Try.results21, XX, Nat.reduceBEq, Nat.reduceLT, Nat.reduceAdd, Nat.reduceMul, Nat.reduceSub, Nat.reduceLeDiff, Nat.reduceEqDiff, Int.reduceToNat, Int.reduceLT, Int.reduceLE, Int.reduceAdd, Int.reduceSub, Int.reduceEq, reduceIte, Nat.reduceBNe, Int.reducePow, Nat.reducePow, Int.reduceMul, Int.reduceNeg, TT]
  congr 3
  have e : n.fdiv (2 ^ min 24 32) = n / 16777216 := by rw [Int.fdiv_eq_ediv_of_nonneg _ (by decide)]; rfl
  rw [e, isHost, Bool.eq_iff_iff]
  simp
  omega
theorem refIsHost_spec (n : Int) (h0 : 0 ≤ n) (h1 : n < 4294967296) :
    Spec cx.P 26 [.c (i32 n)] [] fun r _ => r.plain = true ∧ r = .c (bC (isHost n)) := by
  refine spec_of_X cx_ok Try.func26 rfl (by kernel_rfl) (by kernel_rfl) (Nat.le_of_ble_eq_true rfl) 300 4 ?_
  simp (maxSteps := 4000000) only [Try.results26, XX, Nat.reduceBEq, Nat.reduceLT, Nat.reduceAdd, Nat.reduceMul, Nat.reduceSub, Nat.reduceLeDiff, Nat.reduceEqDiff, Int.reduceToNat, Int.reduceLT, Int.reduceLE, Int.reduceAdd, Int.reduceSub, Int.reduceEq, reduceIte, Nat.reduceBNe, Int.reducePow, Nat.reducePow, Int.reduceMul, Int.reduceNeg, TT]
  congr 3
  have e : IntKind.u32.wrap (n.tdiv 16777216) = n / 16777216 := by rw [Int.tdiv_eq_ediv_of_nonneg h0, wrap_u32]; omega
  rw [e, isHost, Bool.eq_iff_iff]
  simp
  omega
theorem len_tab (j : Nat) (h : j < 256) : ((([0, 1, 2, 2, 3, 3, 3, 3, 4, 4, 4, 4, 4, 4, 4, 4, 5, 5, 5, 5, 5, 5, 5, 5, 5, 5, 5, 5, 5, 5, 5, 5, 6, 6, 6, 6, 6, 6, 6, 6, 6, 6, 6, 6, 6, 6, 6, 6, 6, 6, 6, 6, 6, 6, 6, 6, 6, 6, 6, 6, 6, 6, 6, 6].append [7, 7, 7, 7, 7, 7, 7, 7, 7, 7, 7, 7, 7, 7, 7, 7, 7, 7, 7, 7, 7, 7, 7, 7, 7, 7, 7, 7, 7, 7, 7, 7, 7, 7, 7, 7, 7, 7, 7, 7, 7, 7, 7, 7, 7, 7, 7, 7, 7, 7, 7, 7, 7, 7, 7, 7, 7, 7, 7, 7, 7, 7, 7, 7]).append ([8, 8, 8, 8, 8, 8, 8, 8, 8, 8, 8, 8, 8, 8, 8, 8, 8, 8, 8, 8, 8, 8, 8, 8, 8, 8, 8, 8, 8, 8, 8, 8, 8, 8, 8, 8, 8, 8, 8, 8, 8, 8, 8, 8, 8, 8, 8, 8, 8, 8, 8, 8, 8, 8, 8, 8, 8, 8, 8, 8, 8, 8, 8, 8].append [8, 8, 8, 8, 8, 8, 8, 8, 8, 8, 8, 8, 8, 8, 8, 8, 8, 8, 8, 8, 8, 8, 8, 8, 8, 8, 8, 8, 8, 8, 8, 8, 8, 8, 8, 8, 8, 8, 8, 8, 8, 8, 8, 8, 8, 8, 8, 8, 8, 8, 8, 8, 8, 8, 8, 8, 8, 8, 8, 8, 8, 8, 8, 8]))).getD j 0 = UInt8.ofNat (bitLen j) := by
  have : ∀ j : Fin 256, ((([0, 1, 2, 2, 3, 3, 3, 3, 4, 4, 4, 4, 4, 4, 4, 4, 5, 5, 5, 5, 5, 5, 5, 5, 5, 5, 5, 5, 5, 5, 5, 5, 6, 6, 6, 6, 6, 6, 6, 6, 6, 6, 6, 6, 6, 6, 6, 6, 6, 6, 6, 6, 6, 6, 6, 6, 6, 6, 6, 6, 6, 6, 6, 6].append [7, 7, 7, 7, 7, 7, 7, 7, 7, 7, 7, 7, 7, 7, 7, 7, 7, 7, 7, 7, 7, 7, 7, 7, 7, 7, 7, 7, 7, 7, 7, 7, 7, 7, 7, 7, 7, 7, 7, 7, 7, 7, 7, 7, 7, 7, 7, 7, 7, 7, 7, 7, 7, 7, 7, 7, 7, 7, 7, 7, 7, 7, 7, 7]).append ([8, 8, 8, 8, 8, 8, 8, 8, 8, 8, 8, 8, 8, 8, 8, 8, 8, 8, 8, 8, 8, 8, 8, 8, 8, 8, 8, 8, 8, 8, 8, 8, 8, 8, 8, 8, 8, 8, 8, 8, 8, 8, 8, 8, 8, 8, 8, 8, 8, 8, 8, 8, 8, 8, 8, 8, 8, 8, 8, 8, 8, 8, 8, 8].append [8, 8, 8, 8, 8, 8, 8, 8, 8, 8, 8, 8, 8, 8, 8, 8, 8, 8, 8, 8, 8, 8, 8, 8, 8, 8, 8, 8, 8, 8, 8, 8, 8, 8, 8, 8, 8, 8, 8, 8, 8, 8, 8, 8, 8, 8, 8, 8, 8, 8, 8, 8, 8, 8, 8, 8, 8, 8, 8, 8, 8, 8, 8, 8]))).getD j.1 0 = UInt8.ofNat (bitLen j.1) := by decide +kernel
  exact this ⟨j, h⟩

theorem bitLen_of (x : Nat) (k i : Nat) (hk : x / 2 ^ k = i) (hi : i ≠ 0) : bitLen x = k + bitLen i := by
  subst hk
  exact bitLen_shift x k hi

theorem len32_spec (n : Int) (h0 : 0 ≤ n) (h1 : n < 4294967296) :
    Spec cx.P 35 [.c (i32 n)] [] fun r _ => r.plain = true ∧ r = .c (i64 (bitLen n.toNat)) := by
  have e16 : ∀ x : Int, x.fdiv (2 ^ min 16 32) = x / 65536 := fun x => by rw [Int.fdiv_eq_ediv_of_nonneg _ (by decide)]; rfl
  have e8 : ∀ x : Int, x.fdiv (2 ^ min 8 32) = x / 256 := fun x => by rw [Int.fdiv_eq_ediv_of_nonneg _ (by decide)]; rfl
  have tab : ∀ (j : Int), 0 ≤ j → j < 256 → ((([0, 1, 2, 2, 3, 3, 3, 3, 4, 4, 4, 4, 4, 4, 4, 4, 5, 5, 5, 5, 5, 5, 5, 5, 5, 5, 5, 5, 5, 5, 5, 5, 6, 6, 6, 6, 6, 6, 6, 6, 6, 6, 6, 6, 6, 6, 6, 6, 6, 6, 6, 6, 6, 6, 6, 6, 6, 6, 6, 6, 6, 6, 6, 6].append [7, 7, 7, 7, 7, 7, 7, 7, 7, 7, 7, 7, 7, 7, 7, 7, 7, 7, 7, 7, 7, 7, 7, 7, 7, 7, 7, 7, 7, 7, 7, 7, 7, 7, 7, 7, 7, 7, 7, 7, 7, 7, 7, 7, 7, 7, 7, 7, 7, 7, 7, 7, 7, 7, 7, 7, 7, 7, 7, 7, 7, 7, 7, 7]).append ([8, 8, 8, 8, 8, 8, 8, 8, 8, 8, 8, 8, 8, 8, 8, 8, 8, 8, 8, 8, 8, 8, 8, 8, 8, 8, 8, 8, 8, 8, 8, 8, 8, 8, 8, 8, 8, 8, 8, 8, 8, 8, 8, 8, 8, 8, 8, 8, 8, 8, 8, 8, 8, 8, 8, 8, 8, 8, 8, 8, 8, 8, 8, 8].append [8, 8, 8, 8, 8, 8, 8, 8, 8, 8, 8, 8, 8, 8, 8, 8, 8, 8, 8, 8, 8, 8, 8, 8, 8, 8, 8, 8, 8, 8, 8, 8, 8, 8, 8, 8, 8, 8, 8, 8, 8, 8, 8, 8, 8, 8, 8, 8, 8, 8, 8, 8, 8, 8, 8, 8, 8, 8, 8, 8, 8, 8, 8, 8]))).getD j.toNat 0 = UInt8.ofNat (bitLen j.toNat) := fun j a b => len_tab _ (by omega)
  have by8 : ∀ j : Int, 0 ≤ j → j < 256 → ((UInt8.ofNat (bitLen j.toNat)).toNat : Int) = bitLen j.toNat ∧ bitLen j.toNat ≤ 8 := fun j a b => by
    have := bitLen_le8 j.toNat (by omega)
    refine ⟨?_, this⟩
    simp
    omega
  have fin : ∀ (m : Int) (k : Nat), 0 ≤ m → m < 256 → bitLen n.toNat = k + bitLen m.toNat → k ≤ 24 → 
     IntKind.i64.wrap ((k : Int) + IntKind.i64.wrap ((UInt8.ofNat (bitLen m.toNat)).toNat : Int)) = (bitLen n.toNat : Int) := fun m k a b c d => by
    obtain ⟨q1, q2⟩ := by8 m a b
    rw [q1, wrap_i64, wrap_i64, c]
    omega
  refine spec_of_X cx_ok Try.func35 rfl (by kernel_rfl) (by kernel_rfl) (Nat.le_of_ble_eq_true rfl) 300 4 ?_
  simp (maxSteps := 4000000) only [Try.results35, XX, Nat.reduceBEq, Nat.reduceLT, Nat.reduceAdd, Nat.reduceMul, Nat.reduceSub, Nat.reduceLeDiff, Nat.reduceEqDiff, Int.reduceToNat, Int.reduceLT, Int.reduceLE, Int.reduceAdd, Int.reduceSub, Int.reduceEq, reduceIte, Nat.reduceBNe, Int.reducePow, Nat.reducePow, Int.reduceMul, Int.reduceNeg, TT]
  refine ⟨fun ha => ?_, fun ha => ?_⟩ <;> simp (maxSteps := 4000000) only [Try.results35, e16, XX, Nat.reduceBEq, Nat.reduceLT, Nat.reduceAdd, Nat.reduceMul, Nat.reduceSub, Nat.reduceLeDiff, Nat.reduceEqDiff, Int.reduceToNat, Int.reduceLT, Int.reduceLE, Int.reduceAdd, Int.reduceSub, Int.reduceEq, reduceIte, Nat.reduceBNe, Int.reducePow, Nat.reducePow, Int.reduceMul, Int.reduceNeg, TT] <;> refine ⟨fun hb => ?_, fun hb => ?_⟩ <;> simp (maxSteps := 4000000) only [Try.results35, e8, e16, XX, Nat.reduceBEq, Nat.reduceLT, Nat.reduceAdd, Nat.reduceMul, Nat.reduceSub, Nat.reduceLeDiff, Nat.reduceEqDiff, Int.reduceToNat, Int.reduceLT, Int.reduceLE, Int.reduceAdd, Int.reduceSub, Int.reduceEq, reduceIte, Nat.reduceBNe, Int.reducePow, Nat.reducePow, Int.reduceMul, Int.reduceNeg, TT] <;> simp only [decide_eq_true_eq, decide_eq_false_iff_not] at ha hb
  · have hm : IntKind.u8.wrap (n / 65536 / 256) = n / 65536 / 256 := by rw [wrap_u8]; omega
    rw [hm]
    rw [tab _ (by omega) (by omega)]
    refine ⟨⟨by omega, (show n / 65536 / 256 < 256 by omega)⟩, ?_⟩
    simp (maxSteps := 4000000) only [Try.results35, byteC, XX, Nat.reduceBEq, Nat.reduceLT, Nat.reduceAdd, Nat.reduceMul, Nat.reduceSub, Nat.reduceLeDiff, Nat.reduceEqDiff, Int.reduceToNat, Int.reduceLT, Int.reduceLE, Int.reduceAdd, Int.reduceSub, Int.reduceEq, reduceIte, Nat.reduceBNe, Int.reducePow, Nat.reducePow, Int.reduceMul, Int.reduceNeg, TT]
    have key := fin (n / 65536 / 256) 24 (by omega) (by omega) (bitLen_of _ 24 _ (by show n.toNat / 16777216 = _; omega) (by omega)) (by omega)
    have w24 : IntKind.i64.wrap 24 = 24 := by decide
    have w8 : IntKind.i64.wrap 8 = 8 := by decide
    try simp only [w24, w8]
    exact congrArg (fun x : Int => SV.c (i64 x)) key
  · have hm : IntKind.u8.wrap (n / 65536) = n / 65536 := by rw [wrap_u8]; omega
    rw [hm]
    rw [tab _ (by omega) (by omega)]
    refine ⟨⟨by omega, (show n / 65536 < 256 by omega)⟩, ?_⟩
    simp (maxSteps := 4000000) only [Try.results35, byteC, XX, Nat.reduceBEq, Nat.reduceLT, Nat.reduceAdd, Nat.reduceMul, Nat.reduceSub, Nat.reduceLeDiff, Nat.reduceEqDiff, Int.reduceToNat, Int.reduceLT, Int.reduceLE, Int.reduceAdd, Int.reduceSub, Int.reduceEq, reduceIte, Nat.reduceBNe, Int.reducePow, Nat.reducePow, Int.reduceMul, Int.reduceNeg, TT]
    have key := fin (n / 65536) 16 (by omega) (by omega) (bitLen_of _ 16 _ (by show n.toNat / 65536 = _; omega) (by omega)) (by omega)
    have w24 : IntKind.i64.wrap 24 = 24 := by decide
    have w8 : IntKind.i64.wrap 8 = 8 := by decide
    try simp only [w24, w8]
    exact congrArg (fun x : Int => SV.c (i64 x)) key
  · have hm : IntKind.u8.wrap (n / 256) = n / 256 := by rw [wrap_u8]; omega
    rw [hm]
    rw [tab _ (by omega) (by omega)]
    refine ⟨⟨by omega, (show n / 256 < 256 by omega)⟩, ?_⟩
    simp (maxSteps := 4000000) only [Try.results35, byteC, XX, Nat.reduceBEq, Nat.reduceLT, Nat.reduceAdd, Nat.reduceMul, Nat.reduceSub, Nat.reduceLeDiff, Nat.reduceEqDiff, Int.reduceToNat, Int.reduceLT, Int.reduceLE, Int.reduceAdd, Int.reduceSub, Int.reduceEq, reduceIte, Nat.reduceBNe, Int.reducePow, Nat.reducePow, Int.reduceMul, Int.reduceNeg, TT]
    have key := fin (n / 256) 8 (by omega) (by omega) (bitLen_of _ 8 _ (by show n.toNat / 256 = _; omega) (by omega)) (by omega)
    have w24 : IntKind.i64.wrap 24 = 24 := by decide
    have w8 : IntKind.i64.wrap 8 = 8 := by decide
    try simp only [w24, w8]
    exact congrArg (fun x : Int => SV.c (i64 x)) key
  · have hm : IntKind.u8.wrap (n) = n := by rw [wrap_u8]; omega
    rw [hm]
    rw [tab _ (by omega) (by omega)]
    refine ⟨⟨by omega, (show n < 256 by omega)⟩, ?_⟩
    simp (maxSteps := 4000000) only [Try.results35, byteC, XX, Nat.reduceBEq, Nat.reduceLT, Nat.reduceAdd, Nat.reduceMul, Nat.reduceSub, Nat.reduceLeDiff, Nat.reduceEqDiff, Int.reduceToNat, Int.reduceLT, Int.reduceLE, Int.reduceAdd, Int.reduceSub, Int.reduceEq, reduceIte, Nat.reduceBNe, Int.reducePow, Nat.reducePow, Int.reduceMul, Int.reduceNeg, TT]
    have key := fin (n) 0 (by omega) (by omega) (by omega) (by omega)
    have w24 : IntKind.i64.wrap 24 = 24 := by decide
    have w8 : IntKind.i64.wrap 8 = 8 := by decide
    try simp only [w24, w8]
    exact congrArg (fun x : Int => SV.c (i64 x)) key

theorem lz32_spec (n : Int) (h0 : 0 ≤ n) (h1 : n < 4294967296) :
    Spec cx.P 34 [.c (i32 n)] [] fun r _ => r.plain = true ∧ r = .c (i64 (32 - bitLen n.toNat)) := by
  refine spec_of_X cx_ok Try.func34 rfl (by kernel_rfl) (by kernel_rfl) (Nat.le_of_ble_eq_true rfl) 300 4 ?_
  simp (maxSteps := 4000000) only [Try.results34, XX, Nat.reduceBEq, Nat.reduceLT, Nat.reduceAdd, Nat.reduceMul, Nat.reduceSub, Nat.reduceLeDiff, Nat.reduceEqDiff, Int.reduceToNat, Int.reduceLT, Int.reduceLE, Int.reduceAdd, Int.reduceSub, Int.reduceEq, reduceIte, Nat.reduceBNe, Int.reducePow, Nat.reducePow, Int.reduceMul, Int.reduceNeg, TT]
  refine call_plain (len32_spec n h0 h1) rfl ?_
  rintro _ rfl
  simp (maxSteps := 4000000) only [Try.results34, XX, Nat.reduceBEq, Nat.reduceLT, Nat.reduceAdd, Nat.reduceMul, Nat.reduceSub, Nat.reduceLeDiff, Nat.reduceEqDiff, Int.reduceToNat, Int.reduceLT, Int.reduceLE, Int.reduceAdd, Int.reduceSub, Int.reduceEq, reduceIte, Nat.reduceBNe, Int.reducePow, Nat.reducePow, Int.reduceMul, Int.reduceNeg, TT]
  have hb : bitLen n.toNat ≤ 32 := by
    unfold bitLen
    split
    · omega
    · rename_i h
      have := (Nat.log2_lt h).2 (show n.toNat < 2 ^ 32 by omega)
      omega
  have e : IntKind.i64.wrap (32 - (bitLen n.toNat : Int)) = 32 - bitLen n.toNat := by rw [wrap_i64]; omega
  rw [e]

theorem bitLen_le32 {x : Nat} (hx : x < 4294967296) : bitLen x ≤ 32 := by
  unfold bitLen
  split
  · omega
  · rename_i h
    have := (Nat.log2_lt h).2 (show x < 2 ^ 32 by omega)
    omega

/-! ### Ones -/
def ones (m : Int) : Int := match (List.range 33).find? fun k => decide (m = 4294967296 - 2 ^ (32 - k)) with
  | some k => k
  | none => -1

theorem ones_pos {k : Nat} (hk : k ≤ 32) : ones (4294967296 - 2 ^ (32 - k)) = k := by
  have : ∀ k : Fin 33, ones (4294967296 - 2 ^ (32 - k.1)) = k.1 := by decide +kernel
  exact this ⟨k, by omega⟩

theorem ones_neg {m : Int} (h : ∀ k : Nat, k ≤ 32 → m ≠ 4294967296 - 2 ^ (32 - k)) : ones m = -1 := by
  unfold ones
  have : (List.range 33).find? (fun k => decide (m = 4294967296 - 2 ^ (32 - k))) = none := by
    rw [List.find?_eq_none]
    intro k hk
    simp only [List.mem_range] at hk
    simpa using h k (by omega)
  rw [this]

theorem bitLen_pow {j : Nat} (hj : j ≤ 32) : bitLen (2 ^ j - 1) = j := by
  have : ∀ j : Fin 33, bitLen (2 ^ j.1 - 1) = j.1 := by decide +kernel
  exact this ⟨j, by omega⟩

theorem ones_lz {m : Nat} (hm : m < 4294967296) : (if bitLen (4294967295 - m) = 0 then (32 : Int) else if m * 2 ^ (32 - bitLen (4294967295 - m)) % 4294967296 ≠ 0 then -1 else 32 - bitLen (4294967295 - m)) = ones m := by
  generalize hz : 4294967295 - m = z
  obtain ⟨b1, b2⟩ := bitLen_spec z
  have b3 : bitLen z = 0 → z = 0 := fun h => by rw [h] at b1; omega
  have b4 : bitLen z ≤ 32 := by
    unfold bitLen
    split
    · omega
    · rename_i h
      have := (Nat.log2_lt h).2 (show z < 2 ^ 32 by omega)
      omega
  have key : ∀ k : Nat, k ≤ 32 → (m : Int) = 4294967296 - 2 ^ (32 - k) → bitLen z = 32 - k := fun k hk e => by
    have hp : 0 < 2 ^ (32 - k) := Nat.two_pow_pos _
    have : z = 2 ^ (32 - k) - 1 := by
      have : (m : Int) = 4294967296 - ((2 ^ (32 - k) : Nat) : Int) := by rw [e]; simp
      omega
    rw [this, bitLen_pow (by omega)]
  generalize hL : bitLen z = L at *
  by_cases h0 : L = 0
  · rw [if_pos h0]
    have hz0 := b3 h0
    have : (m : Int) = 4294967296 - 2 ^ (32 - 32) := by simp; omega
    rw [this, ones_pos (k := 32) (by omega)]
    rfl
  · rw [if_neg h0]
    have hzz : z ≠ 0 := fun h => h0 (by rw [← hL, h]; rfl)
    have b2 := b2 hzz
    have hp : 2 ^ L * 2 ^ (32 - L) = 4294967296 := by rw [← Nat.pow_add, show L + (32 - L) = 32 by omega]
    have hq : 0 < 2 ^ (32 - L) := Nat.two_pow_pos _
    have hmod : m * 2 ^ (32 - L) % 4294967296 = (m % 2 ^ L) * 2 ^ (32 - L) := by rw [← hp, Nat.mul_mod_mul_right]
    rw [hmod]
    by_cases hd : m % 2 ^ L = 0
    · rw [if_neg (by rw [hd]; simp)]
      have : z + 1 = 2 ^ L := by
        obtain ⟨c, hc⟩ := Nat.dvd_of_mod_eq_zero hd
        have h5 : z + 1 = 2 ^ L * (2 ^ (32 - L) - c) := by
          rw [Nat.mul_sub, hp, ← hc]; omega
        have h6 : 0 < 2 ^ (32 - L) - c := by
          rcases Nat.eq_zero_or_pos (2 ^ (32 - L) - c) with h | h
          · rw [h] at h5; omega
          · exact h
        have h7 : 2 ^ L * (2 ^ (32 - L) - c) ≤ 2 ^ L * 1 := by omega
        have h8 : 2 ^ (32 - L) - c = 1 := by
          have := Nat.le_of_mul_le_mul_left h7 (Nat.two_pow_pos L)
          omega
        rw [h5, h8]; simp
      have h9 : (m : Int) = 4294967296 - 2 ^ (32 - (32 - L)) := by
        rw [show 32 - (32 - L) = L by omega]
        have : ((2 ^ L : Nat) : Int) = 2 ^ L := by simp
        omega
      rw [h9, ones_pos (by omega)]
      omega
    · rw [if_pos (by have := Nat.pos_of_ne_zero hd; have := Nat.mul_pos this hq; omega)]
      refine (ones_neg fun k hk e => hd ?_).symm
      have h1 := key k hk e
      have h2 : 32 - k = L := h1.symm
      rw [h2] at e
      have h3 : ((2 ^ L : Nat) : Int) = 2 ^ L := by simp
      have h4 : m = 2 ^ L * (2 ^ (32 - L) - 1) := by
        rw [Nat.mul_sub, hp, Nat.mul_one]
        omega
      rw [h4]
      exact Nat.mul_mod_right _ _

theorem bitI_not (n : Int) (h0 : 0 ≤ n) (h1 : n < 4294967296) : bitI .xor .u32 (if IntKind.u32.signed then -1 else IntKind.u32.max) n = 4294967295 - n := by
  obtain ⟨m, rfl⟩ := Int.eq_ofNat_of_zero_le h0
  have e : (if IntKind.u32.signed then (-1 : Int) else IntKind.u32.max) = 4294967295 := by decide
  rw [e]
  have e2 : (BitVec.ofInt 32 4294967295 ^^^ BitVec.ofInt 32 (m : Int)).toNat = 4294967295 - m := by
    have : BitVec.ofInt 32 4294967295 = BitVec.allOnes 32 := by decide
    rw [this, BitVec.allOnes_xor, BitVec.toNat_not]
    have : (BitVec.ofInt 32 (m : Int)).toNat = m := by rw [BitVec.toNat_ofInt]; simp; omega
    rw [this]
  show IntKind.u32.wrap ((BitVec.ofInt 32 4294967295 ^^^ BitVec.ofInt 32 (m : Int)).toNat : Int) = _
  rw [e2, wrap_u32]
  omega

theorem ones_spec (m : Int) (h0 : 0 ≤ m) (h1 : m < 4294967296) :
    Spec cx.P 31 [.c (i32 m)] [] fun r _ => r.plain = true ∧ r = .c (i64 (ones m)) := by
  obtain ⟨k, rfl⟩ := Int.eq_ofNat_of_zero_le h0
  refine spec_of_X cx_ok Try.func31 rfl (by kernel_rfl) (by kernel_rfl) (Nat.le_of_ble_eq_true rfl) 300 4 ?_
  simp (maxSteps := 4000000) only [Try.results31, XX, Nat.reduceBEq, Nat.reduceLT, Nat.reduceAdd, Nat.reduceMul, Nat.reduceSub, Nat.reduceLeDiff, Nat.reduceEqDiff, Int.reduceToNat, Int.reduceLT, Int.reduceLE, Int.reduceAdd, Int.reduceSub, Int.reduceEq, reduceIte, Nat.reduceBNe, Int.reducePow, Nat.reducePow, Int.reduceMul, Int.reduceNeg, TT]
  rw [bitI_not _ h0 h1]
  refine call_plain (lz32_spec (4294967295 - k) (by omega) (by omega)) rfl ?_
  rintro _ rfl
  have e : (4294967295 - (k : Int)).toNat = 4294967295 - k := by omega
  rw [e]
  have key := ones_lz (m := k) (by omega)
  have hb : bitLen (4294967295 - k) ≤ 32 := bitLen_le32 (by omega)
  simp (maxSteps := 4000000) only [Try.results31, XX, Nat.reduceBEq, Nat.reduceLT, Nat.reduceAdd, Nat.reduceMul, Nat.reduceSub, Nat.reduceLeDiff, Nat.reduceEqDiff, Int.reduceToNat, Int.reduceLT, Int.reduceLE, Int.reduceAdd, Int.reduceSub, Int.reduceEq, reduceIte, Nat.reduceBNe, Int.reducePow, Nat.reducePow, Int.reduceMul, Int.reduceNeg, TT]
  generalize bitLen (4294967295 - k) = L at *
  have e2 : IntKind.u32.wrap ((k : Int) * 2 ^ min ((32 : Int) - L).toNat 32) = ((k * 2 ^ (32 - L) % 4294967296 : Nat) : Int) := by
    rw [wrap_u32, show min ((32 : Int) - L).toNat 32 = 32 - L by omega]; simp
  rw [e2]
  refine ⟨by omega, fun hb => ?_, fun hb => ?_⟩ <;> simp (maxSteps := 4000000) only [Try.results31, XX, Nat.reduceBEq, Nat.reduceLT, Nat.reduceAdd, Nat.reduceMul, Nat.reduceSub, Nat.reduceLeDiff, Nat.reduceEqDiff, Int.reduceToNat, Int.reduceLT, Int.reduceLE, Int.reduceAdd, Int.reduceSub, Int.reduceEq, reduceIte, Nat.reduceBNe, Int.reducePow, Nat.reducePow, Int.reduceMul, Int.reduceNeg, TT] <;> rw [← key]
  · simp only [Bool.and_eq_true, decide_eq_true_eq, Bool.not_eq_true', decide_eq_false_iff_not] at hb
    rw [if_neg (by omega), if_pos (by omega)]
  · by_cases hL : L = 0
    · subst hL; rfl
    · rw [if_neg hL, if_neg]
      intro h
      have : (decide ((32 : Int) - L < 32) && !decide (((k * 2 ^ (32 - L) % 4294967296 : Nat) : Int) = 0)) = true := by
        simp only [Bool.and_eq_true, decide_eq_true_eq, Bool.not_eq_true', decide_eq_false_iff_not]
        omega
      rw [this] at hb
      cases hb

theorem isMask_spec (m : Int) (h0 : 0 ≤ m) (h1 : m < 4294967296) :
    Spec cx.P 22 [.c (i32 m)] [] fun r _ => r.plain = true ∧ r = .c (bC (decide (0 ≤ ones m))) := by
  refine spec_of_X cx_ok Try.func22 rfl (by kernel_rfl) (by kernel_rfl) (Nat.le_of_ble_eq_true rfl) 300 3 ?_
  simp (maxSteps := 4000000) only [Try.results22, XX, Nat.reduceBEq, Nat.reduceLT, Nat.reduceAdd, Nat.reduceMul, Nat.reduceSub, Nat.reduceLeDiff, Nat.reduceEqDiff, Int.reduceToNat, Int.reduceLT, Int.reduceLE, Int.reduceAdd, Int.reduceSub, Int.reduceEq, reduceIte, Nat.reduceBNe, Int.reducePow, Nat.reducePow, Int.reduceMul, Int.reduceNeg, TT]
  refine call_plain (ones_spec m h0 h1) rfl ?_
  rintro _ rfl
  simp (maxSteps := 4000000) only [Try.results22, XX, Nat.reduceBEq, Nat.reduceLT, Nat.reduceAdd, Nat.reduceMul, Nat.reduceSub, Nat.reduceLeDiff, Nat.reduceEqDiff, Int.reduceToNat, Int.reduceLT, Int.reduceLE, Int.reduceAdd, Int.reduceSub, Int.reduceEq, reduceIte, Nat.reduceBNe, Int.reducePow, Nat.reducePow, Int.reduceMul, Int.reduceNeg, TT]

/-! ### The reference's Ones: a loop over the bits -/
theorem refOnes_spec (m : Int) (h0 : 0 ≤ m) (h1 : m < 4294967296) :
    Spec cx.P 33 [.c (i32 m)] [] fun r _ => r.plain = true ∧ r = .c (i64 (ones m)) := by
  obtain ⟨k, rfl⟩ := Int.eq_ofNat_of_zero_le h0
  refine spec_of_X cx_ok Try.func33 rfl (by kernel_rfl) (by kernel_rfl) (Nat.le_of_ble_eq_true rfl) 300 5 ?_
  simp (maxSteps := 4000000) only [Try.results33, XX, Nat.reduceBEq, Nat.reduceLT, Nat.reduceAdd, Nat.reduceMul, Nat.reduceSub, Nat.reduceLeDiff, Nat.reduceEqDiff, Int.reduceToNat, Int.reduceLT, Int.reduceLE, Int.reduceAdd, Int.reduceSub, Int.reduceEq, reduceIte, Nat.reduceBNe, Int.reducePow, Nat.reducePow, Int.reduceMul, Int.reduceNeg, TT]
  refine loop_of cx_ok 300 (fun μ σ => ∃ i n : Nat, μ = 32 - i ∧ n ≤ i ∧ i ≤ 32 ∧ k / 2 ^ (32 - i) = 2 ^ i - 2 ^ (i - n) ∧ σ = ⟨⟨5, 0⟩, [(0, .c (i32 k)), (2, .c (i64 0)), (3, .c (i64 n)), (4, .c (i64 i))], []⟩) 32 _ ⟨0, 0, rfl, by omega, by omega, by simp; omega, rfl⟩ [] ⟨rfl, rfl, trivial, by simp [XX, Nat.reduceBEq, Nat.reduceLT, Nat.reduceAdd, Nat.reduceMul, Nat.reduceSub, Nat.reduceLeDiff, Nat.reduceEqDiff, Int.reduceToNat, Int.reduceLT, Int.reduceLE, Int.reduceAdd, Int.reduceSub, Int.reduceEq, reduceIte, Nat.reduceBNe, Int.reducePow, Nat.reducePow, Int.reduceMul, Int.reduceNeg, TT]⟩ ?_
  rintro μ σ ⟨i, n, rfl, hn, hi, hP, rfl⟩
  simp (maxSteps := 4000000) only [Try.results33, XX, Nat.reduceBEq, Nat.reduceLT, Nat.reduceAdd, Nat.reduceMul, Nat.reduceSub, Nat.reduceLeDiff, Nat.reduceEqDiff, Int.reduceToNat, Int.reduceLT, Int.reduceLE, Int.reduceAdd, Int.reduceSub, Int.reduceEq, reduceIte, Nat.reduceBNe, Int.reducePow, Nat.reducePow, Int.reduceMul, Int.reduceNeg, TT]
  refine ⟨fun hlt => ?_, fun hge => ?_⟩ <;> simp (maxSteps := 4000000) only [Try.results33, XX, Nat.reduceBEq, Nat.reduceLT, Nat.reduceAdd, Nat.reduceMul, Nat.reduceSub, Nat.reduceLeDiff, Nat.reduceEqDiff, Int.reduceToNat, Int.reduceLT, Int.reduceLE, Int.reduceAdd, Int.reduceSub, Int.reduceEq, reduceIte, Nat.reduceBNe, Int.reducePow, Nat.reducePow, Int.reduceMul, Int.reduceNeg, TT] <;> simp only [decide_eq_true_eq, decide_eq_false_iff_not] at *
  · have hi' : i < 32 := by omega
    have e1 : IntKind.u64.wrap (IntKind.i64.wrap (31 - (i : Int))) = ((31 - i : Nat) : Int) := by rw [wrap_u64, wrap_i64]; omega
    have e2 : min ((31 - i : Nat) : Int).toNat 32 = 31 - i := by omega
    have e3 : ((k : Int).fdiv (2 ^ (31 - i))).tmod 2 = ((k / 2 ^ (31 - i) % 2 : Nat) : Int) := by
      have : ((2 : Int) ^ (31 - i)) = ((2 ^ (31 - i) : Nat) : Int) := by simp
      rw [this, Int.fdiv_eq_ediv_of_nonneg _ (Int.natCast_nonneg _)]
      rw [Int.tmod_eq_emod_of_nonneg (Int.ediv_nonneg (Int.natCast_nonneg _) (Int.natCast_nonneg _))]
      simp
    simp only [e1, e2, e3]
    have e4 : k / 2 ^ (31 - i) = 2 * (k / 2 ^ (32 - i)) + k / 2 ^ (31 - i) % 2 := by
      have : k / 2 ^ (32 - i) = k / 2 ^ (31 - i) / 2 := by
        rw [Nat.div_div_eq_div_mul, ← Nat.pow_succ]
        congr 2
        omega
      omega
    have e5 : 2 ^ (i - n) ≤ 2 ^ i := Nat.pow_le_pow_right (by omega) (by omega)
    refine ⟨by omega, fun hb => ?_, fun hb => ?_⟩ <;> simp (maxSteps := 4000000) only [Try.results33, XX, Nat.reduceBEq, Nat.reduceLT, Nat.reduceAdd, Nat.reduceMul, Nat.reduceSub, Nat.reduceLeDiff, Nat.reduceEqDiff, Int.reduceToNat, Int.reduceLT, Int.reduceLE, Int.reduceAdd, Int.reduceSub, Int.reduceEq, reduceIte, Nat.reduceBNe, Int.reducePow, Nat.reducePow, Int.reduceMul, Int.reduceNeg, TT] <;> simp only [decide_eq_true_eq, decide_eq_false_iff_not] at hb
    · refine ⟨fun hc => ?_, fun hc => ?_⟩ <;> simp (maxSteps := 4000000) only [Try.results33, XX, Nat.reduceBEq, Nat.reduceLT, Nat.reduceAdd, Nat.reduceMul, Nat.reduceSub, Nat.reduceLeDiff, Nat.reduceEqDiff, Int.reduceToNat, Int.reduceLT, Int.reduceLE, Int.reduceAdd, Int.reduceSub, Int.reduceEq, reduceIte, Nat.reduceBNe, Int.reducePow, Nat.reducePow, Int.reduceMul, Int.reduceNeg, TT] <;> simp only [decide_eq_true_eq, decide_eq_false_iff_not] at hc
      · rw [ones_neg]
        intro q hq e
        have hp : 0 < 2 ^ (31 - i) := Nat.two_pow_pos _
        -- the bits above are ones, then zeros
        by_cases hqi : q ≤ i
        · have e6 : k = 2 ^ (31 - i) * (2 * (2 ^ i - 2 ^ (i - q))) := by
            have a1 : 2 ^ (31 - i) * (2 * 2 ^ i) = 4294967296 := by
              rw [← Nat.pow_succ', ← Nat.pow_add, show 31 - i + (i + 1) = 32 by omega]
            have a2 : 2 ^ (31 - i) * (2 * 2 ^ (i - q)) = 2 ^ (32 - q) := by
              rw [← Nat.pow_succ', ← Nat.pow_add, show 31 - i + (i - q + 1) = 32 - q by omega]
            rw [Nat.mul_sub, Nat.mul_sub, a1, a2]
            have : ((2 ^ (32 - q) : Nat) : Int) = 2 ^ (32 - q) := by simp
            omega
          have e7 : k / 2 ^ (31 - i) = 2 * (2 ^ i - 2 ^ (i - q)) := by
            conv => lhs; rw [e6]
            exact Nat.mul_div_cancel_left _ hp
          omega
        · have a1 : 2 ^ (31 - i) * 2 ^ (i + 1) = 4294967296 := by rw [← Nat.pow_add, show 31 - i + (i + 1) = 32 by omega]
          have a2 : 2 ^ (32 - q) ≤ 2 ^ (31 - i) := Nat.pow_le_pow_right (by omega) (by omega)
          have a4 : 0 < 2 ^ (32 - q) := Nat.two_pow_pos _
          have a3 : k / 2 ^ (31 - i) = 2 ^ (i + 1) - 1 := by
            have : ((2 ^ (32 - q) : Nat) : Int) = 2 ^ (32 - q) := by simp
            have e8 : k = 4294967296 - 2 ^ (32 - q) := by omega
            have hu : 2 ^ (31 - i) * (2 ^ (i + 1) - 1) = 4294967296 - 2 ^ (31 - i) := by rw [Nat.mul_sub, a1, Nat.mul_one]
            refine Nat.div_eq_of_lt_le ?_ ?_
            · rw [Nat.mul_comm, hu]; omega
            · rw [Nat.sub_add_cancel (Nat.two_pow_pos _), Nat.mul_comm, a1]; omega
          have a5 : 2 ^ (i + 1) = 2 * 2 ^ i := Nat.pow_succ'
          have a6 : 2 ^ (i - n) = 1 := by omega
          have : i - n = 0 := by
            rcases Nat.eq_zero_or_pos (i - n) with h | h
            · exact h
            · have := Nat.pow_le_pow_right (show 0 < 2 by omega) h
              omega
          omega
      · have hni : n = i := by omega
        subst hni
        have w1 : IntKind.i64.wrap ((n : Int) + 1) = ((n + 1 : Nat) : Int) := by rw [wrap_i64]; omega
        simp only [w1]
        refine ⟨32 - (n + 1), by omega, _, ⟨n + 1, n + 1, rfl, by omega, by omega, ?_, rfl⟩, [], ⟨rfl, rfl, trivial, by simp [XX, Nat.reduceBEq, Nat.reduceLT, Nat.reduceAdd, Nat.reduceMul, Nat.reduceSub, Nat.reduceLeDiff, Nat.reduceEqDiff, Int.reduceToNat, Int.reduceLT, Int.reduceLE, Int.reduceAdd, Int.reduceSub, Int.reduceEq, reduceIte, Nat.reduceBNe, Int.reducePow, Nat.reducePow, Int.reduceMul, Int.reduceNeg, TT]⟩⟩
        have : 32 - (n + 1) = 31 - n := by omega
        rw [this, Nat.pow_succ']
        have hz : 2 ^ (n - n) = 1 := by simp
        have hz2 : 2 ^ (n + 1 - (n + 1)) = 1 := by simp
        omega
    · have w1 : IntKind.i64.wrap ((i : Int) + 1) = ((i + 1 : Nat) : Int) := by rw [wrap_i64]; omega
      simp only [w1]
      refine ⟨32 - (i + 1), by omega, _, ⟨i + 1, n, rfl, by omega, by omega, ?_, rfl⟩, [], ⟨rfl, rfl, trivial, by simp [XX, Nat.reduceBEq, Nat.reduceLT, Nat.reduceAdd, Nat.reduceMul, Nat.reduceSub, Nat.reduceLeDiff, Nat.reduceEqDiff, Int.reduceToNat, Int.reduceLT, Int.reduceLE, Int.reduceAdd, Int.reduceSub, Int.reduceEq, reduceIte, Nat.reduceBNe, Int.reducePow, Nat.reducePow, Int.reduceMul, Int.reduceNeg, TT]⟩⟩
      have e6 : 32 - (i + 1) = 31 - i := by omega
      have e7 : 2 ^ (i + 1 - n) = 2 * 2 ^ (i - n) := by rw [show i + 1 - n = i - n + 1 by omega, Nat.pow_succ']
      rw [e6, e7, Nat.pow_succ']
      omega
  · have : i = 32 := by omega
    subst this
    have e5 : 2 ^ (32 - n) ≤ 2 ^ 32 := Nat.pow_le_pow_right (by omega) (by omega)
    have : (k : Int) = 4294967296 - 2 ^ (32 - n) := by
      have : ((2 ^ (32 - n) : Nat) : Int) = 2 ^ (32 - n) := by simp
      simp at hP
      omega
    rw [this, ones_pos hn]

theorem refIsMask_spec (m : Int) (h0 : 0 ≤ m) (h1 : m < 4294967296) :
    Spec cx.P 27 [.c (i32 m)] [] fun r _ => r.plain = true ∧ r = .c (bC (decide (0 ≤ ones m))) := by
  refine spec_of_X cx_ok Try.func27 rfl (by kernel_rfl) (by kernel_rfl) (Nat.le_of_ble_eq_true rfl) 300 4 ?_
  simp (maxSteps := 4000000) only [Try.results27, XX, Nat.reduceBEq, Nat.reduceLT, Nat.reduceAdd, Nat.reduceMul, Nat.reduceSub, Nat.reduceLeDiff, Nat.reduceEqDiff, Int.reduceToNat, Int.reduceLT, Int.reduceLE, Int.reduceAdd, Int.reduceSub, Int.reduceEq, reduceIte, Nat.reduceBNe, Int.reducePow, Nat.reducePow, Int.reduceMul, Int.reduceNeg, TT]
  refine call_plain (refOnes_spec m h0 h1) rfl ?_
  rintro _ rfl
  simp (maxSteps := 4000000) only [Try.results27, XX, Nat.reduceBEq, Nat.reduceLT, Nat.reduceAdd, Nat.reduceMul, Nat.reduceSub, Nat.reduceLeDiff, Nat.reduceEqDiff, Int.reduceToNat, Int.reduceLT, Int.reduceLE, Int.reduceAdd, Int.reduceSub, Int.reduceEq, reduceIte, Nat.reduceBNe, Int.reducePow, Nat.reducePow, Int.reduceMul, Int.reduceNeg, TT]


end Go.Proofs.Ytfjapffakihphaa.Sx
