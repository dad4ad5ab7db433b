/- The symbolic executor, at work: a bit that is turned is told by the sum. No condition. -/
import Derived.Test.YtipbnhgeanlkeaaSm
namespace Go.Proofs.Ytipbnhgeanlkeaa.Sx
open Go
set_option linter.unusedSimpArgs false
set_option linter.unusedVariables false

theorem xor_mod2 (a b : Nat) : (a ^^^ b) % 2 = (a + b) % 2 := by
  have h := Nat.xor_mod_two_eq_one (a := a) (b := b)
  by_cases h1 : a % 2 = 1 <;> by_cases h2 : b % 2 = 1 <;> simp only [h1, h2, iff_true, true_iff, iff_false, false_iff, not_true_eq_false, not_false_eq_true] at h <;> omega
theorem xor_two (n : Nat) : ∀ k : Nat, n ^^^ 2 ^ k = n + 2 ^ k ∨ (n ^^^ 2 ^ k) + 2 ^ k = n := by
  intro k
  induction k generalizing n with
  | zero =>
    have h1 := Nat.xor_div_two (a := n) (b := 1)
    have h2 := xor_mod2 n 1
    simp at h1
    rw [Nat.pow_zero]
    omega
  | succ k ih =>
    have h1 := Nat.xor_div_two (a := n) (b := 2 ^ (k + 1))
    have h2 := xor_mod2 n (2 ^ (k + 1))
    have h3 : 2 ^ (k + 1) = 2 * 2 ^ k := by rw [Nat.pow_succ, Nat.mul_comm]
    have h4 : 2 ^ (k + 1) / 2 = 2 ^ k := by omega
    rw [h4] at h1
    have := ih (n / 2)
    rw [← h1] at this
    omega

theorem fold_mod (u : Nat) : fold u % 65535 = u % 65535 := by
  unfold fold
  split <;> omega

theorem isum_ne {a b : List UInt8} (h : wsum 0 a % 65535 ≠ wsum 0 b % 65535) : isum a ≠ isum b := by
  have h1 := fold_le (wsum 0 a)
  have h2 := fold_le (wsum 0 b)
  have h3 := fold_mod (wsum 0 a)
  have h4 := fold_mod (wsum 0 b)
  unfold isum
  intro h5
  have : fold (wsum 0 a) = fold (wsum 0 b) := by omega
  rw [this] at h3
  omega

theorem wsum_set : ∀ (l : List UInt8) (k i : Nat) (x : UInt8), i < l.length → wsum k (l.set i x) + (if (k + i) % 2 = 0 then (l.getD i 0).toNat * 256 else (l.getD i 0).toNat) = wsum k l + (if (k + i) % 2 = 0 then x.toNat * 256 else x.toNat)
  | [], _, _, _, h => absurd h (by simp)
  | y :: l, k, 0, x, _ => by
    simp only [List.set_cons_zero, wsum, Nat.add_zero, List.getD_cons_zero]
    omega
  | y :: l, k, i + 1, x, h => by
    have := wsum_set l (k + 1) i x (by simpa using h)
    simp only [List.set_cons_succ, wsum, List.getD_cons_succ]
    rw [show k + 1 + i = k + (i + 1) by omega] at this
    omega

theorem pow_lt8 {j : Nat} (h : j < 8) : 0 < 2 ^ j ∧ 2 ^ j ≤ 128 := by
  match j, h with
  | 0, _ | 1, _ | 2, _ | 3, _ | 4, _ | 5, _ | 6, _ | 7, _ => decide

/-- One bit of one byte. -/
theorem isum_flip {l : List UInt8} {i j : Nat} {x : UInt8} (hi : i < l.length) (hj : j < 8) (hx : x.toNat = (l.getD i 0).toNat + 2 ^ j ∨ x.toNat + 2 ^ j = (l.getD i 0).toNat) : isum (l.set i x) ≠ isum l := by
  refine isum_ne ?_
  have h1 := wsum_set l 0 i x hi
  have h2 := pow_lt8 hj
  generalize 2 ^ j = p at hx h2
  rw [Nat.zero_add] at h1
  split at h1 <;> omega

theorem and_mask (bit : Int) (m : Nat) (hm : m < 9223372036854775808) : ∃ j : Nat, j ≤ m ∧ bitI .and .i64 bit (m : Int) = (j : Int) := by
  refine ⟨(BitVec.ofInt 64 bit).toNat &&& m, Nat.and_le_right, ?_⟩
  have h1 : (BitVec.ofInt 64 bit &&& BitVec.ofInt 64 (m : Int)).toNat = (BitVec.ofInt 64 bit).toNat &&& m := by
    rw [BitVec.toNat_and]
    congr 1
    rw [BitVec.toNat_ofInt]
    show ((m : Int) % ((2 ^ 64 : Nat) : Int)).toNat = m
    rw [← Int.natCast_emod, Int.toNat_natCast, Nat.mod_eq_of_lt (by omega)]
  show IntKind.i64.wrap ((BitVec.ofInt 64 bit &&& BitVec.ofInt 64 (m : Int)).toNat : Int) = _
  rw [h1]
  have : (BitVec.ofInt 64 bit).toNat &&& m ≤ m := Nat.and_le_right
  rw [w64] <;> omega

theorem xor_u8 {x y : Nat} (hx : x < 256) (hy : y < 256) : bitI .xor .u8 (x : Int) (y : Int) = ((x ^^^ y : Nat) : Int) := by
  have h1 : (BitVec.ofInt 8 (x : Int) ^^^ BitVec.ofInt 8 (y : Int)).toNat = x ^^^ y := by
    rw [BitVec.toNat_xor]
    congr 1
    · rw [BitVec.toNat_ofInt]
      show ((x : Int) % ((2 ^ 8 : Nat) : Int)).toNat = x
      rw [← Int.natCast_emod, Int.toNat_natCast, Nat.mod_eq_of_lt (by omega)]
    · rw [BitVec.toNat_ofInt]
      show ((y : Int) % ((2 ^ 8 : Nat) : Int)).toNat = y
      rw [← Int.natCast_emod, Int.toNat_natCast, Nat.mod_eq_of_lt (by omega)]
  show IntKind.u8.wrap ((BitVec.ofInt 8 (x : Int) ^^^ BitVec.ofInt 8 (y : Int)).toNat : Int) = _
  rw [h1]
  have h2 : x ^^^ y < 2 ^ 8 := Nat.xor_lt_two_pow (by omega) (by omega)
  rw [wu8] <;> omega

theorem xor_u32 {x y : Nat} (hx : x < 4294967296) (hy : y < 4294967296) : bitI .xor .u32 (x : Int) (y : Int) = ((x ^^^ y : Nat) : Int) ∧ x ^^^ y < 4294967296 := by
  have h2 : x ^^^ y < 2 ^ 32 := Nat.xor_lt_two_pow (by omega) (by omega)
  refine ⟨?_, by omega⟩
  have h1 : (BitVec.ofInt 32 (x : Int) ^^^ BitVec.ofInt 32 (y : Int)).toNat = x ^^^ y := by
    rw [BitVec.toNat_xor]
    congr 1
    · rw [BitVec.toNat_ofInt]
      show ((x : Int) % ((2 ^ 32 : Nat) : Int)).toNat = x
      rw [← Int.natCast_emod, Int.toNat_natCast, Nat.mod_eq_of_lt (by omega)]
    · rw [BitVec.toNat_ofInt]
      show ((y : Int) % ((2 ^ 32 : Nat) : Int)).toNat = y
      rw [← Int.natCast_emod, Int.toNat_natCast, Nat.mod_eq_of_lt (by omega)]
  show IntKind.u32.wrap ((BitVec.ofInt 32 (x : Int) ^^^ BitVec.ofInt 32 (y : Int)).toNat : Int) = _
  rw [h1]
  rw [wu32] <;> omega

/-- A byte of which one bit is turned. -/
theorem turned8 (a : UInt8) (bit : Int) : ∃ (x : UInt8) (j : Nat), j < 8 ∧ 0 ≤ bitI .and .i64 bit 7 ∧ SC.v (.int .u8 (bitI .xor .u8 (a.toNat : Int) (IntKind.u8.wrap (1 * 2 ^ min (bitI .and .i64 bit 7).toNat 8)))) = byteC x ∧ (x.toNat = a.toNat + 2 ^ j ∨ x.toNat + 2 ^ j = a.toNat) := by
  obtain ⟨j, hj, h⟩ := and_mask bit 7 (by omega)
  have h : bitI .and .i64 bit 7 = (j : Int) := h
  have ha := a.toNat_lt
  have hp := pow_lt8 (j := j) (by omega)
  have hx := xor_two a.toNat j
  have h2 : a.toNat ^^^ 2 ^ j < 2 ^ 8 := Nat.xor_lt_two_pow (by omega) (by omega)
  have hn : (UInt8.ofNat (a.toNat ^^^ 2 ^ j)).toNat = a.toNat ^^^ 2 ^ j := by rw [UInt8.toNat_ofNat']; omega
  refine ⟨UInt8.ofNat (a.toNat ^^^ 2 ^ j), j, by omega, by omega, ?_, by rw [hn]; exact hx⟩
  have e1 : IntKind.u8.wrap (1 * 2 ^ min (bitI .and .i64 bit 7).toNat 8) = ((2 ^ j : Nat) : Int) := by
    rw [h, Int.toNat_natCast, Nat.min_eq_left (by omega), Int.one_mul, show ((2 : Int) ^ j) = ((2 ^ j : Nat) : Int) by simp]
    rw [wu8] <;> omega
  rw [e1, xor_u8 (by omega) (by omega), byteC, hn]

theorem cells_set {L : List UInt8} {i : Nat} {x : UInt8} {z : List UInt8} (hi : i < L.length) : (bsC (L ++ z)).take i ++ [byteC x] ++ (bsC (L ++ z)).drop (i + 1) = bsC (L.set i x ++ z) := by
  rw [List.set_eq_take_append_cons_drop, if_pos hi, bs_take, bs_drop, List.take_append_of_le_length (by omega), List.drop_append_of_le_length (by omega), show [byteC x] = bsC [x] from rfl, bs_app, bs_app]
  simp

end Go.Proofs.Ytipbnhgeanlkeaa.Sx
