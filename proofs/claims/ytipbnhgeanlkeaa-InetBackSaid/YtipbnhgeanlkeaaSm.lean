/- The symbolic executor, at work: sums. No condition. -/
import Derived.Test.YtipbnhgeanlkeaaHp
import Derived.Test.YtipbnhgeanlkeaaBf
namespace Go.Proofs.Ytipbnhgeanlkeaa.Sx
open Go
set_option linter.unusedSimpArgs false
set_option linter.unusedVariables false
set_option maxRecDepth 10000
set_option maxHeartbeats 1000000

abbrev u16 (n : Int) : SC := .v (.int .u16 n)

/-- A number whose higher words were added to the lowest one. -/
def fold (u : Nat) : Nat := if u = 0 then 0 else (u - 1) % 65535 + 1
theorem fold_step {u : Nat} (h : 65535 < u) : fold (u % 65536 + u / 65536) = fold u := by
  unfold fold
  rw [if_neg (by omega), if_neg (by omega)]
  omega
theorem fold_small {u : Nat} (h : u ≤ 65535) : fold u = u := by
  unfold fold
  split <;> omega
theorem fold_le (u : Nat) : fold u ≤ 65535 := by
  unfold fold
  split <;> omega
theorem fold_add (a b : Nat) : fold (fold a + b) = fold (a + b) := by
  unfold fold
  split <;> split <;> split <;> omega

/-- What bytes weigh: the first of a pair 256 times as much. -/
def wsum (k : Nat) : List UInt8 → Nat
  | [] => 0
  | x :: l => (if k % 2 = 0 then x.toNat * 256 else x.toNat) + wsum (k + 1) l
theorem wsum_app : ∀ (k : Nat) (a b : List UInt8), wsum k (a ++ b) = wsum k a + wsum (k + a.length) b
  | k, [], b => by simp [wsum]
  | k, x :: a, b => by
    simp only [List.cons_append, wsum, wsum_app (k + 1) a b, List.length_cons]
    rw [show k + 1 + a.length = k + (a.length + 1) by omega]
    omega
theorem wsum_le : ∀ (k : Nat) (l : List UInt8), wsum k l ≤ 65280 * l.length
  | _, [] => Nat.le_refl _
  | k, x :: l => by
    have := wsum_le (k + 1) l
    have := x.toNat_lt
    simp only [wsum, List.length_cons]
    split <;> omega
theorem wsum_next (k : Nat) (l : List UInt8) (j : Nat) (h : j < l.length) : wsum k (l.take (j + 1)) = wsum k (l.take j) + (if (k + j) % 2 = 0 then (l.getD j 0).toNat * 256 else (l.getD j 0).toNat) := by
  rw [← take_next l j h, wsum_app, List.length_take, Nat.min_eq_left (by omega)]
  simp [wsum]
/-- The internet's sum. -/
def isum (l : List UInt8) : Nat := 65535 - fold (wsum 0 l)

theorem tmod65536 (n : Nat) : (n : Int).tmod 65536 = ((n % 65536 : Nat) : Int) := rfl
theorem tdiv65536 (n : Nat) : (n : Int).tdiv 65536 = ((n / 65536 : Nat) : Int) := rfl
theorem and65535 (n : Nat) (h : n < 18446744073709551616) : bitI .and .u64 (n : Int) 65535 = ((n % 65536 : Nat) : Int) := by
  have := and_u64 (x := n) (y := 65535) h (by omega)
  rw [show (65535 : Int) = ((65535 : Nat) : Int) from rfl, this]
  congr 1
  exact Nat.and_two_pow_sub_one_eq_mod n 16

theorem folded_spec (u : Nat) (hu : u < 18446744073709551616) : Spec cx.P 30 [.c (u64 u)] [] fun s _ => s.plain = true ∧ s = .c (u16 (fold u)) := by
  refine spec_of_X cx_ok Try.func30 rfl (by kernel_rfl) (by kernel_rfl) (Nat.le_of_ble_eq_true rfl) 400 3 ?_
  simp (maxSteps := 4000000) only [Try.results30, XX, Nat.reduceBEq, Nat.reduceLT, Nat.reduceAdd, Nat.reduceMul, Nat.reduceSub, Nat.reduceLeDiff, Nat.reduceEqDiff, Int.reduceToNat, Int.reduceLT, Int.reduceLE, Int.reduceAdd, Int.reduceSub, Int.reduceEq, reduceIte, Nat.reduceBNe, Int.reducePow, Nat.reducePow, Int.reduceMul, Int.reduceNeg, isB_i, isB_b, isB_y, isBv_i, isBv_b, eqCells_t, TT]
  refine loop_any cx_ok 400 (fun μ σ => ∃ v : Nat, μ = v ∧ v ≤ u ∧ fold v = fold u ∧ σ = ⟨⟨3, 0⟩, [(0, .c (u64 v))], []⟩) u ⟨⟨3, 0⟩, [(0, .c (u64 u))], []⟩ ⟨u, rfl, Nat.le_refl _, rfl, rfl⟩ (.inl ⟨rfl, rfl, rfl, trivial⟩) ?_
  rintro v σ ⟨_, rfl, hv, hf, rfl⟩
  by_cases h : 65535 < v
  · have hd : decide (65535 < (v : Int)) = true := by simp only [decide_eq_true_eq]; omega
    have e1 : IntKind.u64.wrap (((v % 65536 : Nat) : Int) + ((v / 65536 : Nat) : Int)) = ((v % 65536 + v / 65536 : Nat) : Int) := by rw [wu64] <;> omega
    simp (maxSteps := 4000000) only [Try.results30, hd, and65535 v (by omega), shr16, e1, XX, Nat.reduceBEq, Nat.reduceLT, Nat.reduceAdd, Nat.reduceMul, Nat.reduceSub, Nat.reduceLeDiff, Nat.reduceEqDiff, Int.reduceToNat, Int.reduceLT, Int.reduceLE, Int.reduceAdd, Int.reduceSub, Int.reduceEq, reduceIte, Nat.reduceBNe, Int.reducePow, Nat.reducePow, Int.reduceMul, Int.reduceNeg, isB_i, isB_b, isB_y, isBv_i, isBv_b, eqCells_t, TT]
    exact ⟨v % 65536 + v / 65536, by omega, _, ⟨_, rfl, by omega, (fold_step h).trans hf, rfl⟩, .inl ⟨rfl, rfl, rfl, trivial⟩⟩
  · have hd : decide (65535 < (v : Int)) = false := by simp only [decide_eq_false_iff_not]; omega
    have e1 : IntKind.u16.wrap (v : Int) = (v : Int) := by rw [wu16] <;> omega
    have e2 : fold u = v := by rw [← hf]; exact fold_small (by omega)
    simp (maxSteps := 4000000) only [Try.results30, hd, e1, e2, XX, Nat.reduceBEq, Nat.reduceLT, Nat.reduceAdd, Nat.reduceMul, Nat.reduceSub, Nat.reduceLeDiff, Nat.reduceEqDiff, Int.reduceToNat, Int.reduceLT, Int.reduceLE, Int.reduceAdd, Int.reduceSub, Int.reduceEq, reduceIte, Nat.reduceBNe, Int.reducePow, Nat.reducePow, Int.reduceMul, Int.reduceNeg, isB_i, isB_b, isB_y, isBv_i, isBv_b, eqCells_t, TT]

theorem rfolded_spec (u : Nat) (hu : u < 18446744073709551616) : Spec cx.P 33 [.c (u64 u)] [] fun s _ => s.plain = true ∧ s = .c (u64 (fold u)) := by
  refine spec_of_X cx_ok Try.func33 rfl (by kernel_rfl) (by kernel_rfl) (Nat.le_of_ble_eq_true rfl) 400 3 ?_
  simp (maxSteps := 4000000) only [Try.results33, XX, Nat.reduceBEq, Nat.reduceLT, Nat.reduceAdd, Nat.reduceMul, Nat.reduceSub, Nat.reduceLeDiff, Nat.reduceEqDiff, Int.reduceToNat, Int.reduceLT, Int.reduceLE, Int.reduceAdd, Int.reduceSub, Int.reduceEq, reduceIte, Nat.reduceBNe, Int.reducePow, Nat.reducePow, Int.reduceMul, Int.reduceNeg, isB_i, isB_b, isB_y, isBv_i, isBv_b, eqCells_t, TT]
  refine loop_any cx_ok 400 (fun μ σ => ∃ v : Nat, μ = v ∧ v ≤ u ∧ fold v = fold u ∧ σ = ⟨⟨3, 0⟩, [(0, .c (u64 v))], []⟩) u ⟨⟨3, 0⟩, [(0, .c (u64 u))], []⟩ ⟨u, rfl, Nat.le_refl _, rfl, rfl⟩ (.inl ⟨rfl, rfl, rfl, trivial⟩) ?_
  rintro v σ ⟨_, rfl, hv, hf, rfl⟩
  by_cases h : 65535 < v
  · have hd : decide (65535 < (v : Int)) = true := by simp only [decide_eq_true_eq]; omega
    have e2 : IntKind.u64.wrap ((v / 65536 : Nat) : Int) = ((v / 65536 : Nat) : Int) := by rw [wu64] <;> omega
    have e1 : IntKind.u64.wrap (((v % 65536 : Nat) : Int) + ((v / 65536 : Nat) : Int)) = ((v % 65536 + v / 65536 : Nat) : Int) := by rw [wu64] <;> omega
    simp (maxSteps := 4000000) only [Try.results33, hd, tmod65536, tdiv65536, e2, e1, XX, Nat.reduceBEq, Nat.reduceLT, Nat.reduceAdd, Nat.reduceMul, Nat.reduceSub, Nat.reduceLeDiff, Nat.reduceEqDiff, Int.reduceToNat, Int.reduceLT, Int.reduceLE, Int.reduceAdd, Int.reduceSub, Int.reduceEq, reduceIte, Nat.reduceBNe, Int.reducePow, Nat.reducePow, Int.reduceMul, Int.reduceNeg, isB_i, isB_b, isB_y, isBv_i, isBv_b, eqCells_t, TT]
    exact ⟨v % 65536 + v / 65536, by omega, _, ⟨_, rfl, by omega, (fold_step h).trans hf, rfl⟩, .inl ⟨rfl, rfl, rfl, trivial⟩⟩
  · have hd : decide (65535 < (v : Int)) = false := by simp only [decide_eq_false_iff_not]; omega
    have e2 : fold u = v := by rw [← hf]; exact fold_small (by omega)
    simp (maxSteps := 4000000) only [Try.results33, hd, e2, XX, Nat.reduceBEq, Nat.reduceLT, Nat.reduceAdd, Nat.reduceMul, Nat.reduceSub, Nat.reduceLeDiff, Nat.reduceEqDiff, Int.reduceToNat, Int.reduceLT, Int.reduceLE, Int.reduceAdd, Int.reduceSub, Int.reduceEq, reduceIte, Nat.reduceBNe, Int.reducePow, Nat.reducePow, Int.reduceMul, Int.reduceNeg, isB_i, isB_b, isB_y, isBv_i, isBv_b, eqCells_t, TT]

/-- A part: its bytes, what stands behind them, its room. -/
abbrev PT3 := List UInt8 × List UInt8 × Nat
def partR (p : PT3) : RC := .sl (bsR (p.1 ++ p.2.1)) p.1.length p.2.2
def bytesOf (ps : List PT3) : List UInt8 := ps.flatMap (·.1)

theorem dropAt {l sp : List UInt8} {j : Nat} (h : j < l.length) : ∃ R, (bsR (l ++ sp)).drop j = .v (.int .u8 (l.getD j 0).toNat) :: R := by
  refine ⟨(bsR (l ++ sp)).drop (j + 1), ?_⟩
  rw [List.drop_eq_getElem_cons (by simp; omega)]
  simp only [List.getElem_map, byteR]
  rw [List.getElem_append_left (by omega), List.getD_eq_getElem?_getD, List.getElem?_eq_getElem (by omega)]
  rfl
theorem dropPart {ps : List PT3} {rs : List RC} {i : Nat} {p : PT3} (h : ps[i]? = some p) : ∃ R, (ps.map partR ++ rs).drop i = .sl (bsR (p.1 ++ p.2.1)) p.1.length p.2.2 :: R := by
  have hi : i < ps.length := (List.getElem?_eq_some_iff.1 h).1
  refine ⟨(ps.map partR ++ rs).drop (i + 1), ?_⟩
  rw [List.drop_eq_getElem_cons (by simp; omega)]
  congr 1
  rw [List.getElem_append_left (by simpa using hi), List.getElem_map]
  rw [(List.getElem?_eq_some_iff.1 h).2]
  rfl
theorem bytesOf_next {ps : List PT3} {i : Nat} {p : PT3} (h : ps[i]? = some p) : bytesOf (ps.take (i + 1)) = bytesOf (ps.take i) ++ p.1 := by
  have hi : i < ps.length := (List.getElem?_eq_some_iff.1 h).1
  have e : ps.take (i + 1) = ps.take i ++ [p] := by
    rw [← List.take_append_getElem hi, (List.getElem?_eq_some_iff.1 h).2]
  rw [e, bytesOf, List.flatMap_append]
  simp [bytesOf]
theorem bytesOf_le (ps : List PT3) (i : Nat) : (bytesOf (ps.take i)).length ≤ (bytesOf ps).length := by
  have : bytesOf ps = bytesOf (ps.take i) ++ bytesOf (ps.drop i) := by
    rw [bytesOf, bytesOf, bytesOf, ← List.flatMap_append, List.take_append_drop]
  rw [this, List.length_append]; omega

theorem take_len {l : List UInt8} : wsum 0 ([] : List UInt8) = 0 := rfl

theorem xor_u16 (n : Nat) (h : n ≤ 65535) : bitI .xor .u16 (if IntKind.u16.signed then -1 else IntKind.u16.max) (n : Int) = ((65535 - n : Nat) : Int) := by
  have e : (if IntKind.u16.signed then -1 else IntKind.u16.max) = (65535 : Int) := rfl
  rw [e]
  show IntKind.u16.wrap (((BitVec.ofInt 16 65535 ^^^ BitVec.ofInt 16 (n : Int) : BitVec 16).toNat : Nat) : Int) = _
  have a : BitVec.ofInt 16 65535 = BitVec.allOnes 16 := by decide
  rw [a, BitVec.allOnes_xor, BitVec.toNat_not, bvn 16 n (by omega), wu16] <;> omega
theorem osum_spec (ps : List PT3) (rs : List RC) (c : Nat) (hn : ps.length < 140737488355328) (hl : (bytesOf ps).length < 140737488355328) :
    Spec cx.P 20 [.c (.ro (ps.map partR ++ rs) ps.length c)] [] fun s _ => s.plain = true ∧ s = .c (u16 (isum (bytesOf ps))) := by
  refine spec_of_X cx_ok Try.func20 rfl (by kernel_rfl) (by kernel_rfl) (Nat.le_of_ble_eq_true rfl) 400 18 ?_
  simp (maxSteps := 4000000) only [Try.results20, XX, Nat.reduceBEq, Nat.reduceLT, Nat.reduceAdd, Nat.reduceMul, Nat.reduceSub, Nat.reduceLeDiff, Nat.reduceEqDiff, Int.reduceToNat, Int.reduceLT, Int.reduceLE, Int.reduceAdd, Int.reduceSub, Int.reduceEq, reduceIte, Nat.reduceBNe, Int.reducePow, Nat.reducePow, Int.reduceMul, Int.reduceNeg, isB_i, isB_b, isB_y, isBv_i, isBv_b, eqCells_t, TT]
  refine loop_any cx_ok 400 (fun μ σ => ∃ i u : Nat, μ = ps.length - i ∧ i ≤ ps.length ∧ u ≤ 65535 ∧ u = fold (wsum 0 (bytesOf (ps.take i))) ∧
      σ = ⟨⟨18, 0⟩, [(3, .c (u64 u)), (4, .c (i64 (bytesOf (ps.take i)).length)), (9, .c (.ro (ps.map partR ++ rs) ps.length c)), (10, .c (i64 ps.length)), (11, .c (i64 i))], []⟩) ps.length
    ⟨⟨18, 0⟩, [(3, .c (u64 (0 : Nat))), (4, .c (i64 (bytesOf (ps.take 0)).length)), (9, .c (.ro (ps.map partR ++ rs) ps.length c)), (10, .c (i64 ps.length)), (11, .c (i64 (0 : Nat)))], []⟩ ⟨0, 0, rfl, Nat.zero_le _, by omega, rfl, rfl⟩ (.inl ⟨rfl, rfl, rfl, rfl, rfl, rfl, rfl, trivial⟩) ?_
  rintro μ σ ⟨i, u, rfl, hi, hu, hf, rfl⟩
  have hle := bytesOf_le ps i
  by_cases hlt : i < ps.length
  · have hd : decide ((i : Int) < (ps.length : Int)) = true := by simp only [decide_eq_true_eq]; omega
    have e3 : IntKind.i64.wrap ((i : Int) + 1) = ((i + 1 : Nat) : Int) := by rw [w64] <;> omega
    obtain ⟨p, hp⟩ : ∃ p, ps[i]? = some p := ⟨_, List.getElem?_eq_getElem hlt⟩
    obtain ⟨R, hR⟩ := dropPart (rs := rs) hp
    have hnx := bytesOf_next hp
    have hle2 := bytesOf_le ps (i + 1)
    rw [hnx, List.length_append] at hle2
    obtain ⟨l, sp, pc⟩ := p
    dsimp only at hnx hle2 hR
    generalize hD : bytesOf (ps.take i) = D at hf hnx hle hle2 ⊢
    have hw := wsum_le D.length l
    simp (maxSteps := 4000000) only [Try.results20, hd, hR, XX, Nat.reduceBEq, Nat.reduceLT, Nat.reduceAdd, Nat.reduceMul, Nat.reduceSub, Nat.reduceLeDiff, Nat.reduceEqDiff, Int.reduceToNat, Int.reduceLT, Int.reduceLE, Int.reduceAdd, Int.reduceSub, Int.reduceEq, reduceIte, Nat.reduceBNe, Int.reducePow, Nat.reducePow, Int.reduceMul, Int.reduceNeg, isB_i, isB_b, isB_y, isBv_i, isBv_b, eqCells_t, TT]
    refine ⟨⟨by omega, by omega⟩, by simp, ?_⟩
    refine loop_any cx_ok 400 (fun μ σ => ∃ j : Nat, μ = l.length - j ∧ j ≤ l.length ∧
        σ = ⟨⟨18, 0⟩, [(3, .c (u64 (u + wsum D.length (l.take j) : Nat))), (4, .c (i64 (D.length + j : Nat))), (9, .c (.ro (ps.map partR ++ rs) ps.length c)), (10, .c (i64 ps.length)), (11, .c (i64 i)), (15, .c (roB l sp pc)), (16, .c (i64 l.length)), (17, .c (i64 j))], []⟩) l.length
      ⟨⟨18, 0⟩, [(3, .c (u64 (u + wsum D.length (l.take 0) : Nat))), (4, .c (i64 (D.length + 0 : Nat))), (9, .c (.ro (ps.map partR ++ rs) ps.length c)), (10, .c (i64 ps.length)), (11, .c (i64 i)), (15, .c (roB l sp pc)), (16, .c (i64 l.length)), (17, .c (i64 (0 : Nat)))], []⟩ ⟨0, rfl, Nat.zero_le _, rfl⟩
      (.inl ⟨rfl, rfl, rfl, rfl, rfl, rfl, rfl, rfl, rfl, rfl, trivial⟩) ?_
    rintro μ σ ⟨j, rfl, hj, rfl⟩
    have hwj := wsum_le D.length (l.take j)
    have hlj : (l.take j).length = j := by simp; omega
    by_cases hlt2 : j < l.length
    · have hd2 : decide ((j : Int) < (l.length : Int)) = true := by simp only [decide_eq_true_eq]; omega
      obtain ⟨R2, hR2⟩ := dropAt (sp := sp) hlt2
      have hx := (l.getD j 0).toNat_lt
      have hnext := wsum_next D.length l j hlt2
      generalize (l.getD j 0).toNat = x at hR2 hx hnext
      have e4 : IntKind.i64.wrap (((D.length + j : Nat) : Int) + 1) = ((D.length + (j + 1) : Nat) : Int) := by rw [w64] <;> omega
      have e5 : IntKind.i64.wrap ((j : Int) + 1) = ((j + 1 : Nat) : Int) := by rw [w64] <;> omega
      have e6 : IntKind.u64.wrap (x : Int) = (x : Int) := by rw [wu64] <;> omega
      have e7 : IntKind.u64.wrap ((x : Int) * 2 ^ min 8 64) = ((x * 256 : Nat) : Int) := by rw [show (x : Int) * 2 ^ min 8 64 = ((x * 256 : Nat) : Int) by push_cast; rfl, wu64] <;> omega
      have e8 : ((D.length + j : Nat) : Int).tmod 2 = (((D.length + j) % 2 : Nat) : Int) := rfl
      by_cases hp2 : (D.length + j) % 2 = 0
      · rw [if_pos hp2] at hnext
        have hd3 : decide ((((D.length + j) % 2 : Nat) : Int) = 0) = true := by simp only [decide_eq_true_eq]; omega
        have e9 : IntKind.u64.wrap (((u + wsum D.length (l.take j) : Nat) : Int) + ((x * 256 : Nat) : Int)) = ((u + wsum D.length (l.take (j + 1)) : Nat) : Int) := by rw [wu64] <;> omega
        simp (maxSteps := 4000000) only [Try.results20, hd2, hR2, e4, e5, e6, e7, e8, hd3, e9, XX, Nat.reduceBEq, Nat.reduceLT, Nat.reduceAdd, Nat.reduceMul, Nat.reduceSub, Nat.reduceLeDiff, Nat.reduceEqDiff, Int.reduceToNat, Int.reduceLT, Int.reduceLE, Int.reduceAdd, Int.reduceSub, Int.reduceEq, reduceIte, Nat.reduceBNe, Int.reducePow, Nat.reducePow, Int.reduceMul, Int.reduceNeg, isB_i, isB_b, isB_y, isBv_i, isBv_b, eqCells_t, TT]
        exact ⟨⟨by omega, by omega⟩, by simp, l.length - (j + 1), by omega, _, ⟨j + 1, rfl, by omega, rfl⟩, .inl ⟨rfl, rfl, rfl, rfl, rfl, rfl, rfl, rfl, rfl, rfl, trivial⟩⟩
      · rw [if_neg hp2] at hnext
        have hd3 : decide ((((D.length + j) % 2 : Nat) : Int) = 0) = false := by simp only [decide_eq_false_iff_not]; omega
        have e9 : IntKind.u64.wrap (((u + wsum D.length (l.take j) : Nat) : Int) + (x : Int)) = ((u + wsum D.length (l.take (j + 1)) : Nat) : Int) := by rw [wu64] <;> omega
        simp (maxSteps := 4000000) only [Try.results20, hd2, hR2, e4, e5, e6, e7, e8, hd3, e9, XX, Nat.reduceBEq, Nat.reduceLT, Nat.reduceAdd, Nat.reduceMul, Nat.reduceSub, Nat.reduceLeDiff, Nat.reduceEqDiff, Int.reduceToNat, Int.reduceLT, Int.reduceLE, Int.reduceAdd, Int.reduceSub, Int.reduceEq, reduceIte, Nat.reduceBNe, Int.reducePow, Nat.reducePow, Int.reduceMul, Int.reduceNeg, isB_i, isB_b, isB_y, isBv_i, isBv_b, eqCells_t, TT]
        exact ⟨⟨by omega, by omega⟩, by simp, l.length - (j + 1), by omega, _, ⟨j + 1, rfl, by omega, rfl⟩, .inl ⟨rfl, rfl, rfl, rfl, rfl, rfl, rfl, rfl, rfl, rfl, trivial⟩⟩
    obtain rfl : j = l.length := by omega
    have hd2 : decide ((l.length : Int) < (l.length : Int)) = false := by simp
    rw [List.take_length] at hwj ⊢
    simp (maxSteps := 4000000) only [Try.results20, hd2, XX, Nat.reduceBEq, Nat.reduceLT, Nat.reduceAdd, Nat.reduceMul, Nat.reduceSub, Nat.reduceLeDiff, Nat.reduceEqDiff, Int.reduceToNat, Int.reduceLT, Int.reduceLE, Int.reduceAdd, Int.reduceSub, Int.reduceEq, reduceIte, Nat.reduceBNe, Int.reducePow, Nat.reducePow, Int.reduceMul, Int.reduceNeg, isB_i, isB_b, isB_y, isBv_i, isBv_b, eqCells_t, TT]
    refine call_plain (folded_spec _ (by omega)) rfl ?_
    rintro _ rfl
    have hfl := fold_le (u + wsum D.length l)
    have e4 : IntKind.u64.wrap (fold (u + wsum D.length l) : Int) = (fold (u + wsum D.length l) : Int) := by rw [wu64] <;> omega
    simp (maxSteps := 4000000) only [Try.results20, e4, e3, XX, Nat.reduceBEq, Nat.reduceLT, Nat.reduceAdd, Nat.reduceMul, Nat.reduceSub, Nat.reduceLeDiff, Nat.reduceEqDiff, Int.reduceToNat, Int.reduceLT, Int.reduceLE, Int.reduceAdd, Int.reduceSub, Int.reduceEq, reduceIte, Nat.reduceBNe, Int.reducePow, Nat.reducePow, Int.reduceMul, Int.reduceNeg, isB_i, isB_b, isB_y, isBv_i, isBv_b, eqCells_t, TT]
    refine ⟨ps.length - (i + 1), by omega, _, ⟨i + 1, fold (u + wsum D.length l), rfl, by omega, hfl, ?_, rfl⟩, .inl ⟨rfl, rfl, rfl, ?_, rfl, rfl, rfl, trivial⟩⟩
    · rw [hnx, wsum_app, Nat.zero_add, hf, fold_add]
    · rw [hnx, List.length_append]; rfl
  obtain rfl : i = ps.length := by omega
  have hd : decide ((ps.length : Int) < (ps.length : Int)) = false := by simp
  rw [List.take_length] at hf
  simp (maxSteps := 4000000) only [Try.results20, hd, XX, Nat.reduceBEq, Nat.reduceLT, Nat.reduceAdd, Nat.reduceMul, Nat.reduceSub, Nat.reduceLeDiff, Nat.reduceEqDiff, Int.reduceToNat, Int.reduceLT, Int.reduceLE, Int.reduceAdd, Int.reduceSub, Int.reduceEq, reduceIte, Nat.reduceBNe, Int.reducePow, Nat.reducePow, Int.reduceMul, Int.reduceNeg, isB_i, isB_b, isB_y, isBv_i, isBv_b, eqCells_t, TT]
  refine call_plain (folded_spec _ (by omega)) rfl ?_
  rintro _ rfl
  rw [fold_small hu]
  have e5 : isum (bytesOf ps) = 65535 - u := by rw [isum, hf]
  simp (maxSteps := 4000000) only [Try.results20, XX, Nat.reduceBEq, Nat.reduceLT, Nat.reduceAdd, Nat.reduceMul, Nat.reduceSub, Nat.reduceLeDiff, Nat.reduceEqDiff, Int.reduceToNat, Int.reduceLT, Int.reduceLE, Int.reduceAdd, Int.reduceSub, Int.reduceEq, reduceIte, Nat.reduceBNe, Int.reducePow, Nat.reducePow, Int.reduceMul, Int.reduceNeg, isB_i, isB_b, isB_y, isBv_i, isBv_b, eqCells_t, TT]
  rw [e5, xor_u16 u hu]

theorem rsum_spec (ps : List PT3) (rs : List RC) (c : Nat) (hn : ps.length < 140737488355328) (hl : (bytesOf ps).length < 140737488355328) :
    Spec cx.P 29 [.c (.ro (ps.map partR ++ rs) ps.length c)] [] fun s _ => s.plain = true ∧ s = .c (u16 (isum (bytesOf ps))) := by
  refine spec_of_X cx_ok Try.func29 rfl (by kernel_rfl) (by kernel_rfl) (Nat.le_of_ble_eq_true rfl) 400 7 ?_
  simp (maxSteps := 4000000) only [Try.results29, XX, Nat.reduceBEq, Nat.reduceLT, Nat.reduceAdd, Nat.reduceMul, Nat.reduceSub, Nat.reduceLeDiff, Nat.reduceEqDiff, Int.reduceToNat, Int.reduceLT, Int.reduceLE, Int.reduceAdd, Int.reduceSub, Int.reduceEq, reduceIte, Nat.reduceBNe, Int.reducePow, Nat.reducePow, Int.reduceMul, Int.reduceNeg, isB_i, isB_b, isB_y, isBv_i, isBv_b, eqCells_t, TT]
  refine loop_any cx_ok 400 (fun μ σ => ∃ i u : Nat, μ = ps.length - i ∧ i ≤ ps.length ∧ u = fold (wsum 0 (bytesOf (ps.take i))) ∧
      σ = ⟨⟨7, 0⟩, [(0, .c (.ro (ps.map partR ++ rs) ps.length c)), (3, .c (u64 u)), (4, .c (bC (decide ((bytesOf (ps.take i)).length % 2 = 0)))), (5, .c (i64 i))], []⟩) ps.length
    ⟨⟨7, 0⟩, [(0, .c (.ro (ps.map partR ++ rs) ps.length c)), (3, .c (u64 (0 : Nat))), (4, .c (bC (decide ((bytesOf (ps.take 0)).length % 2 = 0)))), (5, .c (i64 (0 : Nat)))], []⟩ ⟨0, 0, rfl, Nat.zero_le _, rfl, rfl⟩ (.inl ⟨rfl, rfl, rfl, rfl, rfl, rfl, trivial⟩) ?_
  rintro μ σ ⟨i, u, rfl, hi, hf, rfl⟩
  have hle := bytesOf_le ps i
  by_cases hlt : i < ps.length
  · have hd : decide ((i : Int) < (ps.length : Int)) = true := by simp only [decide_eq_true_eq]; omega
    have e3 : IntKind.i64.wrap ((i : Int) + 1) = ((i + 1 : Nat) : Int) := by rw [w64] <;> omega
    obtain ⟨p, hp⟩ : ∃ p, ps[i]? = some p := ⟨_, List.getElem?_eq_getElem hlt⟩
    obtain ⟨R, hR⟩ := dropPart (rs := rs) hp
    have hnx := bytesOf_next hp
    have hle2 := bytesOf_le ps (i + 1)
    rw [hnx, List.length_append] at hle2
    obtain ⟨l, sp, pc⟩ := p
    dsimp only at hnx hle2 hR
    generalize hD : bytesOf (ps.take i) = D at hf hnx hle hle2 ⊢
    simp (maxSteps := 4000000) only [Try.results29, hd, XX, Nat.reduceBEq, Nat.reduceLT, Nat.reduceAdd, Nat.reduceMul, Nat.reduceSub, Nat.reduceLeDiff, Nat.reduceEqDiff, Int.reduceToNat, Int.reduceLT, Int.reduceLE, Int.reduceAdd, Int.reduceSub, Int.reduceEq, reduceIte, Nat.reduceBNe, Int.reducePow, Nat.reducePow, Int.reduceMul, Int.reduceNeg, isB_i, isB_b, isB_y, isBv_i, isBv_b, eqCells_t, TT]
    refine loop_any cx_ok 400 (fun μ σ => ∃ j u : Nat, μ = l.length - j ∧ j ≤ l.length ∧ u = fold (wsum 0 (D ++ l.take j)) ∧
        σ = ⟨⟨7, 0⟩, [(0, .c (.ro (ps.map partR ++ rs) ps.length c)), (3, .c (u64 u)), (4, .c (bC (decide ((D.length + j) % 2 = 0)))), (5, .c (i64 i)), (6, .c (i64 j))], []⟩) l.length
      ⟨⟨7, 0⟩, [(0, .c (.ro (ps.map partR ++ rs) ps.length c)), (3, .c (u64 u)), (4, .c (bC (decide ((D.length + 0) % 2 = 0)))), (5, .c (i64 i)), (6, .c (i64 (0 : Nat)))], []⟩ ⟨0, u, rfl, Nat.zero_le _, by rw [List.take_zero, List.append_nil]; exact hf, rfl⟩
      (.inl ⟨rfl, rfl, rfl, rfl, rfl, rfl, rfl, trivial⟩) ?_
    clear hf
    rintro μ σ ⟨j, u, rfl, hj, hf, rfl⟩
    have pi : (0 : Int) ≤ (i : Int) ∧ (i : Int) < (ps.length : Int) := ⟨by omega, by omega⟩
    have p0 : 0 < (RC.sl (bsR (l ++ sp)) l.length pc :: R).length := by simp
    by_cases hlt2 : j < l.length
    · have hd2 : decide ((j : Int) < (l.length : Int)) = true := by simp only [decide_eq_true_eq]; omega
      obtain ⟨R2, hR2⟩ := dropAt (sp := sp) hlt2
      have hx := (l.getD j 0).toNat_lt
      have hnext : wsum 0 (D ++ l.take (j + 1)) = wsum 0 (D ++ l.take j) + (if (D.length + j) % 2 = 0 then (l.getD j 0).toNat * 256 else (l.getD j 0).toNat) := by
        rw [wsum_app, wsum_next _ l j hlt2, wsum_app, Nat.zero_add]; omega
      generalize (l.getD j 0).toNat = x at hR2 hx hnext
      have hfu := fold_le (wsum 0 (D ++ l.take j))
      rw [← hf] at hfu
      have e5 : IntKind.i64.wrap ((j : Int) + 1) = ((j + 1 : Nat) : Int) := by rw [w64] <;> omega
      have e6 : IntKind.u64.wrap (x : Int) = (x : Int) := by rw [wu64] <;> omega
      have e7 : IntKind.u64.wrap (256 * (x : Int)) = ((x * 256 : Nat) : Int) := by rw [wu64] <;> omega
      have fin : ∀ y, wsum 0 (D ++ l.take (j + 1)) = wsum 0 (D ++ l.take j) + y → fold (u + y) = fold (wsum 0 (D ++ l.take (j + 1))) := fun y h => by rw [h, hf, fold_add]
      have par : (!decide ((D.length + j) % 2 = 0)) = decide ((D.length + (j + 1)) % 2 = 0) := by
        rw [Bool.eq_iff_iff]; simp; omega
      by_cases hp2 : (D.length + j) % 2 = 0
      · rw [if_pos hp2] at hnext
        have hd3 : decide ((D.length + j) % 2 = 0) = true := by simpa using hp2
        rw [hd3] at par
        have e9 : IntKind.u64.wrap ((u : Int) + ((x * 256 : Nat) : Int)) = ((u + x * 256 : Nat) : Int) := by rw [wu64] <;> omega
        simp (maxSteps := 4000000) only [Try.results29, hd2, hR, hR2, e5, e6, e7, hd3, e9, pi, p0, XX, Nat.reduceBEq, Nat.reduceLT, Nat.reduceAdd, Nat.reduceMul, Nat.reduceSub, Nat.reduceLeDiff, Nat.reduceEqDiff, Int.reduceToNat, Int.reduceLT, Int.reduceLE, Int.reduceAdd, Int.reduceSub, Int.reduceEq, reduceIte, Nat.reduceBNe, Int.reducePow, Nat.reducePow, Int.reduceMul, Int.reduceNeg, isB_i, isB_b, isB_y, isBv_i, isBv_b, eqCells_t, TT]
        refine ⟨by omega, by omega, ⟨by omega, by omega⟩, by omega, ?_⟩
        refine call_plain (rfolded_spec _ (by omega)) rfl ?_
        rintro _ rfl
        simp (maxSteps := 4000000) only [Try.results29, e5, par, XX, Nat.reduceBEq, Nat.reduceLT, Nat.reduceAdd, Nat.reduceMul, Nat.reduceSub, Nat.reduceLeDiff, Nat.reduceEqDiff, Int.reduceToNat, Int.reduceLT, Int.reduceLE, Int.reduceAdd, Int.reduceSub, Int.reduceEq, reduceIte, Nat.reduceBNe, Int.reducePow, Nat.reducePow, Int.reduceMul, Int.reduceNeg, isB_i, isB_b, isB_y, isBv_i, isBv_b, eqCells_t, TT]
        exact ⟨l.length - (j + 1), by omega, _, ⟨j + 1, _, rfl, by omega, fin _ hnext, rfl⟩, .inl ⟨rfl, rfl, rfl, rfl, rfl, rfl, rfl, trivial⟩⟩
      · rw [if_neg hp2] at hnext
        have hd3 : decide ((D.length + j) % 2 = 0) = false := by simpa using hp2
        rw [hd3] at par
        have e9 : IntKind.u64.wrap ((u : Int) + (x : Int)) = ((u + x : Nat) : Int) := by rw [wu64] <;> omega
        simp (maxSteps := 4000000) only [Try.results29, hd2, hR, hR2, e5, e6, e7, hd3, e9, pi, p0, XX, Nat.reduceBEq, Nat.reduceLT, Nat.reduceAdd, Nat.reduceMul, Nat.reduceSub, Nat.reduceLeDiff, Nat.reduceEqDiff, Int.reduceToNat, Int.reduceLT, Int.reduceLE, Int.reduceAdd, Int.reduceSub, Int.reduceEq, reduceIte, Nat.reduceBNe, Int.reducePow, Nat.reducePow, Int.reduceMul, Int.reduceNeg, isB_i, isB_b, isB_y, isBv_i, isBv_b, eqCells_t, TT]
        refine ⟨by omega, by omega, ⟨by omega, by omega⟩, by omega, ?_⟩
        refine call_plain (rfolded_spec _ (by omega)) rfl ?_
        rintro _ rfl
        simp (maxSteps := 4000000) only [Try.results29, e5, par, XX, Nat.reduceBEq, Nat.reduceLT, Nat.reduceAdd, Nat.reduceMul, Nat.reduceSub, Nat.reduceLeDiff, Nat.reduceEqDiff, Int.reduceToNat, Int.reduceLT, Int.reduceLE, Int.reduceAdd, Int.reduceSub, Int.reduceEq, reduceIte, Nat.reduceBNe, Int.reducePow, Nat.reducePow, Int.reduceMul, Int.reduceNeg, isB_i, isB_b, isB_y, isBv_i, isBv_b, eqCells_t, TT]
        exact ⟨l.length - (j + 1), by omega, _, ⟨j + 1, _, rfl, by omega, fin _ hnext, rfl⟩, .inl ⟨rfl, rfl, rfl, rfl, rfl, rfl, rfl, trivial⟩⟩
    obtain rfl : j = l.length := by omega
    have hd2 : decide ((l.length : Int) < (l.length : Int)) = false := by simp
    rw [List.take_length] at hf
    simp (maxSteps := 4000000) only [Try.results29, hd2, hR, e3, pi, p0, XX, Nat.reduceBEq, Nat.reduceLT, Nat.reduceAdd, Nat.reduceMul, Nat.reduceSub, Nat.reduceLeDiff, Nat.reduceEqDiff, Int.reduceToNat, Int.reduceLT, Int.reduceLE, Int.reduceAdd, Int.reduceSub, Int.reduceEq, reduceIte, Nat.reduceBNe, Int.reducePow, Nat.reducePow, Int.reduceMul, Int.reduceNeg, isB_i, isB_b, isB_y, isBv_i, isBv_b, eqCells_t, TT]
    refine ⟨by omega, ps.length - (i + 1), by omega, _, ⟨i + 1, u, rfl, by omega, by rw [hnx]; exact hf, rfl⟩, .inl ⟨rfl, rfl, rfl, rfl, ?_, rfl, trivial⟩⟩
    rw [hnx, List.length_append]; rfl
  obtain rfl : i = ps.length := by omega
  have hd : decide ((ps.length : Int) < (ps.length : Int)) = false := by simp
  rw [List.take_length] at hf
  have hfu := fold_le (wsum 0 (bytesOf ps))
  rw [← hf] at hfu
  have e1 : IntKind.u64.wrap (65535 - (u : Int)) = ((65535 - u : Nat) : Int) := by rw [wu64] <;> omega
  have e2 : IntKind.u16.wrap ((65535 - u : Nat) : Int) = ((65535 - u : Nat) : Int) := by rw [wu16] <;> omega
  have e3 : isum (bytesOf ps) = 65535 - u := by rw [isum, hf]
  simp (maxSteps := 4000000) only [Try.results29, hd, e1, e2, e3, XX, Nat.reduceBEq, Nat.reduceLT, Nat.reduceAdd, Nat.reduceMul, Nat.reduceSub, Nat.reduceLeDiff, Nat.reduceEqDiff, Int.reduceToNat, Int.reduceLT, Int.reduceLE, Int.reduceAdd, Int.reduceSub, Int.reduceEq, reduceIte, Nat.reduceBNe, Int.reducePow, Nat.reducePow, Int.reduceMul, Int.reduceNeg, isB_i, isB_b, isB_y, isBv_i, isBv_b, eqCells_t, TT]

/-! ### Lists of lists, read alone -/
theorem fr_ro {h : List SB} {l sp : List UInt8} {c : Nat} : frR (fun _ => true) h (partR (l, sp, c)) (roB l sp c) := .inl rfl
theorem fr_win {h : List SB} {i o c m : Nat} {l sp : List UInt8} {b : SB} (hb : h[i]? = some b) (hv : b.void = false) (hc : b.cells.drop o = bsC (l ++ sp)) (hm : l.length = m) : frR (fun _ => true) h (partR (l, sp, c)) (.sl i o m c) := by
  subst hm
  refine .inr (.inr ⟨i, o, rfl, .inr ⟨rfl, b, hb, hv, ?_⟩⟩)
  have := frL_bs (ok := fun _ => true) (h := h) [] (l ++ sp)
  rw [List.append_nil] at this
  dsimp only
  rw [hc]; exact this
theorem fr_win0 {h : List SB} {i o : Nat} {sp : List UInt8} : frR (fun _ => true) h (partR ([], sp, 0)) (.sl i o 0 0) := .inr (.inr ⟨i, o, rfl, .inl ⟨rfl, rfl⟩⟩)
theorem fz_rows {r : Nat → Nat} {n : Nat} {h : List SB} {i o m c : Nat} {rows : List RC} {b : SB} (hb : h[i]? = some b) (hv : b.void = false) (hL : frL (fun _ => true) h rows (b.cells.drop o)) : frV true (fun _ => true) r n h (.c (.sl i o m c)) (.c (.ro rows m c)) :=
  .inr (.inl ⟨_, _, rfl, rfl, .inr ⟨rfl, .inl ⟨_, _, _, rfl, .inr (.inr ⟨i, o, rfl, .inr ⟨rfl, b, hb, hv, hL⟩⟩)⟩⟩⟩)

theorem rsumOf_spec (l sp : List UInt8) (c : Nat) (hl : l.length < 140737488355328) : Spec cx.P 18 [.c (roB l sp c)] [] fun s _ => s.plain = true ∧ s = .c (u16 (isum l)) := by
  refine spec_of_X cx_ok Try.func18 rfl (by kernel_rfl) (by kernel_rfl) (Nat.le_of_ble_eq_true rfl) 400 4 ?_
  simp (maxSteps := 4000000) only [Try.results18, XX, Nat.reduceBEq, Nat.reduceLT, Nat.reduceAdd, Nat.reduceMul, Nat.reduceSub, Nat.reduceLeDiff, Nat.reduceEqDiff, Int.reduceToNat, Int.reduceLT, Int.reduceLE, Int.reduceAdd, Int.reduceSub, Int.reduceEq, reduceIte, Nat.reduceBNe, Int.reducePow, Nat.reducePow, Int.reduceMul, Int.reduceNeg, isB_i, isB_b, isB_y, isBv_i, isBv_b, eqCells_t, TT]
  simp (maxSteps := 4000000) only [Try.results18, List.replicate_one, List.flatten_cons, List.flatten_nil, XX, Nat.reduceBEq, Nat.reduceLT, Nat.reduceAdd, Nat.reduceMul, Nat.reduceSub, Nat.reduceLeDiff, Nat.reduceEqDiff, Int.reduceToNat, Int.reduceLT, Int.reduceLE, Int.reduceAdd, Int.reduceSub, Int.reduceEq, reduceIte, Nat.reduceBNe, Int.reducePow, Nat.reducePow, Int.reduceMul, Int.reduceNeg, isB_i, isB_b, isB_y, isBv_i, isBv_b, eqCells_t, TT]
  have e : bytesOf [(l, sp, c)] = l := by simp [bytesOf]
  have s := rsum_spec [(l, sp, c)] [] 1 (by simp) (by rw [e]; exact hl)
  rw [e] at s
  refine call_pureF [.c (.ro ([(l, sp, c)].map partR ++ []) 1 1)] s ⟨fz_rows rfl rfl ⟨fr_ro, trivial⟩, trivial⟩ ?_
  rintro _ rfl
  simp (maxSteps := 4000000) only [Try.results18, XX, Nat.reduceBEq, Nat.reduceLT, Nat.reduceAdd, Nat.reduceMul, Nat.reduceSub, Nat.reduceLeDiff, Nat.reduceEqDiff, Int.reduceToNat, Int.reduceLT, Int.reduceLE, Int.reduceAdd, Int.reduceSub, Int.reduceEq, reduceIte, Nat.reduceBNe, Int.reducePow, Nat.reducePow, Int.reduceMul, Int.reduceNeg, isB_i, isB_b, isB_y, isBv_i, isBv_b, eqCells_t, TT]

end Go.Proofs.Ytipbnhgeanlkeaa.Sx
