/- The symbolic executor, at work: options as bytes, by the document. No condition. -/
import Derived.Test.YtflccffjfnfoiaaOpD
namespace Go.Proofs.Ytflccffjfnfoiaa.Sx
open Go
set_option linter.unusedSimpArgs false
set_option linter.unusedVariables false
set_option maxRecDepth 10000
set_option maxHeartbeats 4000000

theorem ceil_pcs' (n : Nat) : (if ((((n + 254) / 255 : Nat) : Int)) > (1 : Int) then ((((n + 254) / 255 : Nat) : Int)) else (1 : Int)) = (pcs n : Nat) := by
  unfold pcs
  split <;> omega
theorem min_int (n : Nat) : (if (255 : Int) < (n : Int) then (255 : Int) else (n : Int)) = ((min 255 n : Nat) : Int) := by split <;> omega
theorem size_spec (k : Int) (d sp : List UInt8) (c : Nat) (hd : d.length ≤ 140737488351232) : Spec cx.P 36 [.agg [i64 k, roB d sp c]] [] fun s _ => s.plain = true ∧ s = .c (i64 (d.length + 2 * pcs d.length : Nat)) := by
  have e4 : IntKind.i64.wrap ((d.length : Int) + 255) = ((d.length + 255 : Nat) : Int) := by rw [w64] <;> omega
  have e5 : IntKind.i64.wrap (((d.length + 255 : Nat) : Int) - 1) = ((d.length + 254 : Nat) : Int) := by rw [w64] <;> omega
  have e6 : IntKind.i64.wrap ((((d.length + 254 : Nat) : Int)).tdiv 255) = (((d.length + 254) / 255 : Nat) : Int) := by rw [show (((d.length + 254 : Nat) : Int)).tdiv 255 = (((d.length + 254) / 255 : Nat) : Int) from rfl, w64] <;> omega
  have hp := pcs_bound d.length
  have e7 : IntKind.i64.wrap (2 * (pcs d.length : Int)) = ((2 * pcs d.length : Nat) : Int) := by rw [w64] <;> omega
  have e8 : IntKind.i64.wrap (((2 * pcs d.length : Nat) : Int) + (d.length : Int)) = ((d.length + 2 * pcs d.length : Nat) : Int) := by rw [w64] <;> omega
  refine spec_of_X cx_ok Try.func36 rfl (by kernel_rfl) (by kernel_rfl) (Nat.le_of_ble_eq_true rfl) 400 4 ?_
  simp (maxSteps := 4000000) only [Try.results36, XX, Nat.reduceBEq, Nat.reduceLT, Nat.reduceAdd, Nat.reduceMul, Nat.reduceSub, Nat.reduceLeDiff, Nat.reduceEqDiff, Int.reduceToNat, Int.reduceLT, Int.reduceLE, Int.reduceAdd, Int.reduceSub, Int.reduceEq, reduceIte, Nat.reduceBNe, Int.reducePow, Nat.reducePow, Int.reduceMul, Int.reduceNeg, isB_i, isB_b, isB_y, isBv_i, isBv_b, eqCells_t, TT]
  simp (maxSteps := 4000000) only [Try.results36, e4, e5, e6, ceil_pcs', e7, e8, XX, Nat.reduceBEq, Nat.reduceLT, Nat.reduceAdd, Nat.reduceMul, Nat.reduceSub, Nat.reduceLeDiff, Nat.reduceEqDiff, Int.reduceToNat, Int.reduceLT, Int.reduceLE, Int.reduceAdd, Int.reduceSub, Int.reduceEq, reduceIte, Nat.reduceBNe, Int.reducePow, Nat.reducePow, Int.reduceMul, Int.reduceNeg, isB_i, isB_b, isB_y, isBv_i, isBv_b, eqCells_t, TT]

theorem rpack_spec (xs sp : List OI) (c : Nat) (hok : ∀ x ∈ xs, x.ok) (hT : totO xs ≤ 8589934592) (room : Int) : Spec cx.P 11 [.c (roO xs sp c), .c (i64 room)] [] (resB (packF xs room).1 (packF xs room).2) := by
  have hn := totO_len xs
  have hsz := szO_le xs
  refine resBN_of ?_
  refine spec_of_X cx_ok Try.func11 rfl (by kernel_rfl) (by kernel_rfl) (Nat.le_of_ble_eq_true rfl) 400 15 ?_
  simp (maxSteps := 4000000) only [Try.results11, XX, Nat.reduceBEq, Nat.reduceLT, Nat.reduceAdd, Nat.reduceMul, Nat.reduceSub, Nat.reduceLeDiff, Nat.reduceEqDiff, Int.reduceToNat, Int.reduceLT, Int.reduceLE, Int.reduceAdd, Int.reduceSub, Int.reduceEq, reduceIte, Nat.reduceBNe, Int.reducePow, Nat.reducePow, Int.reduceMul, Int.reduceNeg, isB_i, isB_b, isB_y, isBv_i, isBv_b, eqCells_t, TT]
  rw [rep_flat, seenC_zero]
  refine loop_any cx_ok 400 (fun μ σ => ∃ i : Nat, μ = xs.length - i ∧ i ≤ xs.length ∧ (∀ (j : Nat) (x : OI), j < i → xs[j]? = some x → ¬ BadAt xs j x) ∧
      σ = ⟨⟨15, 0⟩, [(0, .c (roO xs sp c)), (1, .c (i64 room)), (6, .c (.sl 0 0 255 255)), (7, .c (i64 i))], [⟨true, 4, seenC (seenF (xs.take i))⟩]⟩) xs.length
    ⟨⟨15, 0⟩, [(0, .c (roO xs sp c)), (1, .c (i64 room)), (6, .c (.sl 0 0 255 255)), (7, .c (i64 (0 : Nat)))], [⟨true, 4, seenC (seenF (xs.take 0))⟩]⟩ ⟨0, rfl, Nat.zero_le _, fun j x h => absurd h (by omega), rfl⟩ (.inl ⟨rfl, rfl, rfl, rfl, rfl, rfl, trivial⟩) ?_
  rintro μ σ ⟨i, rfl, hi, hnb, rfl⟩
  by_cases hlt : i < xs.length
  · have hd : decide ((i : Int) < (xs.length : Int)) = true := by simp only [decide_eq_true_eq]; omega
    have e3 : IntKind.i64.wrap ((i : Int) + 1) = ((i + 1 : Nat) : Int) := by rw [w64] <;> omega
    obtain ⟨x, hx⟩ : ∃ x, xs[i]? = some x := ⟨_, List.getElem?_eq_getElem hlt⟩
    obtain ⟨R, hR⟩ := osR_at (sp := sp) hx
    obtain ⟨ox1, ox2, ox3⟩ := hok x (List.mem_of_getElem? hx)
    by_cases k1 : x.k < 1
    · have d1 : decide (x.k < 1) = true := by simpa using k1
      have hg : (seenC (seenF (xs.take i))).getD x.k.toNat .any = bC (seenF (xs.take i) 0) := by
        rw [show x.k.toNat = 0 by omega]; exact seenC_at _ (by omega)
      rw [packF_bad (room := room) ⟨i, x, hx, .inl (by omega)⟩]
      simp (maxSteps := 4000000) only [Try.results11, hd, hR, d1, hg, XX, Nat.reduceBEq, Nat.reduceLT, Nat.reduceAdd, Nat.reduceMul, Nat.reduceSub, Nat.reduceLeDiff, Nat.reduceEqDiff, Int.reduceToNat, Int.reduceLT, Int.reduceLE, Int.reduceAdd, Int.reduceSub, Int.reduceEq, reduceIte, Nat.reduceBNe, Int.reducePow, Nat.reducePow, Int.reduceMul, Int.reduceNeg, isB_i, isB_b, isB_y, isBv_i, isBv_b, eqCells_t, TT]
      exact ⟨by omega, by omega⟩
    have d1 : decide (x.k < 1) = false := by simpa using k1
    by_cases k2 : 255 ≤ x.k
    · have d2 : decide ((255 : Int) ≤ x.k) = true := by simpa using k2
      have hg : (seenC (seenF (xs.take i))).getD x.k.toNat .any = SC.any := by
        rw [List.getD_eq_getElem?_getD, List.getElem?_eq_none (by rw [seenC_len]; omega)]; rfl
      rw [packF_bad (room := room) ⟨i, x, hx, .inr (.inl k2)⟩]
      simp (maxSteps := 4000000) only [Try.results11, hd, hR, d1, d2, hg, pickE_any, XX, Nat.reduceBEq, Nat.reduceLT, Nat.reduceAdd, Nat.reduceMul, Nat.reduceSub, Nat.reduceLeDiff, Nat.reduceEqDiff, Int.reduceToNat, Int.reduceLT, Int.reduceLE, Int.reduceAdd, Int.reduceSub, Int.reduceEq, reduceIte, Nat.reduceBNe, Int.reducePow, Nat.reducePow, Int.reduceMul, Int.reduceNeg, isB_i, isB_b, isB_y, isBv_i, isBv_b, eqCells_t, TT]
      exact ⟨by omega, by omega⟩
    have d2 : decide ((255 : Int) ≤ x.k) = false := by simpa using k2
    obtain ⟨m, hm⟩ : ∃ m : Nat, x.k = m := ⟨x.k.toNat, by omega⟩
    have hm2 : m < 255 := by omega
    have hg := seenC_at (seenF (xs.take i)) hm2
    rw [hm] at hR d1 d2
    by_cases k3 : seenF (xs.take i) m = true
    · rw [k3] at hg
      rw [packF_bad (room := room) ⟨i, x, hx, .inr (.inr ((seenF_iff hm).1 k3))⟩]
      simp (maxSteps := 4000000) only [Try.results11, hd, hR, d1, d2, hg, seenC_len, hm2, XX, Nat.reduceBEq, Nat.reduceLT, Nat.reduceAdd, Nat.reduceMul, Nat.reduceSub, Nat.reduceLeDiff, Nat.reduceEqDiff, Int.reduceToNat, Int.reduceLT, Int.reduceLE, Int.reduceAdd, Int.reduceSub, Int.reduceEq, reduceIte, Nat.reduceBNe, Int.reducePow, Nat.reducePow, Int.reduceMul, Int.reduceNeg, isB_i, isB_b, isB_y, isBv_i, isBv_b, eqCells_t, TT]
      exact ⟨by omega, by omega, by omega⟩
    have k3' : seenF (xs.take i) m = false := by simpa using k3
    rw [k3'] at hg
    simp (maxSteps := 4000000) only [Try.results11, hd, hR, d1, d2, hg, seenC_len, hm2, e3, XX, Nat.reduceBEq, Nat.reduceLT, Nat.reduceAdd, Nat.reduceMul, Nat.reduceSub, Nat.reduceLeDiff, Nat.reduceEqDiff, Int.reduceToNat, Int.reduceLT, Int.reduceLE, Int.reduceAdd, Int.reduceSub, Int.reduceEq, reduceIte, Nat.reduceBNe, Int.reducePow, Nat.reducePow, Int.reduceMul, Int.reduceNeg, isB_i, isB_b, isB_y, isBv_i, isBv_b, eqCells_t, TT]
    have hs := seenC_set (xs.take i) hm hm2
    rw [← take_nextO hx] at hs
    rw [hs]
    refine ⟨by omega, by omega, by omega, by omega, by omega, xs.length - (i + 1), by omega, _, ⟨i + 1, rfl, by omega, fun j y hj hy => ?_, rfl⟩, .inl ⟨rfl, rfl, rfl, rfl, rfl, rfl, trivial⟩⟩
    by_cases hji : j < i
    · exact hnb j y hji hy
    · obtain rfl : j = i := by omega
      rw [hx] at hy
      cases hy
      rintro (h | h | h)
      · omega
      · exact k2 h
      · exact k3 ((seenF_iff hm).2 h)
  obtain rfl : i = xs.length := by omega
  have hd : decide ((xs.length : Int) < (xs.length : Int)) = false := by simp
  rw [List.take_length]
  have hbad : ¬ Bad xs := fun ⟨j, x, hx, hb⟩ => hnb j x (List.getElem?_eq_some_iff.1 hx).1 hx hb
  by_cases q1 : 64 < xs.length
  · have d1 : decide ((64 : Int) < (xs.length : Int)) = true := by simp only [decide_eq_true_eq]; omega
    rw [packF_many hbad q1]
    simp (maxSteps := 4000000) only [Try.results11, hd, d1, XX, Nat.reduceBEq, Nat.reduceLT, Nat.reduceAdd, Nat.reduceMul, Nat.reduceSub, Nat.reduceLeDiff, Nat.reduceEqDiff, Int.reduceToNat, Int.reduceLT, Int.reduceLE, Int.reduceAdd, Int.reduceSub, Int.reduceEq, reduceIte, Nat.reduceBNe, Int.reducePow, Nat.reducePow, Int.reduceMul, Int.reduceNeg, isB_i, isB_b, isB_y, isBv_i, isBv_b, eqCells_t, TT]
  have d1 : decide ((64 : Int) < (xs.length : Int)) = false := by simp only [decide_eq_false_iff_not]; omega
  simp (maxSteps := 4000000) only [Try.results11, hd, d1, XX, Nat.reduceBEq, Nat.reduceLT, Nat.reduceAdd, Nat.reduceMul, Nat.reduceSub, Nat.reduceLeDiff, Nat.reduceEqDiff, Int.reduceToNat, Int.reduceLT, Int.reduceLE, Int.reduceAdd, Int.reduceSub, Int.reduceEq, reduceIte, Nat.reduceBNe, Int.reducePow, Nat.reducePow, Int.reduceMul, Int.reduceNeg, isB_i, isB_b, isB_y, isBv_i, isBv_b, eqCells_t, TT]
  clear hnb hi hlt
  refine loop_any cx_ok 400 (fun μ σ => ∃ i : Nat, μ = xs.length - i ∧ i ≤ xs.length ∧
      σ = ⟨⟨15, 0⟩, [(0, .c (roO xs sp c)), (1, .c (i64 room)), (9, .c (i64 (1 + szO (xs.take i) : Nat))), (10, .c (i64 i))], []⟩) xs.length
    ⟨⟨15, 0⟩, [(0, .c (roO xs sp c)), (1, .c (i64 room)), (9, .c (i64 (1 + szO (xs.take 0) : Nat))), (10, .c (i64 (0 : Nat)))], []⟩ ⟨0, rfl, Nat.zero_le _, rfl⟩ (.inr ⟨[], rfl, rfl, trivial, ⟨.inl ⟨rfl, rfl⟩, .inl ⟨rfl, rfl⟩, .inl ⟨rfl, rfl⟩, .inl ⟨rfl, rfl⟩, trivial⟩⟩) ?_
  rintro μ σ ⟨i, rfl, hi, rfl⟩
  by_cases hlt : i < xs.length
  · have hd : decide ((i : Int) < (xs.length : Int)) = true := by simp only [decide_eq_true_eq]; omega
    have e3 : IntKind.i64.wrap ((i : Int) + 1) = ((i + 1 : Nat) : Int) := by rw [w64] <;> omega
    obtain ⟨x, hx⟩ : ∃ x, xs[i]? = some x := ⟨_, List.getElem?_eq_getElem hlt⟩
    obtain ⟨R, hR⟩ := osR_at (sp := sp) hx
    obtain ⟨ox1, ox2, ox3⟩ := hok x (List.mem_of_getElem? hx)
    have hxt := mem_tot (List.mem_of_getElem? hx)
    have hp := pcs_bound x.d.length
    have hle := szO_take_le xs i
    have e9 : IntKind.i64.wrap (((1 + szO (xs.take i) : Nat) : Int) + ((x.d.length + 2 * pcs x.d.length : Nat) : Int)) = ((1 + szO (xs.take (i + 1)) : Nat) : Int) := by rw [szO_next hx, w64] <;> omega
    simp (maxSteps := 4000000) only [Try.results11, hd, hR, XX, Nat.reduceBEq, Nat.reduceLT, Nat.reduceAdd, Nat.reduceMul, Nat.reduceSub, Nat.reduceLeDiff, Nat.reduceEqDiff, Int.reduceToNat, Int.reduceLT, Int.reduceLE, Int.reduceAdd, Int.reduceSub, Int.reduceEq, reduceIte, Nat.reduceBNe, Int.reducePow, Nat.reducePow, Int.reduceMul, Int.reduceNeg, isB_i, isB_b, isB_y, isBv_i, isBv_b, eqCells_t, TT]
    refine ⟨by omega, ?_⟩
    refine call_pureF [.agg [i64 x.k, roB x.d x.sp x.c]] (size_spec x.k x.d x.sp x.c (by omega)) ⟨.inl ⟨rfl, rfl⟩, trivial⟩ ?_
    rintro _ rfl
    simp (maxSteps := 4000000) only [Try.results11, e3, e9, XX, Nat.reduceBEq, Nat.reduceLT, Nat.reduceAdd, Nat.reduceMul, Nat.reduceSub, Nat.reduceLeDiff, Nat.reduceEqDiff, Int.reduceToNat, Int.reduceLT, Int.reduceLE, Int.reduceAdd, Int.reduceSub, Int.reduceEq, reduceIte, Nat.reduceBNe, Int.reducePow, Nat.reducePow, Int.reduceMul, Int.reduceNeg, isB_i, isB_b, isB_y, isBv_i, isBv_b, eqCells_t, TT]
    exact ⟨xs.length - (i + 1), by omega, _, ⟨i + 1, rfl, by omega, rfl⟩, .inl ⟨rfl, rfl, rfl, rfl, rfl, rfl, trivial⟩⟩
  obtain rfl : i = xs.length := by omega
  have hd : decide ((xs.length : Int) < (xs.length : Int)) = false := by simp
  rw [List.take_length]
  by_cases q2 : room < 1 + (szO xs : Int)
  · have d2 : decide (room < ((1 + szO xs : Nat) : Int)) = true := by simp only [decide_eq_true_eq]; omega
    rw [packF_long hbad q1 q2]
    simp (maxSteps := 4000000) only [Try.results11, hd, d2, XX, Nat.reduceBEq, Nat.reduceLT, Nat.reduceAdd, Nat.reduceMul, Nat.reduceSub, Nat.reduceLeDiff, Nat.reduceEqDiff, Int.reduceToNat, Int.reduceLT, Int.reduceLE, Int.reduceAdd, Int.reduceSub, Int.reduceEq, reduceIte, Nat.reduceBNe, Int.reducePow, Nat.reducePow, Int.reduceMul, Int.reduceNeg, isB_i, isB_b, isB_y, isBv_i, isBv_b, eqCells_t, TT]
  have d2 : decide (room < ((1 + szO xs : Nat) : Int)) = false := by simp only [decide_eq_false_iff_not]; omega
  rw [packF_ok hbad q1 q2]
  simp (maxSteps := 4000000) only [Try.results11, hd, d2, XX, Nat.reduceBEq, Nat.reduceLT, Nat.reduceAdd, Nat.reduceMul, Nat.reduceSub, Nat.reduceLeDiff, Nat.reduceEqDiff, Int.reduceToNat, Int.reduceLT, Int.reduceLE, Int.reduceAdd, Int.reduceSub, Int.reduceEq, reduceIte, Nat.reduceBNe, Int.reducePow, Nat.reducePow, Int.reduceMul, Int.reduceNeg, isB_i, isB_b, isB_y, isBv_i, isBv_b, eqCells_t, TT]
  clear hi hlt hd d2 d1
  refine loop_any cx_ok 400 (fun μ σ => ∃ (i : Nat) (H : List SB) (w : Nat) (o : Bool) (z : List UInt8), μ = xs.length - i ∧ i ≤ xs.length ∧ Buf H w o (encAll (xs.take i)) z ∧
      σ = ⟨⟨15, 0⟩, [(0, .c (roO xs sp c)), (11, .c (slB w (encAll (xs.take i)) z)), (12, .c (i64 i))], H⟩) xs.length
    ⟨⟨15, 0⟩, [(0, .c (roO xs sp c)), (11, .c (.sl 0 0 0 0)), (12, .c (i64 (0 : Nat)))], [wB false []]⟩ ⟨0, [wB false []], 0, false, [], rfl, Nat.zero_le _, ⟨by rw [List.take_zero]; rfl, fun h => absurd h (by rw [List.take_zero]; simp [encAll])⟩, by rw [List.take_zero]; rfl⟩
    (.inr ⟨[none], rfl, rfl, by simp only [XX, Nat.reduceBEq, Nat.reduceLT, Nat.reduceAdd, Nat.reduceMul, Nat.reduceSub, Nat.reduceLeDiff, Nat.reduceEqDiff, Int.reduceToNat, Int.reduceLT, Int.reduceLE, Int.reduceAdd, Int.reduceSub, Int.reduceEq, reduceIte, Nat.reduceBNe, Int.reducePow, Nat.reducePow, Int.reduceMul, Int.reduceNeg, isB_i, isB_b, isB_y, isBv_i, isBv_b, eqCells_t, TT, List.map_nil], ⟨.inl ⟨rfl, rfl⟩, wk_nil, .inl ⟨rfl, rfl⟩, trivial⟩⟩) ?_
  rintro μ σ ⟨i, H, w, o, z, rfl, hi, B, rfl⟩
  by_cases hlt : i < xs.length
  · have hd : decide ((i : Int) < (xs.length : Int)) = true := by simp only [decide_eq_true_eq]; omega
    have e3 : IntKind.i64.wrap ((i : Int) + 1) = ((i + 1 : Nat) : Int) := by rw [w64] <;> omega
    obtain ⟨x, hx⟩ : ∃ x, xs[i]? = some x := ⟨_, List.getElem?_eq_getElem hlt⟩
    obtain ⟨R, hR⟩ := osR_at (sp := sp) hx
    obtain ⟨ox1, ox2, ox3⟩ := hok x (List.mem_of_getElem? hx)
    have hsl := szO_take_le xs (i + 1)
    rw [szO_next hx] at hsl
    have hel : (encAll (xs.take i)).length = szO (xs.take i) := encAll_len _
    obtain ⟨pre, hpre⟩ : ∃ pre, pre = encAll (xs.take i) := ⟨_, rfl⟩
    rw [← hpre] at hel B ⊢
    simp (maxSteps := 4000000) only [Try.results11, hd, hR, XX, Nat.reduceBEq, Nat.reduceLT, Nat.reduceAdd, Nat.reduceMul, Nat.reduceSub, Nat.reduceLeDiff, Nat.reduceEqDiff, Int.reduceToNat, Int.reduceLT, Int.reduceLE, Int.reduceAdd, Int.reduceSub, Int.reduceEq, reduceIte, Nat.reduceBNe, Int.reducePow, Nat.reducePow, Int.reduceMul, Int.reduceNeg, isB_i, isB_b, isB_y, isBv_i, isBv_b, eqCells_t, TT]
    refine ⟨by omega, by omega, ?_⟩
    refine loop_any cx_ok 400 (fun μ σ => ∃ (j : Nat) (H : List SB) (w : Nat) (o : Bool) (z : List UInt8), μ = pcs x.d.length - j ∧ (255 * j < x.d.length ∨ j = 0) ∧ Buf H w o (pre ++ encN (UInt8.ofInt x.k) x.d j) z ∧
        σ = ⟨⟨15, 0⟩, [(0, .c (roO xs sp c)), (11, .c (slB w (pre ++ encN (UInt8.ofInt x.k) x.d j) z)), (12, .c (i64 i)), (13, .c (boxC x.d x.sp x.c j))], H⟩) (pcs x.d.length)
      ⟨⟨15, 0⟩, [(0, .c (roO xs sp c)), (11, .c (slB w (pre ++ encN (UInt8.ofInt x.k) x.d 0) z)), (12, .c (i64 i)), (13, .c (boxC x.d x.sp x.c 0))], H⟩ ⟨0, H, w, o, z, rfl, .inr rfl, by rw [show encN (UInt8.ofInt x.k) x.d 0 = [] from rfl, List.append_nil]; exact B, rfl⟩
      (.inl ⟨rfl, rfl, rfl, by rw [show encN (UInt8.ofInt x.k) x.d 0 = [] from rfl, List.append_nil]; rfl, rfl, rfl, trivial⟩) ?_
    clear B
    rintro μ σ ⟨j, H, w, o, z, rfl, hj, B, rfl⟩
    have hjp := pcs_le hj
    have hen := encN_len (UInt8.ofInt x.k) x.d j
    have hen2 := encN_len (UInt8.ofInt x.k) x.d (j + 1)
    have hen3 := encN_len (UInt8.ofInt x.k) x.d (pcs x.d.length)
    have hpf := pcs_full x.d.length
    obtain ⟨q, hq⟩ : ∃ q, q = pre ++ encN (UInt8.ofInt x.k) x.d j := ⟨_, rfl⟩
    rw [← hq] at B ⊢
    have hql : q.length = pre.length + (encN (UInt8.ofInt x.k) x.d j).length := by rw [hq, List.length_append]
    obtain ⟨m, hm⟩ : ∃ m, m = min 255 (x.d.length - 255 * j) := ⟨_, rfl⟩
    have r2 : List.replicate 2 (SC.v (.int .u8 0)) = [SC.v (.int .u8 0), SC.v (.int .u8 0)] := rfl
    have e0 : (bsR (x.d.drop (255 * j) ++ x.sp)).take m = bsR (pieceL x.d j) := by
      rw [rs_take, hm]; unfold pieceL
      congr 1
      rw [List.take_append_of_le_length (by simp; omega)]
      rw [List.take_eq_take_iff]; simp
    have hpl : (pieceL x.d j).length = m := by rw [pieceL_len, hm]
    unfold boxC
    simp (maxSteps := 4000000) only [Try.results11, hR, min_int, ← hm, byteC_of, u8_ofInt_nat, r2, B.at_, lt_of B.at_, List.append_assoc, List.getElem?_append_left, List.getElem?_append_right, List.length_append, List.length_set, List.set_append_left, gset, List.getElem?_set_ne, Nat.add_sub_cancel_left, Nat.sub_self, Nat.le_refl, Nat.le_add_right, List.replicate_one, List.flatten_cons, List.flatten_nil, rep_flat, XX, Nat.reduceBEq, Nat.reduceLT, Nat.reduceAdd, Nat.reduceMul, Nat.reduceSub, Nat.reduceLeDiff, Nat.reduceEqDiff, Int.reduceToNat, Int.reduceLT, Int.reduceLE, Int.reduceAdd, Int.reduceSub, Int.reduceEq, reduceIte, Nat.reduceBNe, Int.reducePow, Nat.reducePow, Int.reduceMul, Int.reduceNeg, isB_i, isB_b, isB_y, isBv_i, isBv_b, eqCells_t, TT]
    refine ⟨by omega, by omega, ⟨by omega, by unfold maxLen; omega, by simp, fun h => ⟨B.own (by omega), by simp; omega⟩⟩, ?_⟩
    refine xapp_more (news := [UInt8.ofInt x.k, UInt8.ofNat m]) (t := [⟨true, 5, [byteC (UInt8.ofInt x.k), byteC (UInt8.ofNat m)]⟩]) B rfl rfl rfl rfl (by omega) fun H1 w1 z1 B1 h1 h2 h3 => ?_
    obtain ⟨q2, hq2⟩ : ∃ q2, q2 = q ++ [UInt8.ofInt x.k, UInt8.ofNat m] := ⟨_, rfl⟩
    have hq2l : q2.length = q.length + 2 := by rw [hq2]; simp
    rw [← hq2] at B1 ⊢
    simp (maxSteps := 4000000) only [Try.results11, hR, e0, bsR_toSC, bsC_len, hpl, B1.at_, lt_of B1.at_, List.append_assoc, List.getElem?_append_left, List.getElem?_append_right, List.length_append, List.length_set, List.set_append_left, gset, List.getElem?_set_ne, Nat.add_sub_cancel_left, Nat.sub_self, Nat.le_refl, Nat.le_add_right, List.replicate_one, List.flatten_cons, List.flatten_nil, rep_flat, XX, Nat.reduceBEq, Nat.reduceLT, Nat.reduceAdd, Nat.reduceMul, Nat.reduceSub, Nat.reduceLeDiff, Nat.reduceEqDiff, Int.reduceToNat, Int.reduceLT, Int.reduceLE, Int.reduceAdd, Int.reduceSub, Int.reduceEq, reduceIte, Nat.reduceBNe, Int.reducePow, Nat.reducePow, Int.reduceMul, Int.reduceNeg, isB_i, isB_b, isB_y, isBv_i, isBv_b, eqCells_t, TT]
    refine ⟨by omega, ⟨⟨by omega, by unfold maxLen; omega⟩, by simp; omega⟩, xapp_more0 (news := pieceL x.d j) B1 rfl hpl rfl rfl (by omega) fun H2 w2 z2 B2 g1 g2 g3 => ?_⟩
    have hq3 : q2 ++ pieceL x.d j = pre ++ encN (UInt8.ofInt x.k) x.d (j + 1) := by
      rw [hq2, hq, encN, ← hm]; simp
    rw [hq3] at B2 ⊢
    by_cases hgt : 255 < x.d.length - 255 * j
    · have hm5 : m = 255 := by omega
      subst hm5
      have d0 : decide (((x.d.length - 255 * j - 255 : Nat) : Int) = 0) = false := by simp only [decide_eq_false_iff_not]; omega
      simp (maxSteps := 4000000) only [Try.results11, d0, XX, Nat.reduceBEq, Nat.reduceLT, Nat.reduceAdd, Nat.reduceMul, Nat.reduceSub, Nat.reduceLeDiff, Nat.reduceEqDiff, Int.reduceToNat, Int.reduceLT, Int.reduceLE, Int.reduceAdd, Int.reduceSub, Int.reduceEq, reduceIte, Nat.reduceBNe, Int.reducePow, Nat.reducePow, Int.reduceMul, Int.reduceNeg, isB_i, isB_b, isB_y, isBv_i, isBv_b, eqCells_t, TT]
      refine ⟨by omega, pcs x.d.length - (j + 1), by omega, _, ⟨j + 1, H2, w2, true, z2, rfl, .inl (by omega), B2, rfl⟩, .inl ⟨rfl, rfl, rfl, rfl, rfl, ?_, trivial⟩⟩
      have := boxC_next (sp := x.sp) (c := x.c) hgt
      unfold boxC at this
      rw [this]
      rfl
    · have hm5 : m = x.d.length - 255 * j := by omega
      have hjn : j + 1 = pcs x.d.length := by unfold pcs; rcases hj with h | h <;> omega
      have hpx : pre ++ encN (UInt8.ofInt x.k) x.d (j + 1) = encAll (xs.take (i + 1)) := by rw [hjn, hpre, encAll_next hx]; rfl
      rw [hpx] at B2 ⊢
      have d0 : decide (((x.d.length - 255 * j - m : Nat) : Int) = 0) = true := by simp only [decide_eq_true_eq]; omega
      simp (maxSteps := 4000000) only [Try.results11, d0, e3, XX, Nat.reduceBEq, Nat.reduceLT, Nat.reduceAdd, Nat.reduceMul, Nat.reduceSub, Nat.reduceLeDiff, Nat.reduceEqDiff, Int.reduceToNat, Int.reduceLT, Int.reduceLE, Int.reduceAdd, Int.reduceSub, Int.reduceEq, reduceIte, Nat.reduceBNe, Int.reducePow, Nat.reducePow, Int.reduceMul, Int.reduceNeg, isB_i, isB_b, isB_y, isBv_i, isBv_b, eqCells_t, TT]
      exact ⟨by omega, xs.length - (i + 1), by omega, _, ⟨i + 1, H2, w2, true, z2, rfl, by omega, B2, rfl⟩, .inl ⟨rfl, rfl, rfl, rfl, rfl, trivial⟩⟩
  obtain rfl : i = xs.length := by omega
  have hd : decide ((xs.length : Int) < (xs.length : Int)) = false := by simp
  rw [List.take_length] at B ⊢
  have hel := encAll_len xs
  have r1 : List.replicate 1 (SC.v (.int .u8 0)) = [SC.v (.int .u8 0)] := rfl
  have b255 : SC.v (.int .u8 255) = byteC 255 := rfl
  simp (maxSteps := 4000000) only [Try.results11, hd, r1, b255, B.at_, lt_of B.at_, List.append_assoc, List.getElem?_append_left, List.getElem?_append_right, List.length_append, List.length_set, List.set_append_left, gset, List.getElem?_set_ne, Nat.add_sub_cancel_left, Nat.sub_self, Nat.le_refl, Nat.le_add_right, List.replicate_one, List.flatten_cons, List.flatten_nil, rep_flat, XX, Nat.reduceBEq, Nat.reduceLT, Nat.reduceAdd, Nat.reduceMul, Nat.reduceSub, Nat.reduceLeDiff, Nat.reduceEqDiff, Int.reduceToNat, Int.reduceLT, Int.reduceLE, Int.reduceAdd, Int.reduceSub, Int.reduceEq, reduceIte, Nat.reduceBNe, Int.reducePow, Nat.reducePow, Int.reduceMul, Int.reduceNeg, isB_i, isB_b, isB_y, isBv_i, isBv_b, eqCells_t, TT]
  refine ⟨⟨by omega, by unfold maxLen; omega, by simp, fun h => ⟨B.own (by omega), by simp; omega⟩⟩, xapp_one (t := [⟨true, 5, [byteC 255]⟩]) B rfl rfl rfl fun H1 w1 z1 B1 h1 h2 h3 => ?_⟩
  simp (maxSteps := 4000000) only [Try.results11, XX, Nat.reduceBEq, Nat.reduceLT, Nat.reduceAdd, Nat.reduceMul, Nat.reduceSub, Nat.reduceLeDiff, Nat.reduceEqDiff, Int.reduceToNat, Int.reduceLT, Int.reduceLE, Int.reduceAdd, Int.reduceSub, Int.reduceEq, reduceIte, Nat.reduceBNe, Int.reducePow, Nat.reducePow, Int.reduceMul, Int.reduceNeg, isB_i, isB_b, isB_y, isBv_i, isBv_b, eqCells_t, TT]
  exact .inl ⟨w1, z1, true, by simp only [slB, List.length_append], B1⟩

end Go.Proofs.Ytflccffjfnfoiaa.Sx
