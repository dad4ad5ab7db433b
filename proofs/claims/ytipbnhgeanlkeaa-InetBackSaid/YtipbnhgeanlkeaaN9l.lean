/- The symbolic executor, at work: the law of a bit that is turned. No condition. -/
import Derived.Test.YtipbnhgeanlkeaaN9k
namespace Go.Proofs.Ytipbnhgeanlkeaa.Sx
open Go
set_option linter.unusedSimpArgs false
set_option linter.unusedVariables false
set_option linter.unusedSectionVars false
set_option maxRecDepth 10000
set_option maxHeartbeats 2000000

/-- A byte of which one bit is turned. -/
theorem turnedAt (a : UInt8) (j : Nat) (hj : j < 8) : ∃ x : UInt8, SC.v (.int .u8 (bitI .xor .u8 (a.toNat : Int) (IntKind.u8.wrap (1 * 2 ^ min j 8)))) = byteC x ∧ (x.toNat = a.toNat + 2 ^ j ∨ x.toNat + 2 ^ j = a.toNat) := by
  have ha := a.toNat_lt
  have hp := pow_lt8 hj
  have hx := xor_two a.toNat j
  have h2 : a.toNat ^^^ 2 ^ j < 2 ^ 8 := Nat.xor_lt_two_pow (by omega) (by omega)
  have hn : (UInt8.ofNat (a.toNat ^^^ 2 ^ j)).toNat = a.toNat ^^^ 2 ^ j := by rw [UInt8.toNat_ofNat']; omega
  refine ⟨UInt8.ofNat (a.toNat ^^^ 2 ^ j), ?_, by rw [hn]; exact hx⟩
  have e1 : IntKind.u8.wrap (1 * 2 ^ min j 8) = ((2 ^ j : Nat) : Int) := by
    rw [Nat.min_eq_left (by omega), Int.one_mul, show ((2 : Int) ^ j) = ((2 ^ j : Nat) : Int) by simp]
    rw [wu8] <;> omega
  rw [e1, xor_u8 (by omega) (by omega), byteC, hn]

theorem inetTells_walk : ∀ css, RTyL (RTy T reachBytes DEPTH) [27, 28, 3] css → Spec Try.prog 7 (svs T [27, 28, 3] css) [] fun r _ => r = .c (.v (.bool true)) := by
  intro css h
  obtain ⟨x1, xs1, rfl, h1, g1⟩ := RTyL_cons h
  obtain ⟨x2, xs2, rfl, h2, g2⟩ := RTyL_cons g1
  obtain ⟨x3, xs3, rfl, h3, g3⟩ := RTyL_cons g2
  obtain rfl := RTyL_nil g3
  obtain ⟨a, e1, a1, a2⟩ := RTy_ip h1
  obtain ⟨l, sp, c, rfl, hl1, hl2, hl3, hl4⟩ := RTy_bytes h2
  obtain ⟨bit, rfl, hbit⟩ := RTy_int T_3 h3
  have e2 : svOf T 28 [.sl (bsR (l ++ sp)) l.length c] = .c (roB l sp c) := rfl
  have e3 : svOf T 3 [.v (.int .i64 bit)] = .c (i64 bit) := rfl
  simp only [svs, e1, e2, e3]
  clear h1 h2 h3 g1 g2 g3 h e1 e2 e3
  unfold reachBytes at hl4
  refine spec_of_X cx_ok Try.func7 rfl (by kernel_rfl) (by kernel_rfl) (Nat.le_of_ble_eq_true rfl) 400 14 ?_
  simp (maxSteps := 4000000) only [Try.results7, XX, Nat.reduceBEq, Nat.reduceLT, Nat.reduceAdd, Nat.reduceMul, Nat.reduceSub, Nat.reduceLeDiff, Nat.reduceEqDiff, Int.reduceToNat, Int.reduceLT, Int.reduceLE, Int.reduceAdd, Int.reduceSub, Int.reduceEq, reduceIte, Nat.reduceBNe, Int.reducePow, Nat.reducePow, Int.reduceMul, Int.reduceNeg, isB_i, isB_b, isB_y, isBv_i, isBv_b, eqCells_t, TT]
  refine call_plain (awake_spec) rfl ?_
  rintro _ rfl
  simp (maxSteps := 4000000) only [Try.results7, XX, Nat.reduceBEq, Nat.reduceLT, Nat.reduceAdd, Nat.reduceMul, Nat.reduceSub, Nat.reduceLeDiff, Nat.reduceEqDiff, Int.reduceToNat, Int.reduceLT, Int.reduceLE, Int.reduceAdd, Int.reduceSub, Int.reduceEq, reduceIte, Nat.reduceBNe, Int.reducePow, Nat.reducePow, Int.reduceMul, Int.reduceNeg, isB_i, isB_b, isB_y, isBv_i, isBv_b, eqCells_t, TT]
  refine call_fz [.agg (ipC a), .c (roB l sp c)] (encA_spec a l sp c a1 a2 (by omega)) (fun t h' h => resB_noRo h) ⟨.inl ⟨rfl, rfl⟩, .inl ⟨rfl, rfl⟩, trivial⟩ ?_
  rintro _ _ ⟨z1, o1, rfl, rfl, ho1⟩
  by_cases hE : encE a l = 0
  · have eR : encR a l = encL a l := if_pos hE
    have hlen := encL_len a l
    have hmax := encR_len a l
    rw [eR] at ho1 hmax
    rw [eR, hE]
    obtain rfl := ho1 (by omega)
    have d20 : decide (((encL a l).length : Int) < 20) = false := by simp only [decide_eq_false_iff_not]; omega
    obtain ⟨n, hn, hn2⟩ : ∃ n : Nat, (((bit.tmod 160) + 160).tmod 160 : Int) = n ∧ n < 160 := by
      have h1 := Int.tmod_lt_of_pos bit (b := 160) (by decide)
      have h2 := Int.lt_tmod_of_pos bit (b := 160) (by decide)
      have h3 := Int.tmod_lt_of_pos (bit.tmod 160 + 160) (b := 160) (by decide)
      have h4 := Int.tmod_nonneg (a := bit.tmod 160 + 160) 160 (by omega)
      exact ⟨((bit.tmod 160 + 160).tmod 160).toNat, by omega, by omega⟩
    have e0 : IntKind.i64.wrap (bit.tmod 160 + 160) = bit.tmod 160 + 160 := by
      have h1 := Int.tmod_lt_of_pos bit (b := 160) (by decide)
      have h2 := Int.lt_tmod_of_pos bit (b := 160) (by decide)
      rw [w64] <;> omega
    have e1 : ((n : Int)).tdiv 8 = ((n / 8 : Nat) : Int) := rfl
    have e2 : ((n : Int)).tmod 8 = ((n % 8 : Nat) : Int) := rfl
    have e3 : IntKind.i64.wrap ((n / 8 : Nat) : Int) = ((n / 8 : Nat) : Int) := by rw [w64] <;> omega
    have e4 : IntKind.u64.wrap ((n % 8 : Nat) : Int) = ((n % 8 : Nat) : Int) := by rw [wu64] <;> omega
    have hi : n / 8 < (encL a l).length := by omega
    obtain ⟨x, hbx, hx⟩ := turnedAt ((encL a l).getD (n / 8) 0) (n % 8) (by omega)
    have hR : (bsC (encL a l ++ z1)).getD (n / 8) .any = SC.v (.int .u8 ((encL a l).getD (n / 8) 0).toNat) := by
      rw [List.getD_eq_getElem?_getD, List.getElem?_map, List.getElem?_append_left hi, List.getD_eq_getElem?_getD, List.getElem?_eq_getElem hi]; rfl
    have hD := dec_flip (h := a) (l := l) z1 (i := n / 8) (j := n % 8) (x := x) (by omega) (by omega) hx
    have hdec := dec_spec ((encL a l).set (n / 8) x) z1 ((encL a l).length + z1.length) (by simp) (by simp; omega)
    have hD2 := dec_flip (h := a) (l := l) [] (i := n / 8) (j := n % 8) (x := x) (by omega) (by omega) hx
    rw [List.append_nil] at hD2
    simp (maxSteps := 4000000) only [Try.results7, ids_bsC, ren_bsC, noRo_bsC, plain_bsC, lt_bsC, ids_byte, ren_byte, noRo_byte, plain_byte, lt_byte, d20, e0, hn, e1, e2, e3, e4, Int.toNat_natCast, hR, hbx, cells_set hi, XX, Nat.reduceBEq, Nat.reduceLT, Nat.reduceAdd, Nat.reduceMul, Nat.reduceSub, Nat.reduceLeDiff, Nat.reduceEqDiff, Int.reduceToNat, Int.reduceLT, Int.reduceLE, Int.reduceAdd, Int.reduceSub, Int.reduceEq, reduceIte, Nat.reduceBNe, Int.reducePow, Nat.reducePow, Int.reduceMul, Int.reduceNeg, isB_i, isB_b, isB_y, isBv_i, isBv_b, eqCells_t, TT]
    refine ⟨⟨by omega, by omega⟩, by simp; omega, by omega, ⟨by omega, by omega⟩, by simp; omega, ?_⟩
    generalize decI ((encL a l).set (n / 8) x) = I at *
    generalize decD ((encL a l).set (n / 8) x) = D at *
    generalize decE ((encL a l).set (n / 8) x) = E at *
    refine call_fz [.c (roB ((encL a l).set (n / 8) x) z1 ((encL a l).length + z1.length))] hdec (fun t h' h => resP_noRo h) ⟨fz_c (fz_sl' (by simp) rfl rfl rfl), trivial⟩ ?_
    rintro _ _ ⟨z2, o2, rfl, rfl, ho2⟩
    have dE : decide (E = 0) = false := by simpa using hD2
    simp (maxSteps := 4000000) only [Try.results7, ids_bsC, ren_bsC, noRo_bsC, plain_bsC, lt_bsC, ids_byte, ren_byte, noRo_byte, plain_byte, lt_byte, dE, XX, Nat.reduceBEq, Nat.reduceLT, Nat.reduceAdd, Nat.reduceMul, Nat.reduceSub, Nat.reduceLeDiff, Nat.reduceEqDiff, Int.reduceToNat, Int.reduceLT, Int.reduceLE, Int.reduceAdd, Int.reduceSub, Int.reduceEq, reduceIte, Nat.reduceBNe, Int.reducePow, Nat.reducePow, Int.reduceMul, Int.reduceNeg, isB_i, isB_b, isB_y, isBv_i, isBv_b, eqCells_t, TT]
  · have dE : decide (encE a l = 0) = false := by simpa using hE
    simp (maxSteps := 4000000) only [Try.results7, ids_bsC, ren_bsC, noRo_bsC, plain_bsC, lt_bsC, ids_byte, ren_byte, noRo_byte, plain_byte, lt_byte, dE, XX, Nat.reduceBEq, Nat.reduceLT, Nat.reduceAdd, Nat.reduceMul, Nat.reduceSub, Nat.reduceLeDiff, Nat.reduceEqDiff, Int.reduceToNat, Int.reduceLT, Int.reduceLE, Int.reduceAdd, Int.reduceSub, Int.reduceEq, reduceIte, Nat.reduceBNe, Int.reducePow, Nat.reducePow, Int.reduceMul, Int.reduceNeg, isB_i, isB_b, isB_y, isBv_i, isBv_b, eqCells_t, TT]

end Go.Proofs.Ytipbnhgeanlkeaa.Sx
