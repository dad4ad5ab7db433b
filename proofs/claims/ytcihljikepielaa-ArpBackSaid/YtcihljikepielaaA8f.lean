/- The symbolic executor, at work: questions for addresses, any bytes. No condition. -/
import Derived.Test.YtcihljikepielaaA8e
import Derived.Test.YtcihljikepielaaA8d
import Derived.Test.YtcihljikepielaaOw
namespace Go.Proofs.Ytcihljikepielaa.Sx
open Go
set_option linter.unusedSimpArgs false
set_option linter.unusedVariables false
set_option maxRecDepth 10000
set_option maxHeartbeats 2000000

/-- What reading gives. -/
structure AD where
  o : Int
  sm : M6
  si : Nat
  dm : M6
  di : Nat
  e : Int
abbrev AD.sv (d : AD) : SV := .tup [(true, arpC d.o d.sm d.si d.dm d.di), (false, [i64 d.e])]

theorem pop {n : Nat} {l : List UInt8} (h : n + 1 ≤ l.length) : ∃ x t, l = x :: t ∧ n ≤ t.length := by
  match l, h with
  | x :: t, h => exact ⟨x, t, rfl, by simpa using h⟩
theorem a28_of {l : List UInt8} (h : ¬ l.length < 28) : ∃ (a : A28) (t : List UInt8), l = a.l ++ t := by
  have h0 : 28 ≤ l.length := by omega
  obtain ⟨x0, t0, rfl, h1⟩ := pop (n := 27) h0
  obtain ⟨x1, t1, rfl, h2⟩ := pop (n := 26) h1
  obtain ⟨x2, t2, rfl, h3⟩ := pop (n := 25) h2
  obtain ⟨x3, t3, rfl, h4⟩ := pop (n := 24) h3
  obtain ⟨x4, t4, rfl, h5⟩ := pop (n := 23) h4
  obtain ⟨x5, t5, rfl, h6⟩ := pop (n := 22) h5
  obtain ⟨x6, t6, rfl, h7⟩ := pop (n := 21) h6
  obtain ⟨x7, t7, rfl, h8⟩ := pop (n := 20) h7
  obtain ⟨x8, t8, rfl, h9⟩ := pop (n := 19) h8
  obtain ⟨x9, t9, rfl, h10⟩ := pop (n := 18) h9
  obtain ⟨x10, t10, rfl, h11⟩ := pop (n := 17) h10
  obtain ⟨x11, t11, rfl, h12⟩ := pop (n := 16) h11
  obtain ⟨x12, t12, rfl, h13⟩ := pop (n := 15) h12
  obtain ⟨x13, t13, rfl, h14⟩ := pop (n := 14) h13
  obtain ⟨x14, t14, rfl, h15⟩ := pop (n := 13) h14
  obtain ⟨x15, t15, rfl, h16⟩ := pop (n := 12) h15
  obtain ⟨x16, t16, rfl, h17⟩ := pop (n := 11) h16
  obtain ⟨x17, t17, rfl, h18⟩ := pop (n := 10) h17
  obtain ⟨x18, t18, rfl, h19⟩ := pop (n := 9) h18
  obtain ⟨x19, t19, rfl, h20⟩ := pop (n := 8) h19
  obtain ⟨x20, t20, rfl, h21⟩ := pop (n := 7) h20
  obtain ⟨x21, t21, rfl, h22⟩ := pop (n := 6) h21
  obtain ⟨x22, t22, rfl, h23⟩ := pop (n := 5) h22
  obtain ⟨x23, t23, rfl, h24⟩ := pop (n := 4) h23
  obtain ⟨x24, t24, rfl, h25⟩ := pop (n := 3) h24
  obtain ⟨x25, t25, rfl, h26⟩ := pop (n := 2) h25
  obtain ⟨x26, t26, rfl, h27⟩ := pop (n := 1) h26
  obtain ⟨x27, t27, rfl, h28⟩ := pop (n := 0) h27
  exact ⟨⟨⟨x0, x1, x2, x3, x4, x5⟩, x6, x7, ⟨x8, x9, x10, x11, x12, x13⟩, x14, x15, x16, x17, ⟨x18, x19, x20, x21, x22, x23⟩, x24, x25, x26, x27⟩, t27, rfl⟩

theorem res_ad (a : A28) : ∃ d : AD, a.res = d.sv ∧ d.si < 4294967296 ∧ d.di < 4294967296 ∧ (d.e = 0 → a.good = true ∧ d = ⟨a.op, a.sm, a.si, a.dm, a.di, 0⟩) := by
  have := a.i0.toNat_lt
  have := a.i1.toNat_lt
  have := a.i2.toNat_lt
  have := a.i3.toNat_lt
  have := a.j0.toNat_lt
  have := a.j1.toNat_lt
  have := a.j2.toNat_lt
  have := a.j3.toNat_lt
  unfold A28.res
  cases h : a.good
  · exact ⟨⟨0, .nul, 0, .nul, 0, 80⟩, rfl, by decide, by decide, fun h => absurd h (by decide)⟩
  · exact ⟨⟨a.op, a.sm, a.si, a.dm, a.di, 0⟩, rfl, by simp only [A28.si, n4]; omega, by simp only [A28.di, n4]; omega, fun _ => ⟨rfl, rfl⟩⟩

theorem dec_both (l : List UInt8) (hl : l.length ≤ 140737488355328) : ∃ d : AD, (∀ sp c, l.length ≤ c → Spec cx.P 14 [.c (roB l sp c)] [] fun s _ => s.plain = true ∧ s = d.sv) ∧
    (∀ sp c, l.length ≤ c → Spec cx.P 16 [.c (roB l sp c)] [] fun s _ => s.plain = true ∧ s = d.sv) ∧
    (d.e = 0 → ∃ (a : A28) (t : List UInt8), l = a.l ++ t ∧ a.good = true ∧ d = ⟨a.op, a.sm, a.si, a.dm, a.di, 0⟩) := by
  by_cases h : l.length < 28
  · exact ⟨⟨0, .nul, 0, .nul, 0, 5⟩, fun sp c hc => dec_short l sp c h, fun sp c hc => rdec_short l sp c h, fun h => absurd h (by decide)⟩
  obtain ⟨a, t, rfl⟩ := a28_of h
  obtain ⟨d, hd, _, _, h4⟩ := res_ad a
  refine ⟨d, fun sp c hc => ?_, fun sp c hc => ?_, fun h => ⟨a, t, rfl, (h4 h).1, (h4 h).2⟩⟩
  · have := dec_spec a t _ sp rfl c hc hl
    rwa [hd] at this
  · have := rdec_spec a t _ sp rfl c hc hl
    rwa [hd] at this

theorem lent_noRo {l : List UInt8} {n c : Nat} {t : SV} {h' : List SB} (h : t = .c (.sl 0 0 n c) ∧ h' = [wB true l]) : t.noRo = true ∧ (h'.all fun b => b.cells.all SC.noRo) = true := by
  obtain ⟨rfl, rfl⟩ := h
  exact ⟨rfl, by simp only [XX, Nat.reduceBEq, Nat.reduceLT, Nat.reduceAdd, Nat.reduceMul, Nat.reduceSub, Nat.reduceLeDiff, Nat.reduceEqDiff, Int.reduceToNat, Int.reduceLT, Int.reduceLE, Int.reduceAdd, Int.reduceSub, Int.reduceEq, reduceIte, Nat.reduceBNe, Int.reducePow, Nat.reducePow, Int.reduceMul, Int.reduceNeg, isB_i, isB_b, isB_y, isBv_i, isBv_b, eqCells_t, TT, ids_bsC, ren_bsC, noRo_bsC, plain_bsC, lt_bsC, ids_byte, ren_byte, noRo_byte, plain_byte, lt_byte]⟩

theorem arpDecodes_walk : ∀ css, RTyL (RTy T reachBytes DEPTH) [28, 28] css → Spec Try.prog 5 (svs T [28, 28] css) [] fun r _ => r = .c (.v (.bool true)) := by
  intro css h
  obtain ⟨x3, xs3, rfl, h3, g3⟩ := RTyL_cons h
  obtain ⟨x4, xs4, rfl, h4, g4⟩ := RTyL_cons g3
  obtain rfl := RTyL_nil g4
  obtain ⟨l, sp, c, rfl, hl1, hl2, hl3, hl4⟩ := RTy_bytes h3
  obtain ⟨l', sp', c', rfl, hl1', hl2', hl3', hl4'⟩ := RTy_bytes h4
  have e3 : svOf T 28 [.sl (bsR (l ++ sp)) l.length c] = .c (roB l sp c) := rfl
  have e4 : svOf T 28 [.sl (bsR (l' ++ sp')) l'.length c'] = .c (roB l' sp' c') := rfl
  simp only [svs, e3, e4]
  clear h3 h4 g3 g4 h e3 e4
  unfold reachBytes at hl4 hl4'
  refine spec_of_X cx_ok Try.func5 rfl (by kernel_rfl) (by kernel_rfl) (Nat.le_of_ble_eq_true rfl) 400 18 ?_
  simp (maxSteps := 4000000) only [Try.results5, XX, Nat.reduceBEq, Nat.reduceLT, Nat.reduceAdd, Nat.reduceMul, Nat.reduceSub, Nat.reduceLeDiff, Nat.reduceEqDiff, Int.reduceToNat, Int.reduceLT, Int.reduceLE, Int.reduceAdd, Int.reduceSub, Int.reduceEq, reduceIte, Nat.reduceBNe, Int.reducePow, Nat.reducePow, Int.reduceMul, Int.reduceNeg, isB_i, isB_b, isB_y, isBv_i, isBv_b, eqCells_t, TT]
  refine call_plain (live_spec) rfl ?_
  rintro _ rfl
  simp (maxSteps := 4000000) only [Try.results5, XX, Nat.reduceBEq, Nat.reduceLT, Nat.reduceAdd, Nat.reduceMul, Nat.reduceSub, Nat.reduceLeDiff, Nat.reduceEqDiff, Int.reduceToNat, Int.reduceLT, Int.reduceLE, Int.reduceAdd, Int.reduceSub, Int.reduceEq, reduceIte, Nat.reduceBNe, Int.reducePow, Nat.reducePow, Int.reduceMul, Int.reduceNeg, isB_i, isB_b, isB_y, isBv_i, isBv_b, eqCells_t, TT]
  obtain ⟨d, hA, hF, _⟩ := dec_both l (by omega)
  obtain ⟨d', hB, hG, _⟩ := dec_both l' (by omega)
  obtain ⟨o, sm, si, dm, di, e⟩ := d
  obtain ⟨o', sm', si', dm', di', e'⟩ := d'
  refine call_fz [.c (roB l sp c)] (lent_spec l sp c (by omega)) (fun t h' h => lent_noRo h) ⟨.inl ⟨rfl, rfl⟩, trivial⟩ ?_
  rintro _ _ ⟨rfl, rfl⟩
  simp (maxSteps := 4000000) only [Try.results5, ids_bsC, ren_bsC, noRo_bsC, plain_bsC, lt_bsC, ids_byte, ren_byte, noRo_byte, plain_byte, lt_byte, XX, Nat.reduceBEq, Nat.reduceLT, Nat.reduceAdd, Nat.reduceMul, Nat.reduceSub, Nat.reduceLeDiff, Nat.reduceEqDiff, Int.reduceToNat, Int.reduceLT, Int.reduceLE, Int.reduceAdd, Int.reduceSub, Int.reduceEq, reduceIte, Nat.reduceBNe, Int.reducePow, Nat.reducePow, Int.reduceMul, Int.reduceNeg, isB_i, isB_b, isB_y, isBv_i, isBv_b, eqCells_t, TT]
  have hx : ∀ {r : Nat → Nat} {n : Nat} {h : List SB} {i : Nat}, h[i]? = some (wB true (l ++ [71, 72])) → frC true (fun _ => true) r n h (.sl i 0 l.length (l.length + 2)) (roB l [71, 72] (l.length + 2)) := fun hb => fz_sl hb rfl rfl
  refine call_pureF [.c (roB l [71, 72] (l.length + 2))] (hA _ _ (by omega)) ⟨fz_c (hx rfl), trivial⟩ ?_
  rintro _ rfl
  dsimp only [AD.sv]
  simp (maxSteps := 4000000) only [Try.results5, ids_bsC, ren_bsC, noRo_bsC, plain_bsC, lt_bsC, ids_byte, ren_byte, noRo_byte, plain_byte, lt_byte, XX, Nat.reduceBEq, Nat.reduceLT, Nat.reduceAdd, Nat.reduceMul, Nat.reduceSub, Nat.reduceLeDiff, Nat.reduceEqDiff, Int.reduceToNat, Int.reduceLT, Int.reduceLE, Int.reduceAdd, Int.reduceSub, Int.reduceEq, reduceIte, Nat.reduceBNe, Int.reducePow, Nat.reducePow, Int.reduceMul, Int.reduceNeg, isB_i, isB_b, isB_y, isBv_i, isBv_b, eqCells_t, TT]
  refine call_pureF [.c (roB l' sp' c')] (hB _ _ hl1') ⟨.inl ⟨rfl, rfl⟩, trivial⟩ ?_
  rintro _ rfl
  dsimp only [AD.sv]
  simp (maxSteps := 4000000) only [Try.results5, ids_bsC, ren_bsC, noRo_bsC, plain_bsC, lt_bsC, ids_byte, ren_byte, noRo_byte, plain_byte, lt_byte, XX, Nat.reduceBEq, Nat.reduceLT, Nat.reduceAdd, Nat.reduceMul, Nat.reduceSub, Nat.reduceLeDiff, Nat.reduceEqDiff, Int.reduceToNat, Int.reduceLT, Int.reduceLE, Int.reduceAdd, Int.reduceSub, Int.reduceEq, reduceIte, Nat.reduceBNe, Int.reducePow, Nat.reducePow, Int.reduceMul, Int.reduceNeg, isB_i, isB_b, isB_y, isBv_i, isBv_b, eqCells_t, TT]
  refine call_pureF [.c (roB l [71, 72] (l.length + 2))] (hA _ _ (by omega)) ⟨fz_c (hx rfl), trivial⟩ ?_
  rintro _ rfl
  dsimp only [AD.sv]
  simp (maxSteps := 4000000) only [Try.results5, ids_bsC, ren_bsC, noRo_bsC, plain_bsC, lt_bsC, ids_byte, ren_byte, noRo_byte, plain_byte, lt_byte, XX, Nat.reduceBEq, Nat.reduceLT, Nat.reduceAdd, Nat.reduceMul, Nat.reduceSub, Nat.reduceLeDiff, Nat.reduceEqDiff, Int.reduceToNat, Int.reduceLT, Int.reduceLE, Int.reduceAdd, Int.reduceSub, Int.reduceEq, reduceIte, Nat.reduceBNe, Int.reducePow, Nat.reducePow, Int.reduceMul, Int.reduceNeg, isB_i, isB_b, isB_y, isBv_i, isBv_b, eqCells_t, TT]
  refine call_frame (asLent_spec l sp c (by omega)) [0] rfl rfl ?_ rfl ?_ ?_
  · simp only [XX, Nat.reduceBEq, Nat.reduceLT, Nat.reduceAdd, Nat.reduceMul, Nat.reduceSub, Nat.reduceLeDiff, Nat.reduceEqDiff, Int.reduceToNat, Int.reduceLT, Int.reduceLE, Int.reduceAdd, Int.reduceSub, Int.reduceEq, reduceIte, Nat.reduceBNe, Int.reducePow, Nat.reducePow, Int.reduceMul, Int.reduceNeg, isB_i, isB_b, isB_y, isBv_i, isBv_b, eqCells_t, TT, preOk, ids_bsC, ren_bsC, noRo_bsC, plain_bsC, lt_bsC, ids_byte, ren_byte, noRo_byte, plain_byte, lt_byte]
  · simp only [XX, Nat.reduceBEq, Nat.reduceLT, Nat.reduceAdd, Nat.reduceMul, Nat.reduceSub, Nat.reduceLeDiff, Nat.reduceEqDiff, Int.reduceToNat, Int.reduceLT, Int.reduceLE, Int.reduceAdd, Int.reduceSub, Int.reduceEq, reduceIte, Nat.reduceBNe, Int.reducePow, Nat.reducePow, Int.reduceMul, Int.reduceNeg, isB_i, isB_b, isB_y, isBv_i, isBv_b, eqCells_t, TT, ids_bsC, ren_bsC, noRo_bsC, plain_bsC, lt_bsC, ids_byte, ren_byte, noRo_byte, plain_byte, lt_byte]
  rintro _ _ ⟨rfl, rfl⟩
  simp (maxSteps := 4000000) only [Try.results5, ids_bsC, ren_bsC, noRo_bsC, plain_bsC, lt_bsC, ids_byte, ren_byte, noRo_byte, plain_byte, lt_byte, XX, Nat.reduceBEq, Nat.reduceLT, Nat.reduceAdd, Nat.reduceMul, Nat.reduceSub, Nat.reduceLeDiff, Nat.reduceEqDiff, Int.reduceToNat, Int.reduceLT, Int.reduceLE, Int.reduceAdd, Int.reduceSub, Int.reduceEq, reduceIte, Nat.reduceBNe, Int.reducePow, Nat.reducePow, Int.reduceMul, Int.reduceNeg, isB_i, isB_b, isB_y, isBv_i, isBv_b, eqCells_t, TT]
  refine call_pureF [.c (roB l sp c)] (hF _ _ hl1) ⟨.inl ⟨rfl, rfl⟩, trivial⟩ ?_
  rintro _ rfl
  dsimp only [AD.sv]
  simp (maxSteps := 4000000) only [Try.results5, ids_bsC, ren_bsC, noRo_bsC, plain_bsC, lt_bsC, ids_byte, ren_byte, noRo_byte, plain_byte, lt_byte, XX, Nat.reduceBEq, Nat.reduceLT, Nat.reduceAdd, Nat.reduceMul, Nat.reduceSub, Nat.reduceLeDiff, Nat.reduceEqDiff, Int.reduceToNat, Int.reduceLT, Int.reduceLE, Int.reduceAdd, Int.reduceSub, Int.reduceEq, reduceIte, Nat.reduceBNe, Int.reducePow, Nat.reducePow, Int.reduceMul, Int.reduceNeg, isB_i, isB_b, isB_y, isBv_i, isBv_b, eqCells_t, TT]
  refine call_pureF [.c (roB l' sp' c')] (hG _ _ hl1') ⟨.inl ⟨rfl, rfl⟩, trivial⟩ ?_
  rintro _ rfl
  dsimp only [AD.sv]
  simp (maxSteps := 4000000) only [Try.results5, ids_bsC, ren_bsC, noRo_bsC, plain_bsC, lt_bsC, ids_byte, ren_byte, noRo_byte, plain_byte, lt_byte, eqCells_y, XX, Nat.reduceBEq, Nat.reduceLT, Nat.reduceAdd, Nat.reduceMul, Nat.reduceSub, Nat.reduceLeDiff, Nat.reduceEqDiff, Int.reduceToNat, Int.reduceLT, Int.reduceLE, Int.reduceAdd, Int.reduceSub, Int.reduceEq, reduceIte, Nat.reduceBNe, Int.reducePow, Nat.reducePow, Int.reduceMul, Int.reduceNeg, isB_i, isB_b, isB_y, isBv_i, isBv_b, eqCells_t, TT]

end Go.Proofs.Ytcihljikepielaa.Sx
