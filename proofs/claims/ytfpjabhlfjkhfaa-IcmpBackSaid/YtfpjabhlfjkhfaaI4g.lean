/- The symbolic executor, at work: the laws of the net's messages. No condition. -/
import Derived.Test.YtfpjabhlfjkhfaaI4f
namespace Go.Proofs.Ytfpjabhlfjkhfaa.Sx
open Go
set_option linter.unusedSimpArgs false
set_option linter.unusedVariables false
set_option linter.unusedSectionVars false
set_option maxRecDepth 10000
set_option maxHeartbeats 2000000

theorem resB_noRo {l : List UInt8} {e : Int} {t : SV} {h' : List SB} (h : resB l e t h') : t.noRo = true ∧ (h'.all fun b => b.cells.all SC.noRo) = true := by
  obtain ⟨sp, o, rfl, rfl, _⟩ := h
  exact ⟨rfl, by simp only [XX, Nat.reduceBEq, Nat.reduceLT, Nat.reduceAdd, Nat.reduceMul, Nat.reduceSub, Nat.reduceLeDiff, Nat.reduceEqDiff, Int.reduceToNat, Int.reduceLT, Int.reduceLE, Int.reduceAdd, Int.reduceSub, Int.reduceEq, reduceIte, Nat.reduceBNe, Int.reducePow, Nat.reducePow, Int.reduceMul, Int.reduceNeg, isB_i, isB_b, isB_y, isBv_i, isBv_b, eqCells_t, TT, ids_bsC, ren_bsC, noRo_bsC, plain_bsC, lt_bsC, ids_byte, ren_byte, noRo_byte, plain_byte, lt_byte]⟩
theorem lent_noRo {l : List UInt8} {n c : Nat} {t : SV} {h' : List SB} (h : t = .c (.sl 0 0 n c) ∧ h' = [wB true l]) : t.noRo = true ∧ (h'.all fun b => b.cells.all SC.noRo) = true := by
  obtain ⟨rfl, rfl⟩ := h
  exact ⟨rfl, by simp only [XX, Nat.reduceBEq, Nat.reduceLT, Nat.reduceAdd, Nat.reduceMul, Nat.reduceSub, Nat.reduceLeDiff, Nat.reduceEqDiff, Int.reduceToNat, Int.reduceLT, Int.reduceLE, Int.reduceAdd, Int.reduceSub, Int.reduceEq, reduceIte, Nat.reduceBNe, Int.reducePow, Nat.reducePow, Int.reduceMul, Int.reduceNeg, isB_i, isB_b, isB_y, isBv_i, isBv_b, eqCells_t, TT, ids_bsC, ren_bsC, noRo_bsC, plain_bsC, lt_bsC, ids_byte, ren_byte, noRo_byte, plain_byte, lt_byte]⟩
theorem ic_fz {r : Nat → Nat} {n : Nat} {h : List SB} {ok : Nat → Bool} {fz : Bool} {a b : Int} {c : Nat} {x y : SC} (hx : frC fz ok r n h x y) : frV fz ok r n h (.agg (icC a b c x)) (.agg (icC a b c y)) :=
  .inr (.inr ⟨_, _, rfl, rfl, .inl ⟨rfl, rfl⟩, .inl ⟨rfl, rfl⟩, .inl ⟨rfl, rfl⟩, hx, trivial⟩)

theorem idecN_spec : Spec cx.P 16 [.c noC] [] fun t _ => t.plain = true ∧ t = .tup [(true, icC 0 0 0 noC), (false, [i64 5])] := by
  refine spec_of_X cx_ok Try.func16 rfl (by kernel_rfl) (by kernel_rfl) (Nat.le_of_ble_eq_true rfl) 400 7 ?_
  simp (maxSteps := 4000000) only [Try.results16, XX, Nat.reduceBEq, Nat.reduceLT, Nat.reduceAdd, Nat.reduceMul, Nat.reduceSub, Nat.reduceLeDiff, Nat.reduceEqDiff, Int.reduceToNat, Int.reduceLT, Int.reduceLE, Int.reduceAdd, Int.reduceSub, Int.reduceEq, reduceIte, Nat.reduceBNe, Int.reducePow, Nat.reducePow, Int.reduceMul, Int.reduceNeg, isB_i, isB_b, isB_y, isBv_i, isBv_b, eqCells_t, TT]
  rfl
theorem live_spec : Spec cx.P 8 [] [] fun s _ => s.plain = true ∧ s = .c (bC true) := by
  have e1 := fun sp c => iencA_spec 8 0 65538 [97, 98] sp c (by omega)
  rw [show iencR 8 0 65538 [97, 98] = ([8, 0, 150, 154, 0, 1, 0, 2, 97, 98], 0) from rfl] at e1
  have d1 := fun sp c h => idec_spec [8, 0, 150, 154, 0, 1, 0, 2, 97, 98] sp c h
  rw [show idecR [8, 0, 150, 154, 0, 1, 0, 2, 97, 98] = ⟨8, 0, 65538, [97, 98], 0⟩ from rfl] at d1
  have a1 := fun sp c h => answ_spec 8 0 65538 [97, 98] sp c h (by simp)
  rw [show answR 8 0 65538 [97, 98] = ⟨0, 0, 65538, [97, 98], true⟩ from rfl] at a1
  have a2 := fun sp c h => answ_spec 0 0 65538 [97, 98] sp c h (by simp)
  rw [show answR 0 0 65538 [97, 98] = ⟨0, 0, 0, [], false⟩ from rfl] at a2
  refine spec_of_X cx_ok Try.func8 rfl (by kernel_rfl) (by kernel_rfl) (Nat.le_of_ble_eq_true rfl) 400 16 ?_
  simp (maxSteps := 4000000) only [Try.results8, XX, Nat.reduceBEq, Nat.reduceLT, Nat.reduceAdd, Nat.reduceMul, Nat.reduceSub, Nat.reduceLeDiff, Nat.reduceEqDiff, Int.reduceToNat, Int.reduceLT, Int.reduceLE, Int.reduceAdd, Int.reduceSub, Int.reduceEq, reduceIte, Nat.reduceBNe, Int.reducePow, Nat.reducePow, Int.reduceMul, Int.reduceNeg, isB_i, isB_b, isB_y, isBv_i, isBv_b, eqCells_t, TT]
  simp only [List.replicate_succ, List.replicate_zero, List.flatten_cons, List.flatten_nil, List.cons_append, List.nil_append, List.drop_succ_cons, List.drop_zero, List.length_cons, List.length_nil, Nat.reduceAdd, Nat.reduceLeDiff, reduceIte]
  simp (maxSteps := 4000000) only [Try.results8, XX, Nat.reduceBEq, Nat.reduceLT, Nat.reduceAdd, Nat.reduceMul, Nat.reduceSub, Nat.reduceLeDiff, Nat.reduceEqDiff, Int.reduceToNat, Int.reduceLT, Int.reduceLE, Int.reduceAdd, Int.reduceSub, Int.reduceEq, reduceIte, Nat.reduceBNe, Int.reducePow, Nat.reducePow, Int.reduceMul, Int.reduceNeg, isB_i, isB_b, isB_y, isBv_i, isBv_b, eqCells_t, TT]
  refine call_fz [.agg (icC 8 0 65538 (roB [97, 98] [] 2))] (e1 [] 2) (fun t h' h => resB_noRo h) ⟨ic_fz (fz_sl rfl rfl rfl), trivial⟩ ?_
  rintro _ _ ⟨z, o, rfl, rfl, ho⟩
  generalize hLL : [(8 : UInt8), 0, 150, 154, 0, 1, 0, 2, 97, 98] = L at *
  have hl : L.length = 10 := by rw [← hLL]; rfl
  dsimp only at ho ⊢
  obtain rfl := ho (by omega)
  have tk : ∀ L z : List UInt8, (bsC (L ++ z)).take L.length = bsC L := fun L z => by rw [bs_take, List.take_left' rfl]
  simp (maxSteps := 4000000) only [Try.results8, ids_bsC, ren_bsC, noRo_bsC, plain_bsC, lt_bsC, ids_byte, ren_byte, noRo_byte, plain_byte, lt_byte, XX, Nat.reduceBEq, Nat.reduceLT, Nat.reduceAdd, Nat.reduceMul, Nat.reduceSub, Nat.reduceLeDiff, Nat.reduceEqDiff, Int.reduceToNat, Int.reduceLT, Int.reduceLE, Int.reduceAdd, Int.reduceSub, Int.reduceEq, reduceIte, Nat.reduceBNe, Int.reducePow, Nat.reducePow, Int.reduceMul, Int.reduceNeg, isB_i, isB_b, isB_y, isBv_i, isBv_b, eqCells_t, TT]
  refine call_fz [.c (roB L z (L.length + z.length))] (d1 z _ (by omega)) (fun t h' h => resI_noRo h) ⟨fz_c (fz_sl rfl rfl rfl), trivial⟩ ?_
  rintro _ _ ⟨z1, o1, rfl, rfl, ho1⟩
  dsimp only at ho1 ⊢
  obtain rfl := ho1 (by simp; omega)
  simp (maxSteps := 4000000) only [Try.results8, ids_bsC, ren_bsC, noRo_bsC, plain_bsC, lt_bsC, ids_byte, ren_byte, noRo_byte, plain_byte, lt_byte, XX, Nat.reduceBEq, Nat.reduceLT, Nat.reduceAdd, Nat.reduceMul, Nat.reduceSub, Nat.reduceLeDiff, Nat.reduceEqDiff, Int.reduceToNat, Int.reduceLT, Int.reduceLE, Int.reduceAdd, Int.reduceSub, Int.reduceEq, reduceIte, Nat.reduceBNe, Int.reducePow, Nat.reducePow, Int.reduceMul, Int.reduceNeg, isB_i, isB_b, isB_y, isBv_i, isBv_b, eqCells_t, TT]
  refine call_fz [.agg (icC 8 0 65538 (roB [97, 98] [] 2))] (a1 [] 2 (by simp)) (fun t h' h => resA_noRo h) ⟨ic_fz (fz_sl rfl rfl rfl), trivial⟩ ?_
  rintro _ _ ⟨z2, o2, rfl, rfl, ho2⟩
  dsimp only at ho2 ⊢
  obtain rfl := ho2 (by simp; omega)
  simp (maxSteps := 4000000) only [Try.results8, ids_bsC, ren_bsC, noRo_bsC, plain_bsC, lt_bsC, ids_byte, ren_byte, noRo_byte, plain_byte, lt_byte, XX, Nat.reduceBEq, Nat.reduceLT, Nat.reduceAdd, Nat.reduceMul, Nat.reduceSub, Nat.reduceLeDiff, Nat.reduceEqDiff, Int.reduceToNat, Int.reduceLT, Int.reduceLE, Int.reduceAdd, Int.reduceSub, Int.reduceEq, reduceIte, Nat.reduceBNe, Int.reducePow, Nat.reducePow, Int.reduceMul, Int.reduceNeg, isB_i, isB_b, isB_y, isBv_i, isBv_b, eqCells_t, TT]
  refine call_fz [.agg (icC 0 0 65538 (roB [97, 98] z2 (2 + z2.length)))] (a2 z2 _ (by simp)) (fun t h' h => resA_noRo h) ⟨ic_fz (fz_sl (l := [97, 98]) rfl rfl rfl), trivial⟩ ?_
  rintro _ _ ⟨z3, o3, rfl, rfl, ho3⟩
  dsimp only at ho3 ⊢
  simp (maxSteps := 4000000) only [Try.results8, ids_bsC, ren_bsC, noRo_bsC, plain_bsC, lt_bsC, ids_byte, ren_byte, noRo_byte, plain_byte, lt_byte, XX, Nat.reduceBEq, Nat.reduceLT, Nat.reduceAdd, Nat.reduceMul, Nat.reduceSub, Nat.reduceLeDiff, Nat.reduceEqDiff, Int.reduceToNat, Int.reduceLT, Int.reduceLE, Int.reduceAdd, Int.reduceSub, Int.reduceEq, reduceIte, Nat.reduceBNe, Int.reducePow, Nat.reducePow, Int.reduceMul, Int.reduceNeg, isB_i, isB_b, isB_y, isBv_i, isBv_b, eqCells_t, TT]
  refine call_fz [.c (i64 3), .c (roB (List.replicate 30 0) [] 30)] (refuse_spec 3 _ [] 30 (by simp) (by simp)) (fun t h' h => resG_noRo h) ⟨.inl ⟨rfl, rfl⟩, fz_c (fz_sl' rfl rfl rfl rfl), trivial⟩ ?_
  rintro _ _ ⟨z4, o4, rfl, rfl, ho4⟩
  simp (maxSteps := 4000000) only [Try.results8, ids_bsC, ren_bsC, noRo_bsC, plain_bsC, lt_bsC, ids_byte, ren_byte, noRo_byte, plain_byte, lt_byte, XX, Nat.reduceBEq, Nat.reduceLT, Nat.reduceAdd, Nat.reduceMul, Nat.reduceSub, Nat.reduceLeDiff, Nat.reduceEqDiff, Int.reduceToNat, Int.reduceLT, Int.reduceLE, Int.reduceAdd, Int.reduceSub, Int.reduceEq, reduceIte, Nat.reduceBNe, Int.reducePow, Nat.reducePow, Int.reduceMul, Int.reduceNeg, isB_i, isB_b, isB_y, isBv_i, isBv_b, eqCells_t, TT]
  refine call_plain (iencK_spec 5 0 0 noC rfl) rfl ?_
  rintro _ rfl
  simp (maxSteps := 4000000) only [Try.results8, ids_bsC, ren_bsC, noRo_bsC, plain_bsC, lt_bsC, ids_byte, ren_byte, noRo_byte, plain_byte, lt_byte, XX, Nat.reduceBEq, Nat.reduceLT, Nat.reduceAdd, Nat.reduceMul, Nat.reduceSub, Nat.reduceLeDiff, Nat.reduceEqDiff, Int.reduceToNat, Int.reduceLT, Int.reduceLE, Int.reduceAdd, Int.reduceSub, Int.reduceEq, reduceIte, Nat.reduceBNe, Int.reducePow, Nat.reducePow, Int.reduceMul, Int.reduceNeg, isB_i, isB_b, isB_y, isBv_i, isBv_b, eqCells_t, TT]
  refine call_plain idecN_spec rfl ?_
  rintro _ rfl
  simp (maxSteps := 4000000) only [Try.results8, ids_bsC, ren_bsC, noRo_bsC, plain_bsC, lt_bsC, ids_byte, ren_byte, noRo_byte, plain_byte, lt_byte, XX, Nat.reduceBEq, Nat.reduceLT, Nat.reduceAdd, Nat.reduceMul, Nat.reduceSub, Nat.reduceLeDiff, Nat.reduceEqDiff, Int.reduceToNat, Int.reduceLT, Int.reduceLE, Int.reduceAdd, Int.reduceSub, Int.reduceEq, reduceIte, Nat.reduceBNe, Int.reducePow, Nat.reducePow, Int.reduceMul, Int.reduceNeg, isB_i, isB_b, isB_y, isBv_i, isBv_b, eqCells_t, TT]
  refine call_pureF [.agg (icC 8 0 65538 (roB [97, 98] z1 (2 + z1.length))), .agg (icC 8 0 65538 (roB [97, 98] [] 2))] (isame_spec 8 0 8 0 65538 65538 [97, 98] [97, 98] z1 [] _ _) ⟨ic_fz (fz_sl (l := [97, 98]) rfl rfl rfl), ic_fz (fz_sl rfl rfl rfl), trivial⟩ ?_
  rintro _ rfl
  have s1 : ((⟨L.toArray⟩ : ByteArray).toList == (⟨#[8, 0, 150, 154, 0, 1, 0, 2, 97, 98]⟩ : ByteArray).toList) = true := by rw [← hLL, str_eq]; rfl
  have s2 : (decide ((8 : Int) = 8) && decide ((0 : Int) = 0) && decide (65538 = 65538) && decide ([(97 : UInt8), 98] = [97, 98])) = true := by simp
  have s3 : (List.take 28 (List.replicate 30 (0 : UInt8))).length = 28 := rfl
  simp (maxSteps := 4000000) only [Try.results8, ids_bsC, ren_bsC, noRo_bsC, plain_bsC, lt_bsC, ids_byte, ren_byte, noRo_byte, plain_byte, lt_byte, tk, strOf_bsC, s1, s2, s3, XX, Nat.reduceBEq, Nat.reduceLT, Nat.reduceAdd, Nat.reduceMul, Nat.reduceSub, Nat.reduceLeDiff, Nat.reduceEqDiff, Int.reduceToNat, Int.reduceLT, Int.reduceLE, Int.reduceAdd, Int.reduceSub, Int.reduceEq, reduceIte, Nat.reduceBNe, Int.reducePow, Nat.reducePow, Int.reduceMul, Int.reduceNeg, isB_i, isB_b, isB_y, isBv_i, isBv_b, eqCells_t, TT]
  exact ⟨by simp, isByte_bsC L⟩

theorem RTy_u32 {B n : Nat} {x : List RC} (h : RTy T B (n + 1) 23 x) : ∃ z : Nat, x = [.v (.int .u32 z)] ∧ z < 4294967296 := by
  obtain ⟨z, rfl, h1, h2⟩ := RTy_int T_23 h
  simp [IntKind.min, IntKind.max, IntKind.bits, IntKind.signed] at h1 h2
  exact ⟨z.toNat, by rw [Int.toNat_of_nonneg h1], by omega⟩

theorem RTy_icmp {B n : Nat} {x : List RC} (h : RTy T B (n + 3) 26 x) : ∃ (k c : Int) (r : Nat) (l sp : List UInt8) (cp : Nat), svOf T 26 x = .agg (icC k c r (roB l sp cp)) ∧ r < 4294967296 ∧ l.length ≤ cp ∧ cp = l.length + sp.length ∧ cp ≤ maxLen ∧ cp ≤ B := by
  obtain ⟨parts, rfl, g⟩ := RTy_struct T_26 h
  obtain ⟨x1, xs1, rfl, h1, g1⟩ := RTyL_cons g
  obtain ⟨x2, xs2, rfl, h2, g2⟩ := RTyL_cons g1
  obtain ⟨x3, xs3, rfl, h3, g3⟩ := RTyL_cons g2
  obtain ⟨x4, xs4, rfl, h4, g4⟩ := RTyL_cons g3
  obtain rfl := RTyL_nil g4
  obtain ⟨a, rfl, ha⟩ := RTy_int T_3 h1
  obtain ⟨b, rfl, hb⟩ := RTy_int T_3 h2
  obtain ⟨r, rfl, hr⟩ := RTy_u32 h3
  obtain ⟨l, sp, c, rfl, hl⟩ := RTy_bytes h4
  exact ⟨a, b, r, l, sp, c, rfl, hr, hl⟩

theorem icmpNumbers_walk : ∀ css, RTyL (RTy T reachBytes DEPTH) [] css → Spec Try.prog 3 (svs T [] css) [] fun r _ => r = .c (.v (.bool true)) := by
  intro css h
  obtain rfl := RTyL_nil h
  simp only [svs]
  refine spec_of_X cx_ok Try.func3 rfl (by kernel_rfl) (by kernel_rfl) (Nat.le_of_ble_eq_true rfl) 400 2 ?_
  simp (maxSteps := 4000000) only [Try.results3, XX, Nat.reduceBEq, Nat.reduceLT, Nat.reduceAdd, Nat.reduceMul, Nat.reduceSub, Nat.reduceLeDiff, Nat.reduceEqDiff, Int.reduceToNat, Int.reduceLT, Int.reduceLE, Int.reduceAdd, Int.reduceSub, Int.reduceEq, reduceIte, Nat.reduceBNe, Int.reducePow, Nat.reducePow, Int.reduceMul, Int.reduceNeg, isB_i, isB_b, isB_y, isBv_i, isBv_b, eqCells_t, TT]
  refine call_plain (live_spec) rfl ?_
  rintro _ rfl
  simp (maxSteps := 4000000) only [Try.results3, XX, Nat.reduceBEq, Nat.reduceLT, Nat.reduceAdd, Nat.reduceMul, Nat.reduceSub, Nat.reduceLeDiff, Nat.reduceEqDiff, Int.reduceToNat, Int.reduceLT, Int.reduceLE, Int.reduceAdd, Int.reduceSub, Int.reduceEq, reduceIte, Nat.reduceBNe, Int.reducePow, Nat.reducePow, Int.reduceMul, Int.reduceNeg, isB_i, isB_b, isB_y, isBv_i, isBv_b, eqCells_t, TT]

theorem icmpEncodes_walk : ∀ css, RTyL (RTy T reachBytes DEPTH) [26, 26] css → Spec Try.prog 4 (svs T [26, 26] css) [] fun r _ => r = .c (.v (.bool true)) := by
  intro css h
  obtain ⟨x3, xs3, rfl, h3, g3⟩ := RTyL_cons h
  obtain ⟨x4, xs4, rfl, h4, g4⟩ := RTyL_cons g3
  obtain rfl := RTyL_nil g4
  obtain ⟨k, c, r, l, sp, cp, e3, hr, hl1, hl2, hl3, hl4⟩ := RTy_icmp h3
  obtain ⟨k', c', r', l', sp', cp', e4, hr', hl1', hl2', hl3', hl4'⟩ := RTy_icmp h4
  simp only [svs, e3, e4]
  clear h3 h4 g3 g4 h e3 e4
  unfold reachBytes at hl4 hl4'
  refine spec_of_X cx_ok Try.func4 rfl (by kernel_rfl) (by kernel_rfl) (Nat.le_of_ble_eq_true rfl) 400 19 ?_
  simp (maxSteps := 4000000) only [Try.results4, XX, Nat.reduceBEq, Nat.reduceLT, Nat.reduceAdd, Nat.reduceMul, Nat.reduceSub, Nat.reduceLeDiff, Nat.reduceEqDiff, Int.reduceToNat, Int.reduceLT, Int.reduceLE, Int.reduceAdd, Int.reduceSub, Int.reduceEq, reduceIte, Nat.reduceBNe, Int.reducePow, Nat.reducePow, Int.reduceMul, Int.reduceNeg, isB_i, isB_b, isB_y, isBv_i, isBv_b, eqCells_t, TT]
  refine call_plain (live_spec) rfl ?_
  rintro _ rfl
  simp (maxSteps := 4000000) only [Try.results4, XX, Nat.reduceBEq, Nat.reduceLT, Nat.reduceAdd, Nat.reduceMul, Nat.reduceSub, Nat.reduceLeDiff, Nat.reduceEqDiff, Int.reduceToNat, Int.reduceLT, Int.reduceLE, Int.reduceAdd, Int.reduceSub, Int.reduceEq, reduceIte, Nat.reduceBNe, Int.reducePow, Nat.reducePow, Int.reduceMul, Int.reduceNeg, isB_i, isB_b, isB_y, isBv_i, isBv_b, eqCells_t, TT]
  have hF := riencA_spec k c r l sp cp hr
  have hG := riencA_spec k' c' r' l' sp' cp' hr'
  have hA := iencA_spec k c r l [71, 72] (l.length + 2) hr
  have hB := iencA_spec k' c' r' l' sp' cp' hr'
  have n1 := iencR_len k c r l
  have n2 := iencR_len k' c' r' l'
  generalize (iencR k c r l).1 = L at *
  generalize (iencR k c r l).2 = E at *
  generalize (iencR k' c' r' l').1 = L' at *
  generalize (iencR k' c' r' l').2 = E' at *
  refine call_fz [.agg (icC k c r (roB l sp cp))] (ilent_spec k c r l sp cp (by omega)) (fun t h' h => by obtain ⟨rfl, rfl⟩ := h; exact ⟨rfl, by simp only [XX, Nat.reduceBEq, Nat.reduceLT, Nat.reduceAdd, Nat.reduceMul, Nat.reduceSub, Nat.reduceLeDiff, Nat.reduceEqDiff, Int.reduceToNat, Int.reduceLT, Int.reduceLE, Int.reduceAdd, Int.reduceSub, Int.reduceEq, reduceIte, Nat.reduceBNe, Int.reducePow, Nat.reducePow, Int.reduceMul, Int.reduceNeg, isB_i, isB_b, isB_y, isBv_i, isBv_b, eqCells_t, TT, ids_bsC, ren_bsC, noRo_bsC, plain_bsC, lt_bsC, ids_byte, ren_byte, noRo_byte, plain_byte, lt_byte]⟩) ⟨.inl ⟨rfl, rfl⟩, trivial⟩ ?_
  rintro _ _ ⟨rfl, rfl⟩
  simp (maxSteps := 4000000) only [Try.results4, ids_bsC, ren_bsC, noRo_bsC, plain_bsC, lt_bsC, ids_byte, ren_byte, noRo_byte, plain_byte, lt_byte, XX, Nat.reduceBEq, Nat.reduceLT, Nat.reduceAdd, Nat.reduceMul, Nat.reduceSub, Nat.reduceLeDiff, Nat.reduceEqDiff, Int.reduceToNat, Int.reduceLT, Int.reduceLE, Int.reduceAdd, Int.reduceSub, Int.reduceEq, reduceIte, Nat.reduceBNe, Int.reducePow, Nat.reducePow, Int.reduceMul, Int.reduceNeg, isB_i, isB_b, isB_y, isBv_i, isBv_b, eqCells_t, TT]
  have hx : ∀ {r : Nat → Nat} {n : Nat} {h : List SB} {i : Nat}, h[i]? = some (wB true (l ++ [71, 72])) → frC true (fun _ => true) r n h (.sl i 0 l.length (l.length + 2)) (roB l [71, 72] (l.length + 2)) := fun hb => fz_sl hb rfl rfl
  refine call_fz [.agg (icC k c r (roB l [71, 72] (l.length + 2)))] hA (fun t h' h => resB_noRo h) ⟨ic_fz (hx rfl), trivial⟩ ?_
  rintro _ _ ⟨z3, o3, rfl, rfl, ho3⟩
  simp (maxSteps := 4000000) only [Try.results4, ids_bsC, ren_bsC, noRo_bsC, plain_bsC, lt_bsC, ids_byte, ren_byte, noRo_byte, plain_byte, lt_byte, XX, Nat.reduceBEq, Nat.reduceLT, Nat.reduceAdd, Nat.reduceMul, Nat.reduceSub, Nat.reduceLeDiff, Nat.reduceEqDiff, Int.reduceToNat, Int.reduceLT, Int.reduceLE, Int.reduceAdd, Int.reduceSub, Int.reduceEq, reduceIte, Nat.reduceBNe, Int.reducePow, Nat.reducePow, Int.reduceMul, Int.reduceNeg, isB_i, isB_b, isB_y, isBv_i, isBv_b, eqCells_t, TT]
  refine call_fz [.agg (icC k' c' r' (roB l' sp' cp'))] hB (fun t h' h => resB_noRo h) ⟨.inl ⟨rfl, rfl⟩, trivial⟩ ?_
  rintro _ _ ⟨z4, o4, rfl, rfl, ho4⟩
  simp (maxSteps := 4000000) only [Try.results4, ids_bsC, ren_bsC, noRo_bsC, plain_bsC, lt_bsC, ids_byte, ren_byte, noRo_byte, plain_byte, lt_byte, XX, Nat.reduceBEq, Nat.reduceLT, Nat.reduceAdd, Nat.reduceMul, Nat.reduceSub, Nat.reduceLeDiff, Nat.reduceEqDiff, Int.reduceToNat, Int.reduceLT, Int.reduceLE, Int.reduceAdd, Int.reduceSub, Int.reduceEq, reduceIte, Nat.reduceBNe, Int.reducePow, Nat.reducePow, Int.reduceMul, Int.reduceNeg, isB_i, isB_b, isB_y, isBv_i, isBv_b, eqCells_t, TT]
  refine call_fz [.agg (icC k c r (roB l [71, 72] (l.length + 2)))] hA (fun t h' h => resB_noRo h) ⟨ic_fz (hx rfl), trivial⟩ ?_
  rintro _ _ ⟨z5, o5, rfl, rfl, ho5⟩
  simp (maxSteps := 4000000) only [Try.results4, ids_bsC, ren_bsC, noRo_bsC, plain_bsC, lt_bsC, ids_byte, ren_byte, noRo_byte, plain_byte, lt_byte, XX, Nat.reduceBEq, Nat.reduceLT, Nat.reduceAdd, Nat.reduceMul, Nat.reduceSub, Nat.reduceLeDiff, Nat.reduceEqDiff, Int.reduceToNat, Int.reduceLT, Int.reduceLE, Int.reduceAdd, Int.reduceSub, Int.reduceEq, reduceIte, Nat.reduceBNe, Int.reducePow, Nat.reducePow, Int.reduceMul, Int.reduceNeg, isB_i, isB_b, isB_y, isBv_i, isBv_b, eqCells_t, TT]
  refine call_frame (asLent_spec l sp cp (by omega)) [2] rfl rfl ?_ rfl ?_ ?_
  · simp only [XX, Nat.reduceBEq, Nat.reduceLT, Nat.reduceAdd, Nat.reduceMul, Nat.reduceSub, Nat.reduceLeDiff, Nat.reduceEqDiff, Int.reduceToNat, Int.reduceLT, Int.reduceLE, Int.reduceAdd, Int.reduceSub, Int.reduceEq, reduceIte, Nat.reduceBNe, Int.reducePow, Nat.reducePow, Int.reduceMul, Int.reduceNeg, isB_i, isB_b, isB_y, isBv_i, isBv_b, eqCells_t, TT, preOk, ids_bsC, ren_bsC, noRo_bsC, plain_bsC, lt_bsC, ids_byte, ren_byte, noRo_byte, plain_byte, lt_byte]
  · simp only [XX, Nat.reduceBEq, Nat.reduceLT, Nat.reduceAdd, Nat.reduceMul, Nat.reduceSub, Nat.reduceLeDiff, Nat.reduceEqDiff, Int.reduceToNat, Int.reduceLT, Int.reduceLE, Int.reduceAdd, Int.reduceSub, Int.reduceEq, reduceIte, Nat.reduceBNe, Int.reducePow, Nat.reducePow, Int.reduceMul, Int.reduceNeg, isB_i, isB_b, isB_y, isBv_i, isBv_b, eqCells_t, TT, ids_bsC, ren_bsC, noRo_bsC, plain_bsC, lt_bsC, ids_byte, ren_byte, noRo_byte, plain_byte, lt_byte]
  rintro _ _ ⟨rfl, rfl⟩
  simp (maxSteps := 4000000) only [Try.results4, ids_bsC, ren_bsC, noRo_bsC, plain_bsC, lt_bsC, ids_byte, ren_byte, noRo_byte, plain_byte, lt_byte, XX, Nat.reduceBEq, Nat.reduceLT, Nat.reduceAdd, Nat.reduceMul, Nat.reduceSub, Nat.reduceLeDiff, Nat.reduceEqDiff, Int.reduceToNat, Int.reduceLT, Int.reduceLE, Int.reduceAdd, Int.reduceSub, Int.reduceEq, reduceIte, Nat.reduceBNe, Int.reducePow, Nat.reducePow, Int.reduceMul, Int.reduceNeg, isB_i, isB_b, isB_y, isBv_i, isBv_b, eqCells_t, TT]
  refine call_fz [.agg (icC k c r (roB l sp cp))] hF (fun t h' h => resB_noRo h) ⟨.inl ⟨rfl, rfl⟩, trivial⟩ ?_
  rintro _ _ ⟨z1, o1, rfl, rfl, ho1⟩
  simp (maxSteps := 4000000) only [Try.results4, ids_bsC, ren_bsC, noRo_bsC, plain_bsC, lt_bsC, ids_byte, ren_byte, noRo_byte, plain_byte, lt_byte, XX, Nat.reduceBEq, Nat.reduceLT, Nat.reduceAdd, Nat.reduceMul, Nat.reduceSub, Nat.reduceLeDiff, Nat.reduceEqDiff, Int.reduceToNat, Int.reduceLT, Int.reduceLE, Int.reduceAdd, Int.reduceSub, Int.reduceEq, reduceIte, Nat.reduceBNe, Int.reducePow, Nat.reducePow, Int.reduceMul, Int.reduceNeg, isB_i, isB_b, isB_y, isBv_i, isBv_b, eqCells_t, TT]
  refine call_fz [.agg (icC k' c' r' (roB l' sp' cp'))] hG (fun t h' h => resB_noRo h) ⟨.inl ⟨rfl, rfl⟩, trivial⟩ ?_
  rintro _ _ ⟨z2, o2, rfl, rfl, ho2⟩
  have tk : ∀ a b : List UInt8, (bsC (a ++ b)).take a.length = bsC a := fun a b => by rw [bs_take, List.take_left' rfl]
  simp (maxSteps := 4000000) only [Try.results4, ids_bsC, ren_bsC, noRo_bsC, plain_bsC, lt_bsC, ids_byte, ren_byte, noRo_byte, plain_byte, lt_byte, tk, strOf_bsC, str_eq, XX, Nat.reduceBEq, Nat.reduceLT, Nat.reduceAdd, Nat.reduceMul, Nat.reduceSub, Nat.reduceLeDiff, Nat.reduceEqDiff, Int.reduceToNat, Int.reduceLT, Int.reduceLE, Int.reduceAdd, Int.reduceSub, Int.reduceEq, reduceIte, Nat.reduceBNe, Int.reducePow, Nat.reducePow, Int.reduceMul, Int.reduceNeg, isB_i, isB_b, isB_y, isBv_i, isBv_b, eqCells_t, TT]
  have q : ∀ a b : List UInt8, a.length ≤ (bsC (a ++ b)).length ∧ ∀ c ∈ bsC a, isByte c = true := fun a b => ⟨by simp, isByte_bsC a⟩
  refine ⟨q _ _, q _ _, q _ _, q _ _, q _ _, q _ _, ?_⟩
  generalize hhp : ([_, _, _, _, _, _, _, _, _, _] : List SB) = hp
  have w1 : hp[4]? = some (wB o3 (L ++ z3)) := by rw [← hhp]; rfl
  have w2 : hp[5]? = some (wB o4 (L' ++ z4)) := by rw [← hhp]; rfl
  have w3 : hp[6]? = some (wB o5 (L ++ z5)) := by rw [← hhp]; rfl
  have wb : hp[9]? = some (bookB nilC nilC) := by rw [← hhp]; rfl
  clear hhp
  refine call_is (take0_spec hp 9 4 L z3 o3 _ (by omega) wb w1) ?_
  rintro _ h1 ⟨rfl, iL, cL, iW, cW, B1, b1, l1, m1⟩
  simp (maxSteps := 4000000) only [Try.results4, XX, Nat.reduceBEq, Nat.reduceLT, Nat.reduceAdd, Nat.reduceMul, Nat.reduceSub, Nat.reduceLeDiff, Nat.reduceEqDiff, Int.reduceToNat, Int.reduceLT, Int.reduceLE, Int.reduceAdd, Int.reduceSub, Int.reduceEq, reduceIte, Nat.reduceBNe, Int.reducePow, Nat.reducePow, Int.reduceMul, Int.reduceNeg, isB_i, isB_b, isB_y, isBv_i, isBv_b, eqCells_t, TT]
  have lt9 := lt_of w2
  have lt10 := lt_of w3
  refine call_is (take_spec h1 9 5 _ _ _ _ _ _ L' z4 o4 _ (by omega) B1 (by simp) ((b1.2 5 lt9 (by decide)).trans w2)) ?_
  rintro _ h2 ⟨rfl, iL2, cL2, iW2, cW2, B2, b2, l2, m2⟩
  simp (maxSteps := 4000000) only [Try.results4, XX, Nat.reduceBEq, Nat.reduceLT, Nat.reduceAdd, Nat.reduceMul, Nat.reduceSub, Nat.reduceLeDiff, Nat.reduceEqDiff, Int.reduceToNat, Int.reduceLT, Int.reduceLE, Int.reduceAdd, Int.reduceSub, Int.reduceEq, reduceIte, Nat.reduceBNe, Int.reducePow, Nat.reducePow, Int.reduceMul, Int.reduceNeg, isB_i, isB_b, isB_y, isBv_i, isBv_b, eqCells_t, TT]
  refine call_is (take_spec h2 9 6 _ _ _ _ _ _ L z5 o5 _ (by omega) B2 (by simp) (((b2.2 6 (by have := b1.1; omega) (by rintro (h | h | h) <;> omega)).trans (b1.2 6 lt10 (by decide))).trans w3)) ?_
  rintro _ h3 ⟨rfl, iL3, cL3, iW3, cW3, B3, b3, l3, m3⟩
  simp (maxSteps := 4000000) only [Try.results4, XX, Nat.reduceBEq, Nat.reduceLT, Nat.reduceAdd, Nat.reduceMul, Nat.reduceSub, Nat.reduceLeDiff, Nat.reduceEqDiff, Int.reduceToNat, Int.reduceLT, Int.reduceLE, Int.reduceAdd, Int.reduceSub, Int.reduceEq, reduceIte, Nat.reduceBNe, Int.reducePow, Nat.reducePow, Int.reduceMul, Int.reduceNeg, isB_i, isB_b, isB_y, isBv_i, isBv_b, eqCells_t, TT]
  refine call_is (owned_spec h3 9 [⟨4, L, z3, o3⟩, ⟨5, L', z4, o4⟩, ⟨6, L, z5, o5⟩] iL3 cL3 iW3 cW3 B3 (owns3 (lt_of wb) b1 l1 m1 b2 l2 m2 b3 w1 w2 w3 (by decide) (by decide) (by decide) ho3 ho4 ho5 (by omega) (by omega) (by omega) (by decide) (by decide) (by decide)) (by simp)) ?_
  rintro _ _ rfl
  simp (maxSteps := 4000000) only [Try.results4, XX, Nat.reduceBEq, Nat.reduceLT, Nat.reduceAdd, Nat.reduceMul, Nat.reduceSub, Nat.reduceLeDiff, Nat.reduceEqDiff, Int.reduceToNat, Int.reduceLT, Int.reduceLE, Int.reduceAdd, Int.reduceSub, Int.reduceEq, reduceIte, Nat.reduceBNe, Int.reducePow, Nat.reducePow, Int.reduceMul, Int.reduceNeg, isB_i, isB_b, isB_y, isBv_i, isBv_b, eqCells_t, TT]

end Go.Proofs.Ytfpjabhlfjkhfaa.Sx
