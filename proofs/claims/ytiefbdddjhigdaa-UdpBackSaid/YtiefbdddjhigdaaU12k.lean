/- The symbolic executor, at work: the law of datagrams, there and back. No condition. -/
import Derived.Test.YtiefbdddjhigdaaU12j
namespace Go.Proofs.Ytiefbdddjhigdaa.Sx
open Go
set_option linter.unusedSimpArgs false
set_option linter.unusedVariables false
set_option maxRecDepth 10000
set_option maxHeartbeats 4000000

theorem uenc_ok {src dst : Nat} {a b : Int} {l : List UInt8} (h : (uencR src dst a b l).2 = 0) : ∃ s d : Nat, a = s ∧ b = d ∧ s < 65536 ∧ d < 65536 ∧ d ≠ 0 ∧ l.length ≤ 1472 ∧ (uencR src dst a b l).1 = udpL s d l (usum src dst s d l) := by
  unfold uencR at h ⊢
  split at h
  · exact absurd h (by decide)
  next g1 =>
  split at h
  · exact absurd h (by decide)
  next g2 =>
  split at h
  · exact absurd h (by decide)
  next g3 =>
  rw [if_neg g1, if_neg g2, if_neg g3]
  exact ⟨a.toNat, b.toNat, by omega, by omega, by omega, by omega, by omega, by omega, rfl⟩

theorem udpL_take6 (s d : Nat) (l : List UInt8) (x : Nat) : (udpL s d l x).take 6 = be2 s ++ be2 d ++ be2 (8 + l.length) := rfl
theorem udpL_drop8 (s d : Nat) (l : List UInt8) (x : Nat) : (udpL s d l x).drop 8 = l := rfl
theorem udpBack_walk : ∀ css, RTyL (RTy T reachBytes DEPTH) [23, 23, 26, 24, 3] css → Spec Try.prog 6 (svs T [23, 23, 26, 24, 3] css) [] fun r _ => r = .c (.v (.bool true)) := by
  intro css h
  obtain ⟨x1, xs1, rfl, h1, g1⟩ := RTyL_cons h
  obtain ⟨x2, xs2, rfl, h2, g2⟩ := RTyL_cons g1
  obtain ⟨x3, xs3, rfl, h3, g3⟩ := RTyL_cons g2
  obtain ⟨x4, xs4, rfl, h4, g4⟩ := RTyL_cons g3
  obtain ⟨x5, xs5, rfl, h5, g5⟩ := RTyL_cons g4
  obtain rfl := RTyL_nil g5
  obtain ⟨src, rfl, hsrc⟩ := RTy_u32 h1
  obtain ⟨dst, rfl, hdst⟩ := RTy_u32 h2
  obtain ⟨a, b, l, sp, c, e3, hl1, hl2, hl3, hl4⟩ := RTy_udp h3
  obtain ⟨l', sp', c', rfl, hl1', hl2', hl3', hl4'⟩ := RTy_bytes h4
  obtain ⟨bit, rfl, hbit⟩ := RTy_int T_3 h5
  have e1 : svOf T 23 [.v (.int .u32 src)] = .c (i32 src) := rfl
  have e2 : svOf T 23 [.v (.int .u32 dst)] = .c (i32 dst) := rfl
  have e5 : svOf T 3 [.v (.int .i64 bit)] = .c (i64 bit) := rfl
  have e4 : svOf T 24 [.sl (bsR (l' ++ sp')) l'.length c'] = .c (roB l' sp' c') := rfl
  simp only [svs, e1, e2, e3, e4, e5]
  clear h1 h2 h3 h4 h5 g1 g2 g3 g4 g5 h e1 e2 e3 e4 e5
  unfold reachBytes at hl4 hl4'
  refine spec_of_X cx_ok Try.func6 rfl (by kernel_rfl) (by kernel_rfl) (Nat.le_of_ble_eq_true rfl) 400 28 ?_
  simp (maxSteps := 4000000) only [Try.results6, XX, Nat.reduceBEq, Nat.reduceLT, Nat.reduceAdd, Nat.reduceMul, Nat.reduceSub, Nat.reduceLeDiff, Nat.reduceEqDiff, Int.reduceToNat, Int.reduceLT, Int.reduceLE, Int.reduceAdd, Int.reduceSub, Int.reduceEq, reduceIte, Nat.reduceBNe, Int.reducePow, Nat.reducePow, Int.reduceMul, Int.reduceNeg, isB_i, isB_b, isB_y, isBv_i, isBv_b, eqCells_t, TT]
  refine call_plain (awake_spec) rfl ?_
  rintro _ rfl
  simp (maxSteps := 4000000) only [Try.results6, XX, Nat.reduceBEq, Nat.reduceLT, Nat.reduceAdd, Nat.reduceMul, Nat.reduceSub, Nat.reduceLeDiff, Nat.reduceEqDiff, Int.reduceToNat, Int.reduceLT, Int.reduceLE, Int.reduceAdd, Int.reduceSub, Int.reduceEq, reduceIte, Nat.reduceBNe, Int.reducePow, Nat.reducePow, Int.reduceMul, Int.reduceNeg, isB_i, isB_b, isB_y, isBv_i, isBv_b, eqCells_t, TT]
  have hA := uencAll_spec src dst a b l sp c hsrc hdst
  have tk : ∀ a b : List UInt8, (bsC (a ++ b)).take a.length = bsC a := fun a b => by rw [bs_take, List.take_left' rfl]
  refine call_fz [.c (i32 src), .c (i32 dst), .agg (udpC a b (roB l sp c))] hA (fun t h' h => resB_noRo h) ⟨.inl ⟨rfl, rfl⟩, .inl ⟨rfl, rfl⟩, .inl ⟨rfl, rfl⟩, trivial⟩ ?_
  rintro _ _ ⟨z3, o3, rfl, rfl, ho3⟩
  simp (maxSteps := 4000000) only [Try.results6, ids_bsC, ren_bsC, noRo_bsC, plain_bsC, lt_bsC, ids_byte, ren_byte, noRo_byte, plain_byte, lt_byte, XX, Nat.reduceBEq, Nat.reduceLT, Nat.reduceAdd, Nat.reduceMul, Nat.reduceSub, Nat.reduceLeDiff, Nat.reduceEqDiff, Int.reduceToNat, Int.reduceLT, Int.reduceLE, Int.reduceAdd, Int.reduceSub, Int.reduceEq, reduceIte, Nat.reduceBNe, Int.reducePow, Nat.reducePow, Int.reduceMul, Int.reduceNeg, isB_i, isB_b, isB_y, isBv_i, isBv_b, eqCells_t, TT]
  by_cases hE : (uencR src dst a b l).2 = 0
  · obtain ⟨s, d, rfl, rfl, hs, hd, hd0, hl, hL⟩ := uenc_ok hE
    have hlen := udpL_len s d l (usum src dst s d l)
    have hI := udec_laid (behind := l') hsrc hdst hs hd hd0 hl
    have hT := @udec_turned src dst s d l l' hsrc hdst hs hd hd0 hl
    rw [← hL] at hlen hI hT
    generalize (uencR src dst s d l).1 = L at *
    rw [hE]
    obtain rfl := ho3 (by omega)
    have tk3 := tk L z3
    simp (maxSteps := 4000000) only [Try.results6, tk3, XX, Nat.reduceBEq, Nat.reduceLT, Nat.reduceAdd, Nat.reduceMul, Nat.reduceSub, Nat.reduceLeDiff, Nat.reduceEqDiff, Int.reduceToNat, Int.reduceLT, Int.reduceLE, Int.reduceAdd, Int.reduceSub, Int.reduceEq, reduceIte, Nat.reduceBNe, Int.reducePow, Nat.reducePow, Int.reduceMul, Int.reduceNeg, isB_i, isB_b, isB_y, isBv_i, isBv_b, eqCells_t, TT]
    refine ⟨⟨⟨by omega, by unfold maxLen; omega⟩, by simp⟩, xapp_grow (by omega) fun c3 hc3 _ => ?_⟩
    obtain ⟨y3, rfl⟩ := Nat.exists_eq_add_of_le hc3
    have m9 : (bsR (l' ++ sp')).take l'.length = bsR l' := by rw [rs_take, List.take_left' rfl]
    have cz : bsC L ++ List.replicate y3 (SC.v (.int .u8 0)) = bsC (L ++ List.replicate y3 0) := by rw [bsC_zeros, bs_app]
    simp (maxSteps := 4000000) only [Try.results6, Nat.add_sub_cancel_left, rep_flat, cz, m9, bsR_toSC, bsC_len, List.append_assoc, XX, Nat.reduceBEq, Nat.reduceLT, Nat.reduceAdd, Nat.reduceMul, Nat.reduceSub, Nat.reduceLeDiff, Nat.reduceEqDiff, Int.reduceToNat, Int.reduceLT, Int.reduceLE, Int.reduceAdd, Int.reduceSub, Int.reduceEq, reduceIte, Nat.reduceBNe, Int.reducePow, Nat.reducePow, Int.reduceMul, Int.reduceNeg, isB_i, isB_b, isB_y, isBv_i, isBv_b, eqCells_t, TT]
    refine ⟨⟨⟨by omega, by unfold maxLen; omega, by simp, fun _ => by simp; omega⟩, by simp⟩, ?_⟩
    refine xapp_more0 (H := [_, _, wB true (L ++ List.replicate y3 0)]) (w := 2) (c := L.length + y3) (l := L) (sp := List.replicate y3 0) ⟨rfl, fun _ => rfl⟩ rfl rfl (by simp) rfl (by omega) fun H w z B g1 g2 g3 => ?_
    have b0 := g2 0 (by simp) (by decide)
    have b1 := g2 1 (by simp) (by decide)
    have hD := udec_spec src dst (L ++ l') z ((L ++ l').length + z.length) hsrc hdst (by omega) (by simp; omega)
    rw [hI] at hD
    have n1 : 2 ≤ w := by simp at g3; omega
    clear g2 g3
    simp (maxSteps := 4000000) only [Try.results6, XX, Nat.reduceBEq, Nat.reduceLT, Nat.reduceAdd, Nat.reduceMul, Nat.reduceSub, Nat.reduceLeDiff, Nat.reduceEqDiff, Int.reduceToNat, Int.reduceLT, Int.reduceLE, Int.reduceAdd, Int.reduceSub, Int.reduceEq, reduceIte, Nat.reduceBNe, Int.reducePow, Nat.reducePow, Int.reduceMul, Int.reduceNeg, isB_i, isB_b, isB_y, isBv_i, isBv_b, eqCells_t, TT]
    refine call_fz [.c (i32 src), .c (i32 dst), .c (roB (L ++ l') z ((L ++ l').length + z.length))] hD (fun t h' h => resU_noRo h) ⟨.inl ⟨rfl, rfl⟩, .inl ⟨rfl, rfl⟩, fz_c (fz_sl B.at_ rfl rfl), trivial⟩ ?_
    rintro _ _ ⟨z4, o4, rfl, rfl, ho4⟩
    dsimp only at ho4 ⊢
    have lt0 := lt_of b0
    simp (maxSteps := 4000000) only [Try.results6, ids_bsC, ren_bsC, noRo_bsC, plain_bsC, lt_bsC, ids_byte, ren_byte, noRo_byte, plain_byte, lt_byte, b0, lt0, List.append_assoc, List.getElem?_append_left, List.getElem?_append_right, List.length_append, List.length_set, List.set_append_left, gset, List.getElem?_set_ne, Nat.add_sub_cancel_left, Nat.sub_self, Nat.le_refl, Nat.le_add_right, List.replicate_one, List.flatten_cons, List.flatten_nil, rep_flat, XX, Nat.reduceBEq, Nat.reduceLT, Nat.reduceAdd, Nat.reduceMul, Nat.reduceSub, Nat.reduceLeDiff, Nat.reduceEqDiff, Int.reduceToNat, Int.reduceLT, Int.reduceLE, Int.reduceAdd, Int.reduceSub, Int.reduceEq, reduceIte, Nat.reduceBNe, Int.reducePow, Nat.reducePow, Int.reduceMul, Int.reduceNeg, isB_i, isB_b, isB_y, isBv_i, isBv_b, eqCells_t, TT]
    have hset : ∀ x y v : SB, (H ++ [x, y]).set (H.length + 1) v = H ++ [x, v] := fun x y v => by
      rw [List.set_append_right _ _ (by omega), Nat.add_sub_cancel_left]; rfl
    rw [hset]
    have hq : ∀ x y : SB, (H ++ [x, y])[H.length]? = some x := fun x y => by rw [List.getElem?_append_right (Nat.le_refl _), Nat.sub_self]; rfl
    refine call_pureF [.agg (udpC s d (roB l sp c)), .agg (udpC s d (roB l z4 (l.length + z4.length)))] (rsame_spec s s d d l l sp z4 _ _) ⟨.inl ⟨rfl, rfl⟩, udp_fz (fz_any (hq _ _) ho4), trivial⟩ ?_
    rintro _ rfl
    have s0 : (decide ((s : Int) = s) && decide ((d : Int) = d) && decide (l = l)) = true := by simp
    obtain ⟨k, hk, hk1⟩ := and_mask bit 31 (by omega)
    have hk1 : bitI .and .i64 bit 31 = (k : Int) := hk1
    have wk : IntKind.u64.wrap (k : Int) = (k : Int) := by rw [wu64] <;> omega
    have hp32 : 2 ^ k < 4294967296 := Nat.lt_of_lt_of_le (Nat.pow_lt_pow_right (by omega) (show k < 32 by omega)) (by decide)
    have ek : IntKind.u32.wrap (1 * 2 ^ min (IntKind.u64.wrap (k : Int)).toNat 32) = ((2 ^ k : Nat) : Int) := by
      rw [wk, Int.toNat_natCast, Nat.min_eq_left (by omega), Int.one_mul, show ((2 : Int) ^ k) = ((2 ^ k : Nat) : Int) by simp]
      generalize 2 ^ k = p at hp32
      rw [wu32] <;> omega
    have x1 := xor_u32 (x := src) (y := 2 ^ k) hsrc hp32
    have x2 := xor_u32 (x := dst) (y := 2 ^ k) hdst hp32
    have t1 := hT x1.2 hdst (k := k) (by omega) (.inl ⟨rfl, xor_two src k⟩)
    have t2 := hT hsrc x2.2 (k := k) (by omega) (.inr ⟨rfl, xor_two dst k⟩)
    have hD3 := udec_spec (src ^^^ 2 ^ k) dst (L ++ l') z ((L ++ l').length + z.length) x1.2 hdst (by omega) (by simp; omega)
    have hD4 := udec_spec src (dst ^^^ 2 ^ k) (L ++ l') z ((L ++ l').length + z.length) hsrc x2.2 (by omega) (by simp; omega)
    rw [t1] at hD3
    rw [t2] at hD4
    simp (maxSteps := 4000000) only [Try.results6, s0, hk1, ek, x1.1, x2.1, XX, Nat.reduceBEq, Nat.reduceLT, Nat.reduceAdd, Nat.reduceMul, Nat.reduceSub, Nat.reduceLeDiff, Nat.reduceEqDiff, Int.reduceToNat, Int.reduceLT, Int.reduceLE, Int.reduceAdd, Int.reduceSub, Int.reduceEq, reduceIte, Nat.reduceBNe, Int.reducePow, Nat.reducePow, Int.reduceMul, Int.reduceNeg, isB_i, isB_b, isB_y, isBv_i, isBv_b, eqCells_t, TT]
    refine ⟨by omega, ?_⟩
    generalize hG : H ++ [_, _] = G
    have c0 : G[0]? = some ⟨true, 26, udpC s d (roB l sp c)⟩ := by rw [← hG, List.getElem?_append_left lt0]; exact b0
    have BG : Buf G w true (L ++ l') z := by rw [← hG]; exact B.app
    clear hG g1 b0 b1 lt0 hset hq B
    have lt0 := lt_of c0
    have hset : ∀ (G : List SB) (x y v : SB), (G ++ [x, y]).set (G.length + 1) v = G ++ [x, v] := fun G x y v => by
      rw [List.set_append_right _ _ (by omega), Nat.add_sub_cancel_left]; rfl
    have Bx : ∀ t : List SB, (G ++ t)[w]? = some (wB true (L ++ l' ++ z)) := fun t => BG.app.at_
    refine call_fz [.c (i32 (src ^^^ 2 ^ k : Nat)), .c (i32 dst), .c (roB (L ++ l') z ((L ++ l').length + z.length))] hD3 (fun t h' h => resU_noRo h) ⟨.inl ⟨rfl, rfl⟩, .inl ⟨rfl, rfl⟩, fz_c (fz_sl BG.at_ rfl rfl), trivial⟩ ?_
    rintro _ _ ⟨z5, o5, rfl, rfl, ho5⟩
    dsimp only at ho5 ⊢
    simp (maxSteps := 4000000) only [Try.results6, ids_bsC, ren_bsC, noRo_bsC, plain_bsC, lt_bsC, ids_byte, ren_byte, noRo_byte, plain_byte, lt_byte, hset, c0, lt0, x2.1, List.append_assoc, List.getElem?_append_left, List.getElem?_append_right, List.length_append, List.length_set, List.set_append_left, gset, List.getElem?_set_ne, Nat.add_sub_cancel_left, Nat.sub_self, Nat.le_refl, Nat.le_add_right, List.replicate_one, List.flatten_cons, List.flatten_nil, rep_flat, XX, Nat.reduceBEq, Nat.reduceLT, Nat.reduceAdd, Nat.reduceMul, Nat.reduceSub, Nat.reduceLeDiff, Nat.reduceEqDiff, Int.reduceToNat, Int.reduceLT, Int.reduceLE, Int.reduceAdd, Int.reduceSub, Int.reduceEq, reduceIte, Nat.reduceBNe, Int.reducePow, Nat.reducePow, Int.reduceMul, Int.reduceNeg, isB_i, isB_b, isB_y, isBv_i, isBv_b, eqCells_t, TT]
    refine call_fz [.c (i32 src), .c (i32 (dst ^^^ 2 ^ k : Nat)), .c (roB (L ++ l') z ((L ++ l').length + z.length))] hD4 (fun t h' h => resU_noRo h) ⟨.inl ⟨rfl, rfl⟩, .inl ⟨rfl, rfl⟩, fz_c (fz_sl (Bx _) rfl rfl), trivial⟩ ?_
    rintro _ _ ⟨z6, o6, rfl, rfl, ho6⟩
    dsimp only at ho6 ⊢
    have eb : IntKind.i64.wrap (8 + (l.length : Int)) = (L.length : Int) := by rw [w64] <;> omega
    have e14 : decide (1480 < (L.length : Int)) = false := by simp only [decide_eq_false_iff_not]; omega
    simp (maxSteps := 4000000) only [Try.results6, ids_bsC, ren_bsC, noRo_bsC, plain_bsC, lt_bsC, ids_byte, ren_byte, noRo_byte, plain_byte, lt_byte, c0, lt0, eb, e14, List.append_assoc, List.getElem?_append_left, List.getElem?_append_right, List.length_append, List.length_set, List.set_append_left, gset, List.getElem?_set_ne, Nat.add_sub_cancel_left, Nat.sub_self, Nat.le_refl, Nat.le_add_right, List.replicate_one, List.flatten_cons, List.flatten_nil, rep_flat, XX, Nat.reduceBEq, Nat.reduceLT, Nat.reduceAdd, Nat.reduceMul, Nat.reduceSub, Nat.reduceLeDiff, Nat.reduceEqDiff, Int.reduceToNat, Int.reduceLT, Int.reduceLE, Int.reduceAdd, Int.reduceSub, Int.reduceEq, reduceIte, Nat.reduceBNe, Int.reducePow, Nat.reducePow, Int.reduceMul, Int.reduceNeg, isB_i, isB_b, isB_y, isBv_i, isBv_b, eqCells_t, TT]
    generalize hG2 : List.set _ _ _ = G2
    clear hG2
    have hset : ∀ (G : List SB) (x y v : SB), (G ++ [x, y]).set (G.length + 1) v = G ++ [x, v] := fun G x y v => by
      rw [List.set_append_right _ _ (by omega), Nat.add_sub_cancel_left]; rfl
    have hq : ∀ (G : List SB) (x y : SB), (G ++ [x, y])[G.length]? = some x := fun G x y => by rw [List.getElem?_append_right (Nat.le_refl _), Nat.sub_self]; rfl
    have hD2 := udec_spec src dst l' sp' c' hsrc hdst hl1' (by omega)
    by_cases hE2 : (udecR src dst l').2.2.2 = 0
    · obtain ⟨s2, d2, L2, n2, hR, hs2, hd2, hd20, hn2, hn2l, hn2b, htk, hus⟩ := udec_back hsrc hdst hE2
      rw [hR] at hD2
      refine call_fz [.c (i32 src), .c (i32 dst), .c (roB l' sp' c')] hD2 (fun t h' h => resU_noRo h) ⟨.inl ⟨rfl, rfl⟩, .inl ⟨rfl, rfl⟩, .inl ⟨rfl, rfl⟩, trivial⟩ ?_
      rintro _ _ ⟨z7, o7, rfl, rfl, ho7⟩
      dsimp only at ho7 ⊢
      simp (maxSteps := 4000000) only [Try.results6, ids_bsC, ren_bsC, noRo_bsC, plain_bsC, lt_bsC, ids_byte, ren_byte, noRo_byte, plain_byte, lt_byte, hset, List.append_assoc, List.getElem?_append_left, List.getElem?_append_right, List.length_append, List.length_set, List.set_append_left, gset, List.getElem?_set_ne, Nat.add_sub_cancel_left, Nat.sub_self, Nat.le_refl, Nat.le_add_right, List.replicate_one, List.flatten_cons, List.flatten_nil, rep_flat, XX, Nat.reduceBEq, Nat.reduceLT, Nat.reduceAdd, Nat.reduceMul, Nat.reduceSub, Nat.reduceLeDiff, Nat.reduceEqDiff, Int.reduceToNat, Int.reduceLT, Int.reduceLE, Int.reduceAdd, Int.reduceSub, Int.reduceEq, reduceIte, Nat.reduceBNe, Int.reducePow, Nat.reducePow, Int.reduceMul, Int.reduceNeg, isB_i, isB_b, isB_y, isBv_i, isBv_b, eqCells_t, TT]
      have hA3 := uencAll_spec src dst s2 d2 L2 z7 (L2.length + z7.length) hsrc hdst
      refine call_fz [.c (i32 src), .c (i32 dst), .agg (udpC s2 d2 (roB L2 z7 (L2.length + z7.length)))] hA3 (fun t h' h => resB_noRo h) ⟨.inl ⟨rfl, rfl⟩, .inl ⟨rfl, rfl⟩, udp_fz (fz_any (hq _ _ _) ho7), trivial⟩ ?_
      rintro _ _ ⟨z8, o8, rfl, rfl, ho8⟩
      by_cases h72 : 1472 < L2.length
      · have hu : uencR src dst s2 d2 L2 = ([], 2) := by
          unfold uencR
          rw [if_neg (by omega), if_neg (by omega), if_pos h72]
        rw [hu]
        have d72 : decide (1472 < (L2.length : Int)) = true := by simp only [decide_eq_true_eq]; omega
        have w8 : IntKind.i64.wrap (8 + (L2.length : Int)) = (n2 : Int) := by rw [w64] <;> omega
        simp (maxSteps := 4000000) only [Try.results6, ids_bsC, ren_bsC, noRo_bsC, plain_bsC, lt_bsC, ids_byte, ren_byte, noRo_byte, plain_byte, lt_byte, d72, w8, List.append_assoc, List.getElem?_append_left, List.getElem?_append_right, List.length_append, List.length_set, List.set_append_left, gset, List.getElem?_set_ne, Nat.add_sub_cancel_left, Nat.sub_self, Nat.le_refl, Nat.le_add_right, List.replicate_one, List.flatten_cons, List.flatten_nil, rep_flat, XX, Nat.reduceBEq, Nat.reduceLT, Nat.reduceAdd, Nat.reduceMul, Nat.reduceSub, Nat.reduceLeDiff, Nat.reduceEqDiff, Int.reduceToNat, Int.reduceLT, Int.reduceLE, Int.reduceAdd, Int.reduceSub, Int.reduceEq, reduceIte, Nat.reduceBNe, Int.reducePow, Nat.reducePow, Int.reduceMul, Int.reduceNeg, isB_i, isB_b, isB_y, isBv_i, isBv_b, eqCells_t, TT]
      · have hu : uencR src dst s2 d2 L2 = (udpL s2 d2 L2 (usum src dst s2 d2 L2), 0) := by
          unfold uencR
          rw [if_neg (by omega), if_neg (by omega), if_neg h72]
          rfl
        rw [hu] at ho8 ⊢
        have d72 : decide (1472 < (L2.length : Int)) = false := by simp only [decide_eq_false_iff_not]; omega
        have w8 : IntKind.i64.wrap (8 + (L2.length : Int)) = (n2 : Int) := by rw [w64] <;> omega
        obtain ⟨C, hC⟩ : ∃ C, C = udpL s2 d2 L2 (usum src dst s2 d2 L2) := ⟨_, rfl⟩
        have nC : C.length = n2 := by rw [hC, udpL_len]; exact hn2.symm
        rw [← hC] at ho8 ⊢
        dsimp only at ho8 ⊢
        obtain rfl := ho8 (by omega)
        have dn : decide ((n2 : Int) = (n2 : Int)) = true := by simp
        have dl : decide ((l'.length : Int) < (n2 : Int)) = false := by simp only [decide_eq_false_iff_not]; omega
        simp (maxSteps := 4000000) only [Try.results6, ids_bsC, ren_bsC, noRo_bsC, plain_bsC, lt_bsC, ids_byte, ren_byte, noRo_byte, plain_byte, lt_byte, d72, w8, nC, dn, dl, List.append_assoc, List.getElem?_append_left, List.getElem?_append_right, List.length_append, List.length_set, List.set_append_left, gset, List.getElem?_set_ne, Nat.add_sub_cancel_left, Nat.sub_self, Nat.le_refl, Nat.le_add_right, List.replicate_one, List.flatten_cons, List.flatten_nil, rep_flat, XX, Nat.reduceBEq, Nat.reduceLT, Nat.reduceAdd, Nat.reduceMul, Nat.reduceSub, Nat.reduceLeDiff, Nat.reduceEqDiff, Int.reduceToNat, Int.reduceLT, Int.reduceLE, Int.reduceAdd, Int.reduceSub, Int.reduceEq, reduceIte, Nat.reduceBNe, Int.reducePow, Nat.reducePow, Int.reduceMul, Int.reduceNeg, isB_i, isB_b, isB_y, isBv_i, isBv_b, eqCells_t, TT]
        obtain ⟨w3, hw3⟩ : ∃ w3, G2.length + 2 = w3 := ⟨_, rfl⟩
        have m3 : (G2 ++ [(⟨o7, 5, bsC (L2 ++ z7)⟩ : SB), ⟨true, 26, [SC.v (.int .i64 s2), SC.v (.int .i64 d2), .sl G2.length 0 L2.length (L2.length + z7.length)]⟩, ⟨true, 5, bsC (C ++ z8)⟩])[w3]? = some (wB true (C ++ z8)) := by
          rw [← hw3, List.getElem?_append_right (by omega), Nat.add_sub_cancel_left]; rfl
        rw [hw3]
        generalize (G2 ++ [(⟨o7, 5, bsC (L2 ++ z7)⟩ : SB), ⟨true, 26, [SC.v (.int .i64 s2), SC.v (.int .i64 d2), .sl G2.length 0 L2.length (L2.length + z7.length)]⟩, ⟨true, 5, bsC (C ++ z8)⟩]) = G3 at m3 ⊢
        clear hw3
        obtain ⟨ox, mx⟩ : ∃ o, (maskL [w3] 0 G3)[w3]? = some ⟨o, 5, bsC (C ++ z8)⟩ := maskL_at m3
        have hok := kept_cons m3 rfl kept_nil
        have lt3 := lt_of m3
        have ltx := lt_of mx
        have k6 : (bsC (C ++ z8)).take 6 = bsC (C.take 6) := by rw [bs_take, List.take_append_of_le_length (by omega)]
        have k6' : (bsR (l' ++ sp')).take 6 = bsR (l'.take 6) := by rw [rs_take, List.take_append_of_le_length (by omega)]
        have k8 : ((bsC (C ++ z8)).drop 8).take (n2 - 8) = bsC (C.drop 8) := by
          rw [bs_drop, bs_take, List.drop_append_of_le_length (by omega), List.take_left' (by simp; omega)]
        have k8' : ((bsR (l' ++ sp')).drop 8).take (n2 - 8) = bsR ((l'.take n2).drop 8) := by
          rw [rs_drop, rs_take, List.drop_append_of_le_length (by omega), List.take_append_of_le_length (by simp; omega), List.drop_take]
        have q6 : decide (C.take 6 = l'.take 6) = true := by
          have h1 : (l'.take n2).take 6 = l'.take 6 := by rw [List.take_take, Nat.min_eq_left (by omega)]
          rw [decide_eq_true_eq, hC, ← h1, htk, udpL_take6, udpL_take6]
        have q8 : decide (C.drop 8 = (l'.take n2).drop 8) = true := by
          rw [decide_eq_true_eq, hC, htk, udpL_drop8, udpL_drop8]
        refine draw_of cx_ok (by kernel_rfl) 400 [w3] [(0, true), (1, true), (2, true), (3, true), (4, true), (5, true), (6, true), (7, true), (8, true), (9, true), (10, true), (11, true), (12, true), (13, true), (14, true), (15, true), (16, true), (17, true), (18, true), (19, true), (20, true), (21, true), (22, true), (23, true), (24, true), (25, true), (26, true), (27, true), (28, true), (29, true), (30, true), (31, true), (32, true)] (by kernel_rfl) (by first | exact hok | simp [*]) ?_
        simp (maxSteps := 4000000) only [Try.results6, m3, mx, lt3, ltx, k6, k6', k8, k8', bsR_toSC, strOf_bsC, str_eq, q6, q8, unL_maskL, XX, Nat.reduceBEq, Nat.reduceLT, Nat.reduceAdd, Nat.reduceMul, Nat.reduceSub, Nat.reduceLeDiff, Nat.reduceEqDiff, Int.reduceToNat, Int.reduceLT, Int.reduceLE, Int.reduceAdd, Int.reduceSub, Int.reduceEq, reduceIte, Nat.reduceBNe, Int.reducePow, Nat.reducePow, Int.reduceMul, Int.reduceNeg, isB_i, isB_b, isB_y, isBv_i, isBv_b, eqCells_t, TT]
        have dlf : (!decide ((l'.length : Int) < (n2 : Int))) = true := by rw [dl]; rfl
        simp only [dlf, forall_const, true_implies]
        refine ⟨⟨by omega, by omega⟩, ⟨by simp; omega, isByte_bsC _⟩, ⟨by omega, by omega⟩, ⟨by simp; omega, isByte_bsC _⟩, ⟨by omega, by omega, by omega⟩, ?_⟩
        refine ⟨⟨by simp; omega, isByte_bsC _⟩, ⟨by omega, by omega, by omega⟩, ⟨by simp; omega, isByte_bsC _⟩, ?_⟩
        rw [dl]
        simp (maxSteps := 4000000) only [Try.results6, XX, Nat.reduceBEq, Nat.reduceLT, Nat.reduceAdd, Nat.reduceMul, Nat.reduceSub, Nat.reduceLeDiff, Nat.reduceEqDiff, Int.reduceToNat, Int.reduceLT, Int.reduceLE, Int.reduceAdd, Int.reduceSub, Int.reduceEq, reduceIte, Nat.reduceBNe, Int.reducePow, Nat.reducePow, Int.reduceMul, Int.reduceNeg, isB_i, isB_b, isB_y, isBv_i, isBv_b, eqCells_t, TT]
        obtain ⟨R6, r6⟩ := dropAt (sp := sp') (l := l') (j := 6) (by omega)
        obtain ⟨R7, r7⟩ := dropAt (sp := sp') (l := l') (j := 7) (by omega)
        have cg : ∀ j, j < n2 → (bsC (C ++ z8)).getD j .any = SC.v (.int .u8 (C.getD j 0).toNat) := fun j hj => by
          rw [List.getD_eq_getElem?_getD, List.getElem?_map, List.getElem?_append_left (by omega), List.getD_eq_getElem?_getD, List.getElem?_eq_getElem (by omega)]; rfl
        have lenC : (bsC (C ++ z8)).length = n2 + z8.length := by simp [nC]
        have c6 := cg 6 (by omega)
        have c7 := cg 7 (by omega)
        have same : n16 l' 6 ≠ 0 → C.getD 6 0 = l'.getD 6 0 ∧ C.getD 7 0 = l'.getD 7 0 := fun h => by
          rw [hC, hus h, ← htk]
          constructor
          · rw [List.getD_eq_getElem?_getD, List.getD_eq_getElem?_getD, List.getElem?_take_of_lt (by omega)]
          · rw [List.getD_eq_getElem?_getD, List.getD_eq_getElem?_getD, List.getElem?_take_of_lt (by omega)]
        have nz : n16 l' 6 = (l'.getD 6 0).toNat * 256 + (l'.getD 7 0).toNat := rfl
        have se6 : decide (((l'.getD 6 0).toNat : Int) = ((l'.getD 6 0).toNat : Int)) = true := by simp
        have se7 : decide (((l'.getD 7 0).toNat : Int) = ((l'.getD 7 0).toNat : Int)) = true := by simp
        by_cases f6 : (l'.getD 6 0).toNat = 0
        · have d6 : decide (((l'.getD 6 0).toNat : Int) = 0) = true := by simp only [decide_eq_true_eq]; omega
          by_cases f7 : (l'.getD 7 0).toNat = 0
          · have d7 : decide (((l'.getD 7 0).toNat : Int) = 0) = true := by simp only [decide_eq_true_eq]; omega
            refine draw_of cx_ok (by kernel_rfl) 400 [w3] [(0, true), (1, true), (2, true), (3, true), (4, true), (5, true), (6, true), (7, true), (8, true), (9, true), (10, true), (11, true), (12, true), (13, true), (14, true), (15, true), (16, true), (17, true), (18, true), (19, true), (20, true), (21, true), (22, true), (23, true), (24, true), (25, true), (26, true), (27, true), (28, true)] (by kernel_rfl) (by first | exact hok | simp [*]) ?_
            simp (maxSteps := 4000000) only [Try.results6, m3, mx, lt3, ltx, r6, r7, c6, c7, d6, d7, unL_maskL, XX, Nat.reduceBEq, Nat.reduceLT, Nat.reduceAdd, Nat.reduceMul, Nat.reduceSub, Nat.reduceLeDiff, Nat.reduceEqDiff, Int.reduceToNat, Int.reduceLT, Int.reduceLE, Int.reduceAdd, Int.reduceSub, Int.reduceEq, reduceIte, Nat.reduceBNe, Int.reducePow, Nat.reducePow, Int.reduceMul, Int.reduceNeg, isB_i, isB_b, isB_y, isBv_i, isBv_b, eqCells_t, TT]
            repeat' apply And.intro
            all_goals omega
          · have d7 : decide (((l'.getD 7 0).toNat : Int) = 0) = false := by simp only [decide_eq_false_iff_not]; omega
            obtain ⟨g6, g7⟩ := same (by omega)
            rw [g6] at c6
            rw [g7] at c7
            refine draw_of cx_ok (by kernel_rfl) 400 [w3] [(0, true), (1, true), (2, true), (3, true), (4, true), (5, true), (6, true), (7, true), (8, true), (9, true), (10, true), (11, true), (12, true), (13, true), (14, true), (15, true), (16, true), (17, true), (18, true), (19, true), (20, true), (21, true), (22, true), (23, true), (24, true), (25, true), (26, true), (27, true), (28, true)] (by kernel_rfl) (by first | exact hok | simp [*]) ?_
            simp (maxSteps := 4000000) only [Try.results6, m3, mx, lt3, ltx, r6, r7, c6, c7, d6, d7, se6, se7, unL_maskL, XX, Nat.reduceBEq, Nat.reduceLT, Nat.reduceAdd, Nat.reduceMul, Nat.reduceSub, Nat.reduceLeDiff, Nat.reduceEqDiff, Int.reduceToNat, Int.reduceLT, Int.reduceLE, Int.reduceAdd, Int.reduceSub, Int.reduceEq, reduceIte, Nat.reduceBNe, Int.reducePow, Nat.reducePow, Int.reduceMul, Int.reduceNeg, isB_i, isB_b, isB_y, isBv_i, isBv_b, eqCells_t, TT]
            repeat' apply And.intro
            all_goals omega
        · have d6 : decide (((l'.getD 6 0).toNat : Int) = 0) = false := by simp only [decide_eq_false_iff_not]; omega
          obtain ⟨g6, g7⟩ := same (by omega)
          rw [g6] at c6
          rw [g7] at c7
          refine draw_of cx_ok (by kernel_rfl) 400 [w3] [(0, true), (1, true), (2, true), (3, true), (4, true), (5, true), (6, true), (7, true), (8, true), (9, true), (10, true), (11, true), (12, true), (13, true), (14, true), (15, true), (16, true), (17, true), (18, true), (19, true), (20, true), (21, true), (22, true), (23, true), (24, true), (25, true), (26, true), (27, true), (28, true)] (by kernel_rfl) (by first | exact hok | simp [*]) ?_
          simp (maxSteps := 4000000) only [Try.results6, m3, mx, lt3, ltx, r6, r7, c6, c7, d6, se6, se7, unL_maskL, XX, Nat.reduceBEq, Nat.reduceLT, Nat.reduceAdd, Nat.reduceMul, Nat.reduceSub, Nat.reduceLeDiff, Nat.reduceEqDiff, Int.reduceToNat, Int.reduceLT, Int.reduceLE, Int.reduceAdd, Int.reduceSub, Int.reduceEq, reduceIte, Nat.reduceBNe, Int.reducePow, Nat.reducePow, Int.reduceMul, Int.reduceNeg, isB_i, isB_b, isB_y, isBv_i, isBv_b, eqCells_t, TT]
          repeat' apply And.intro
          all_goals omega
    · rw [udecR_err hE2] at hD2
      have dE2 : decide ((udecR src dst l').2.2.2 = 0) = false := by simpa using hE2
      refine call_fz [.c (i32 src), .c (i32 dst), .c (roB l' sp' c')] hD2 (fun t h' h => resU_noRo h) ⟨.inl ⟨rfl, rfl⟩, .inl ⟨rfl, rfl⟩, .inl ⟨rfl, rfl⟩, trivial⟩ ?_
      rintro _ _ ⟨z7, o7, rfl, rfl, ho7⟩
      dsimp only at ho7 ⊢
      simp (maxSteps := 4000000) only [Try.results6, ids_bsC, ren_bsC, noRo_bsC, plain_bsC, lt_bsC, ids_byte, ren_byte, noRo_byte, plain_byte, lt_byte, hset, dE2, List.append_assoc, List.getElem?_append_left, List.getElem?_append_right, List.length_append, List.length_set, List.set_append_left, gset, List.getElem?_set_ne, Nat.add_sub_cancel_left, Nat.sub_self, Nat.le_refl, Nat.le_add_right, List.replicate_one, List.flatten_cons, List.flatten_nil, rep_flat, XX, Nat.reduceBEq, Nat.reduceLT, Nat.reduceAdd, Nat.reduceMul, Nat.reduceSub, Nat.reduceLeDiff, Nat.reduceEqDiff, Int.reduceToNat, Int.reduceLT, Int.reduceLE, Int.reduceAdd, Int.reduceSub, Int.reduceEq, reduceIte, Nat.reduceBNe, Int.reducePow, Nat.reducePow, Int.reduceMul, Int.reduceNeg, isB_i, isB_b, isB_y, isBv_i, isBv_b, eqCells_t, TT]
  · have dE : decide ((uencR src dst a b l).2 = 0) = false := by simpa using hE
    rw [dE]
    simp (maxSteps := 4000000) only [Try.results6, XX, Nat.reduceBEq, Nat.reduceLT, Nat.reduceAdd, Nat.reduceMul, Nat.reduceSub, Nat.reduceLeDiff, Nat.reduceEqDiff, Int.reduceToNat, Int.reduceLT, Int.reduceLE, Int.reduceAdd, Int.reduceSub, Int.reduceEq, reduceIte, Nat.reduceBNe, Int.reducePow, Nat.reducePow, Int.reduceMul, Int.reduceNeg, isB_i, isB_b, isB_y, isBv_i, isBv_b, eqCells_t, TT]
    generalize hG2 : ([_, _] : List SB) = G2
    clear hG2
    have hset : ∀ (G : List SB) (x y v : SB), (G ++ [x, y]).set (G.length + 1) v = G ++ [x, v] := fun G x y v => by
      rw [List.set_append_right _ _ (by omega), Nat.add_sub_cancel_left]; rfl
    have hq : ∀ (G : List SB) (x y : SB), (G ++ [x, y])[G.length]? = some x := fun G x y => by rw [List.getElem?_append_right (Nat.le_refl _), Nat.sub_self]; rfl
    have hD2 := udec_spec src dst l' sp' c' hsrc hdst hl1' (by omega)
    by_cases hE2 : (udecR src dst l').2.2.2 = 0
    · obtain ⟨s2, d2, L2, n2, hR, hs2, hd2, hd20, hn2, hn2l, hn2b, htk, hus⟩ := udec_back hsrc hdst hE2
      rw [hR] at hD2
      refine call_fz [.c (i32 src), .c (i32 dst), .c (roB l' sp' c')] hD2 (fun t h' h => resU_noRo h) ⟨.inl ⟨rfl, rfl⟩, .inl ⟨rfl, rfl⟩, .inl ⟨rfl, rfl⟩, trivial⟩ ?_
      rintro _ _ ⟨z7, o7, rfl, rfl, ho7⟩
      dsimp only at ho7 ⊢
      simp (maxSteps := 4000000) only [Try.results6, ids_bsC, ren_bsC, noRo_bsC, plain_bsC, lt_bsC, ids_byte, ren_byte, noRo_byte, plain_byte, lt_byte, hset, List.append_assoc, List.getElem?_append_left, List.getElem?_append_right, List.length_append, List.length_set, List.set_append_left, gset, List.getElem?_set_ne, Nat.add_sub_cancel_left, Nat.sub_self, Nat.le_refl, Nat.le_add_right, List.replicate_one, List.flatten_cons, List.flatten_nil, rep_flat, XX, Nat.reduceBEq, Nat.reduceLT, Nat.reduceAdd, Nat.reduceMul, Nat.reduceSub, Nat.reduceLeDiff, Nat.reduceEqDiff, Int.reduceToNat, Int.reduceLT, Int.reduceLE, Int.reduceAdd, Int.reduceSub, Int.reduceEq, reduceIte, Nat.reduceBNe, Int.reducePow, Nat.reducePow, Int.reduceMul, Int.reduceNeg, isB_i, isB_b, isB_y, isBv_i, isBv_b, eqCells_t, TT]
      have hA3 := uencAll_spec src dst s2 d2 L2 z7 (L2.length + z7.length) hsrc hdst
      refine call_fz [.c (i32 src), .c (i32 dst), .agg (udpC s2 d2 (roB L2 z7 (L2.length + z7.length)))] hA3 (fun t h' h => resB_noRo h) ⟨.inl ⟨rfl, rfl⟩, .inl ⟨rfl, rfl⟩, udp_fz (fz_any (hq _ _ _) ho7), trivial⟩ ?_
      rintro _ _ ⟨z8, o8, rfl, rfl, ho8⟩
      by_cases h72 : 1472 < L2.length
      · have hu : uencR src dst s2 d2 L2 = ([], 2) := by
          unfold uencR
          rw [if_neg (by omega), if_neg (by omega), if_pos h72]
        rw [hu]
        have d72 : decide (1472 < (L2.length : Int)) = true := by simp only [decide_eq_true_eq]; omega
        have w8 : IntKind.i64.wrap (8 + (L2.length : Int)) = (n2 : Int) := by rw [w64] <;> omega
        simp (maxSteps := 4000000) only [Try.results6, ids_bsC, ren_bsC, noRo_bsC, plain_bsC, lt_bsC, ids_byte, ren_byte, noRo_byte, plain_byte, lt_byte, d72, w8, List.append_assoc, List.getElem?_append_left, List.getElem?_append_right, List.length_append, List.length_set, List.set_append_left, gset, List.getElem?_set_ne, Nat.add_sub_cancel_left, Nat.sub_self, Nat.le_refl, Nat.le_add_right, List.replicate_one, List.flatten_cons, List.flatten_nil, rep_flat, XX, Nat.reduceBEq, Nat.reduceLT, Nat.reduceAdd, Nat.reduceMul, Nat.reduceSub, Nat.reduceLeDiff, Nat.reduceEqDiff, Int.reduceToNat, Int.reduceLT, Int.reduceLE, Int.reduceAdd, Int.reduceSub, Int.reduceEq, reduceIte, Nat.reduceBNe, Int.reducePow, Nat.reducePow, Int.reduceMul, Int.reduceNeg, isB_i, isB_b, isB_y, isBv_i, isBv_b, eqCells_t, TT]
      · have hu : uencR src dst s2 d2 L2 = (udpL s2 d2 L2 (usum src dst s2 d2 L2), 0) := by
          unfold uencR
          rw [if_neg (by omega), if_neg (by omega), if_neg h72]
          rfl
        rw [hu] at ho8 ⊢
        have d72 : decide (1472 < (L2.length : Int)) = false := by simp only [decide_eq_false_iff_not]; omega
        have w8 : IntKind.i64.wrap (8 + (L2.length : Int)) = (n2 : Int) := by rw [w64] <;> omega
        obtain ⟨C, hC⟩ : ∃ C, C = udpL s2 d2 L2 (usum src dst s2 d2 L2) := ⟨_, rfl⟩
        have nC : C.length = n2 := by rw [hC, udpL_len]; exact hn2.symm
        rw [← hC] at ho8 ⊢
        dsimp only at ho8 ⊢
        obtain rfl := ho8 (by omega)
        have dn : decide ((n2 : Int) = (n2 : Int)) = true := by simp
        have dl : decide ((l'.length : Int) < (n2 : Int)) = false := by simp only [decide_eq_false_iff_not]; omega
        simp (maxSteps := 4000000) only [Try.results6, ids_bsC, ren_bsC, noRo_bsC, plain_bsC, lt_bsC, ids_byte, ren_byte, noRo_byte, plain_byte, lt_byte, d72, w8, nC, dn, dl, List.append_assoc, List.getElem?_append_left, List.getElem?_append_right, List.length_append, List.length_set, List.set_append_left, gset, List.getElem?_set_ne, Nat.add_sub_cancel_left, Nat.sub_self, Nat.le_refl, Nat.le_add_right, List.replicate_one, List.flatten_cons, List.flatten_nil, rep_flat, XX, Nat.reduceBEq, Nat.reduceLT, Nat.reduceAdd, Nat.reduceMul, Nat.reduceSub, Nat.reduceLeDiff, Nat.reduceEqDiff, Int.reduceToNat, Int.reduceLT, Int.reduceLE, Int.reduceAdd, Int.reduceSub, Int.reduceEq, reduceIte, Nat.reduceBNe, Int.reducePow, Nat.reducePow, Int.reduceMul, Int.reduceNeg, isB_i, isB_b, isB_y, isBv_i, isBv_b, eqCells_t, TT]
        obtain ⟨w3, hw3⟩ : ∃ w3, G2.length + 2 = w3 := ⟨_, rfl⟩
        have m3 : (G2 ++ [(⟨o7, 5, bsC (L2 ++ z7)⟩ : SB), ⟨true, 26, [SC.v (.int .i64 s2), SC.v (.int .i64 d2), .sl G2.length 0 L2.length (L2.length + z7.length)]⟩, ⟨true, 5, bsC (C ++ z8)⟩])[w3]? = some (wB true (C ++ z8)) := by
          rw [← hw3, List.getElem?_append_right (by omega), Nat.add_sub_cancel_left]; rfl
        rw [hw3]
        generalize (G2 ++ [(⟨o7, 5, bsC (L2 ++ z7)⟩ : SB), ⟨true, 26, [SC.v (.int .i64 s2), SC.v (.int .i64 d2), .sl G2.length 0 L2.length (L2.length + z7.length)]⟩, ⟨true, 5, bsC (C ++ z8)⟩]) = G3 at m3 ⊢
        clear hw3
        obtain ⟨ox, mx⟩ : ∃ o, (maskL [w3] 0 G3)[w3]? = some ⟨o, 5, bsC (C ++ z8)⟩ := maskL_at m3
        have hok := kept_cons m3 rfl kept_nil
        have lt3 := lt_of m3
        have ltx := lt_of mx
        have k6 : (bsC (C ++ z8)).take 6 = bsC (C.take 6) := by rw [bs_take, List.take_append_of_le_length (by omega)]
        have k6' : (bsR (l' ++ sp')).take 6 = bsR (l'.take 6) := by rw [rs_take, List.take_append_of_le_length (by omega)]
        have k8 : ((bsC (C ++ z8)).drop 8).take (n2 - 8) = bsC (C.drop 8) := by
          rw [bs_drop, bs_take, List.drop_append_of_le_length (by omega), List.take_left' (by simp; omega)]
        have k8' : ((bsR (l' ++ sp')).drop 8).take (n2 - 8) = bsR ((l'.take n2).drop 8) := by
          rw [rs_drop, rs_take, List.drop_append_of_le_length (by omega), List.take_append_of_le_length (by simp; omega), List.drop_take]
        have q6 : decide (C.take 6 = l'.take 6) = true := by
          have h1 : (l'.take n2).take 6 = l'.take 6 := by rw [List.take_take, Nat.min_eq_left (by omega)]
          rw [decide_eq_true_eq, hC, ← h1, htk, udpL_take6, udpL_take6]
        have q8 : decide (C.drop 8 = (l'.take n2).drop 8) = true := by
          rw [decide_eq_true_eq, hC, htk, udpL_drop8, udpL_drop8]
        refine draw_of cx_ok (by kernel_rfl) 400 [w3] [(0, true), (1, true), (2, true), (3, true), (4, true), (5, true), (6, true), (7, true), (8, true), (9, true), (10, true), (11, true), (12, true), (13, true), (14, true), (15, true), (16, true), (17, true), (18, true), (19, true), (20, true), (21, true), (22, true), (23, true), (24, true), (25, true), (26, true), (27, true), (28, true), (29, true), (30, true), (31, true), (32, true)] (by kernel_rfl) (by first | exact hok | simp [*]) ?_
        simp (maxSteps := 4000000) only [Try.results6, m3, mx, lt3, ltx, k6, k6', k8, k8', bsR_toSC, strOf_bsC, str_eq, q6, q8, unL_maskL, XX, Nat.reduceBEq, Nat.reduceLT, Nat.reduceAdd, Nat.reduceMul, Nat.reduceSub, Nat.reduceLeDiff, Nat.reduceEqDiff, Int.reduceToNat, Int.reduceLT, Int.reduceLE, Int.reduceAdd, Int.reduceSub, Int.reduceEq, reduceIte, Nat.reduceBNe, Int.reducePow, Nat.reducePow, Int.reduceMul, Int.reduceNeg, isB_i, isB_b, isB_y, isBv_i, isBv_b, eqCells_t, TT]
        have dlf : (!decide ((l'.length : Int) < (n2 : Int))) = true := by rw [dl]; rfl
        simp only [dlf, forall_const, true_implies]
        refine ⟨⟨by omega, by omega⟩, ⟨by simp; omega, isByte_bsC _⟩, ⟨by omega, by omega⟩, ⟨by simp; omega, isByte_bsC _⟩, ⟨by omega, by omega, by omega⟩, ?_⟩
        refine ⟨⟨by simp; omega, isByte_bsC _⟩, ⟨by omega, by omega, by omega⟩, ⟨by simp; omega, isByte_bsC _⟩, ?_⟩
        rw [dl]
        simp (maxSteps := 4000000) only [Try.results6, XX, Nat.reduceBEq, Nat.reduceLT, Nat.reduceAdd, Nat.reduceMul, Nat.reduceSub, Nat.reduceLeDiff, Nat.reduceEqDiff, Int.reduceToNat, Int.reduceLT, Int.reduceLE, Int.reduceAdd, Int.reduceSub, Int.reduceEq, reduceIte, Nat.reduceBNe, Int.reducePow, Nat.reducePow, Int.reduceMul, Int.reduceNeg, isB_i, isB_b, isB_y, isBv_i, isBv_b, eqCells_t, TT]
        obtain ⟨R6, r6⟩ := dropAt (sp := sp') (l := l') (j := 6) (by omega)
        obtain ⟨R7, r7⟩ := dropAt (sp := sp') (l := l') (j := 7) (by omega)
        have cg : ∀ j, j < n2 → (bsC (C ++ z8)).getD j .any = SC.v (.int .u8 (C.getD j 0).toNat) := fun j hj => by
          rw [List.getD_eq_getElem?_getD, List.getElem?_map, List.getElem?_append_left (by omega), List.getD_eq_getElem?_getD, List.getElem?_eq_getElem (by omega)]; rfl
        have lenC : (bsC (C ++ z8)).length = n2 + z8.length := by simp [nC]
        have c6 := cg 6 (by omega)
        have c7 := cg 7 (by omega)
        have same : n16 l' 6 ≠ 0 → C.getD 6 0 = l'.getD 6 0 ∧ C.getD 7 0 = l'.getD 7 0 := fun h => by
          rw [hC, hus h, ← htk]
          constructor
          · rw [List.getD_eq_getElem?_getD, List.getD_eq_getElem?_getD, List.getElem?_take_of_lt (by omega)]
          · rw [List.getD_eq_getElem?_getD, List.getD_eq_getElem?_getD, List.getElem?_take_of_lt (by omega)]
        have nz : n16 l' 6 = (l'.getD 6 0).toNat * 256 + (l'.getD 7 0).toNat := rfl
        have se6 : decide (((l'.getD 6 0).toNat : Int) = ((l'.getD 6 0).toNat : Int)) = true := by simp
        have se7 : decide (((l'.getD 7 0).toNat : Int) = ((l'.getD 7 0).toNat : Int)) = true := by simp
        by_cases f6 : (l'.getD 6 0).toNat = 0
        · have d6 : decide (((l'.getD 6 0).toNat : Int) = 0) = true := by simp only [decide_eq_true_eq]; omega
          by_cases f7 : (l'.getD 7 0).toNat = 0
          · have d7 : decide (((l'.getD 7 0).toNat : Int) = 0) = true := by simp only [decide_eq_true_eq]; omega
            refine draw_of cx_ok (by kernel_rfl) 400 [w3] [(0, true), (1, true), (2, true), (3, true), (4, true), (5, true), (6, true), (7, true), (8, true), (9, true), (10, true), (11, true), (12, true), (13, true), (14, true), (15, true), (16, true), (17, true), (18, true), (19, true), (20, true), (21, true), (22, true), (23, true), (24, true), (25, true), (26, true), (27, true), (28, true)] (by kernel_rfl) (by first | exact hok | simp [*]) ?_
            simp (maxSteps := 4000000) only [Try.results6, m3, mx, lt3, ltx, r6, r7, c6, c7, d6, d7, unL_maskL, XX, Nat.reduceBEq, Nat.reduceLT, Nat.reduceAdd, Nat.reduceMul, Nat.reduceSub, Nat.reduceLeDiff, Nat.reduceEqDiff, Int.reduceToNat, Int.reduceLT, Int.reduceLE, Int.reduceAdd, Int.reduceSub, Int.reduceEq, reduceIte, Nat.reduceBNe, Int.reducePow, Nat.reducePow, Int.reduceMul, Int.reduceNeg, isB_i, isB_b, isB_y, isBv_i, isBv_b, eqCells_t, TT]
            repeat' apply And.intro
            all_goals omega
          · have d7 : decide (((l'.getD 7 0).toNat : Int) = 0) = false := by simp only [decide_eq_false_iff_not]; omega
            obtain ⟨g6, g7⟩ := same (by omega)
            rw [g6] at c6
            rw [g7] at c7
            refine draw_of cx_ok (by kernel_rfl) 400 [w3] [(0, true), (1, true), (2, true), (3, true), (4, true), (5, true), (6, true), (7, true), (8, true), (9, true), (10, true), (11, true), (12, true), (13, true), (14, true), (15, true), (16, true), (17, true), (18, true), (19, true), (20, true), (21, true), (22, true), (23, true), (24, true), (25, true), (26, true), (27, true), (28, true)] (by kernel_rfl) (by first | exact hok | simp [*]) ?_
            simp (maxSteps := 4000000) only [Try.results6, m3, mx, lt3, ltx, r6, r7, c6, c7, d6, d7, se6, se7, unL_maskL, XX, Nat.reduceBEq, Nat.reduceLT, Nat.reduceAdd, Nat.reduceMul, Nat.reduceSub, Nat.reduceLeDiff, Nat.reduceEqDiff, Int.reduceToNat, Int.reduceLT, Int.reduceLE, Int.reduceAdd, Int.reduceSub, Int.reduceEq, reduceIte, Nat.reduceBNe, Int.reducePow, Nat.reducePow, Int.reduceMul, Int.reduceNeg, isB_i, isB_b, isB_y, isBv_i, isBv_b, eqCells_t, TT]
            repeat' apply And.intro
            all_goals omega
        · have d6 : decide (((l'.getD 6 0).toNat : Int) = 0) = false := by simp only [decide_eq_false_iff_not]; omega
          obtain ⟨g6, g7⟩ := same (by omega)
          rw [g6] at c6
          rw [g7] at c7
          refine draw_of cx_ok (by kernel_rfl) 400 [w3] [(0, true), (1, true), (2, true), (3, true), (4, true), (5, true), (6, true), (7, true), (8, true), (9, true), (10, true), (11, true), (12, true), (13, true), (14, true), (15, true), (16, true), (17, true), (18, true), (19, true), (20, true), (21, true), (22, true), (23, true), (24, true), (25, true), (26, true), (27, true), (28, true)] (by kernel_rfl) (by first | exact hok | simp [*]) ?_
          simp (maxSteps := 4000000) only [Try.results6, m3, mx, lt3, ltx, r6, r7, c6, c7, d6, se6, se7, unL_maskL, XX, Nat.reduceBEq, Nat.reduceLT, Nat.reduceAdd, Nat.reduceMul, Nat.reduceSub, Nat.reduceLeDiff, Nat.reduceEqDiff, Int.reduceToNat, Int.reduceLT, Int.reduceLE, Int.reduceAdd, Int.reduceSub, Int.reduceEq, reduceIte, Nat.reduceBNe, Int.reducePow, Nat.reducePow, Int.reduceMul, Int.reduceNeg, isB_i, isB_b, isB_y, isBv_i, isBv_b, eqCells_t, TT]
          repeat' apply And.intro
          all_goals omega
    · rw [udecR_err hE2] at hD2
      have dE2 : decide ((udecR src dst l').2.2.2 = 0) = false := by simpa using hE2
      refine call_fz [.c (i32 src), .c (i32 dst), .c (roB l' sp' c')] hD2 (fun t h' h => resU_noRo h) ⟨.inl ⟨rfl, rfl⟩, .inl ⟨rfl, rfl⟩, .inl ⟨rfl, rfl⟩, trivial⟩ ?_
      rintro _ _ ⟨z7, o7, rfl, rfl, ho7⟩
      dsimp only at ho7 ⊢
      simp (maxSteps := 4000000) only [Try.results6, ids_bsC, ren_bsC, noRo_bsC, plain_bsC, lt_bsC, ids_byte, ren_byte, noRo_byte, plain_byte, lt_byte, hset, dE2, List.append_assoc, List.getElem?_append_left, List.getElem?_append_right, List.length_append, List.length_set, List.set_append_left, gset, List.getElem?_set_ne, Nat.add_sub_cancel_left, Nat.sub_self, Nat.le_refl, Nat.le_add_right, List.replicate_one, List.flatten_cons, List.flatten_nil, rep_flat, XX, Nat.reduceBEq, Nat.reduceLT, Nat.reduceAdd, Nat.reduceMul, Nat.reduceSub, Nat.reduceLeDiff, Nat.reduceEqDiff, Int.reduceToNat, Int.reduceLT, Int.reduceLE, Int.reduceAdd, Int.reduceSub, Int.reduceEq, reduceIte, Nat.reduceBNe, Int.reducePow, Nat.reducePow, Int.reduceMul, Int.reduceNeg, isB_i, isB_b, isB_y, isBv_i, isBv_b, eqCells_t, TT]

end Go.Proofs.Ytiefbdddjhigdaa.Sx
