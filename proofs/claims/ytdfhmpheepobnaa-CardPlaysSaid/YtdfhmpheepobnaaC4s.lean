/- The symbolic executor, at work: a call at both cards, the other kinds. No condition. -/
import Derived.Test.YtdfhmpheepobnaaC4r
namespace Go.Proofs.Ytdfhmpheepobnaa.Sx
open Go
set_option linter.unusedSimpArgs false
set_option linter.unusedVariables false
set_option maxRecDepth 10000
set_option maxHeartbeats 2000000

theorem depD_len {k : CK} (ok : k.ok) : (depD k).length ≤ 1514 := by
  unfold depD
  split
  · have := ok.ts _ (List.mem_of_getElem? (getS ok.tn))
    unfold Sl.ok at this
    omega
  · simp

section
variable {S : Nat → Prop} {H : List SB} {p c w1 w2 rc rr rt bk : Nat} {k : CK} {es : List OE}
theorem J4.counts {kc kr : CK} (J : J4 S H c w1 w2 rc rr rt bk kc kr es) : Spec cx.P 11 [.c (.ptr c 0)] H fun t h' => t = .agg [i64 kc.cin, i64 kc.cdr, i64 kc.cout] ∧ h' = H := by
  refine (J.C.spec (bs := []) (counts_spec kc) (fun t h' ⟨h1, h2⟩ => by subst h1 h2; exact ⟨rfl, card_noRo _⟩) trivial).mono ?_
  rintro _ _ ⟨_, _, ⟨rfl, rfl⟩, rfl, rfl⟩
  rw [plug3', setC_same J.C]
  exact ⟨rfl, rfl⟩
theorem J4.rcounts {kc kr : CK} (J : J4 S H c w1 w2 rc rr rt bk kc kr es) : Spec cx.P 37 [.c (.ptr rc 0)] H fun t h' => t = .agg [i64 kr.cin, i64 kr.cdr, i64 kr.cout] ∧ ∃ x, h' = H ++ [x] := by
  obtain ⟨lr, lt, cr, ct, R, _, _⟩ := J.R
  exact rcounts_spec R
theorem stp7_spec (J : J4 S H c w1 w2 rc rr rt bk k k es) (ok : k.ok) (hp : H[p]? = some (pairB c rc bk)) (i : Int) (x : SC) : Spec cx.P 17 [.c (.ptr p 0), .agg [i64 7, i64 i, x]] H (StepP S H c w1 w2 rc rr rt bk es) := by
  have np := x6_p J hp
  have ng := x6_lt J
  have nx : ∀ j, H.length ≤ j → ¬ X6 c w1 w2 rc rr rt j := fun j => x6_ge J
  have I := In4.of J hp 7 i x
  have ll : ∀ x : SB, (H ++ [x]).length = H.length + 1 := fun x => by simp
  have l0 : H.length < H.length + 1 := by omega
  have g0 : ∀ y, (H ++ [y])[H.length]? = some y := fun y => by rw [List.getElem?_append_right (Nat.le_refl _), Nat.sub_self]; rfl
  refine spec_of_X cx_ok Try.func17 rfl (by kernel_rfl) (by kernel_rfl) (Nat.le_of_ble_eq_true rfl) 400 27 ?_
  simp (maxSteps := 4000000) only [Try.results17, XX, Nat.reduceBEq, Nat.reduceLT, Nat.reduceAdd, Nat.reduceMul, Nat.reduceSub, Nat.reduceLeDiff, Nat.reduceEqDiff, Int.reduceToNat, Int.reduceLT, Int.reduceLE, Int.reduceAdd, Int.reduceSub, Int.reduceEq, reduceIte, Nat.reduceBNe, Int.reducePow, Nat.reducePow, Int.reduceMul, Int.reduceNeg, isB_i, isB_b, isB_y, isBv_i, isBv_b, eqCells_t, TT]
  simp (maxSteps := 4000000) only [Try.results17, ll, g0, l0, XX, Nat.reduceBEq, Nat.reduceLT, Nat.reduceAdd, Nat.reduceMul, Nat.reduceSub, Nat.reduceLeDiff, Nat.reduceEqDiff, Int.reduceToNat, Int.reduceLT, Int.reduceLE, Int.reduceAdd, Int.reduceSub, Int.reduceEq, reduceIte, Nat.reduceBNe, Int.reducePow, Nat.reducePow, Int.reduceMul, Int.reduceNeg, isB_i, isB_b, isB_y, isBv_i, isBv_b, eqCells_t, TT]
  generalize H ++ [opB4 7 i x] = H2 at I ⊢
  have hL : ∀ j ∈ [p], ∃ b, H2[j]? = some b ∧ ¬ tyP b.ty ∧ ¬ X6 c w1 w2 rc rr rt j := fun j hj => by
    simp only [List.mem_cons, List.not_mem_nil, or_false] at hj
    subst hj
    exact ⟨_, I.hp, tyPair, np⟩
  have Jm := I.J.mask (L := [p]) fun j hj => let ⟨b, h1, h2, _⟩ := hL j hj; ⟨b, h1, h2⟩
  have hok := kept_cons I.hp rfl kept_nil
  obtain ⟨ox, mx⟩ : ∃ o, (maskL [p] 0 H2)[p]? = some ⟨o, 55, [.ptr c 0, .ptr rc 0, .ptr bk 0]⟩ := maskL_at I.hp
  have ltx := lt_of mx
  refine draw_of cx_ok (by kernel_rfl) 400 [p] [(0, true), (1, true), (2, true), (3, true), (5, true), (6, true), (7, true), (8, true), (4, false), (9, false), (10, true), (11, true)] (by kernel_rfl) (by first | exact hok | simp [*]) ?_
  simp (maxSteps := 4000000) only [Try.results17, I.hp, mx, ltx, XX, Nat.reduceBEq, Nat.reduceLT, Nat.reduceAdd, Nat.reduceMul, Nat.reduceSub, Nat.reduceLeDiff, Nat.reduceEqDiff, Int.reduceToNat, Int.reduceLT, Int.reduceLE, Int.reduceAdd, Int.reduceSub, Int.reduceEq, reduceIte, Nat.reduceBNe, Int.reducePow, Nat.reducePow, Int.reduceMul, Int.reduceNeg, isB_i, isB_b, isB_y, isBv_i, isBv_b, eqCells_t, TT]
  refine call_is (Jm.counts) ?_
  rintro _ h3 ⟨rfl, rfl⟩
  simp (maxSteps := 4000000) only [Try.results17, XX, Nat.reduceBEq, Nat.reduceLT, Nat.reduceAdd, Nat.reduceMul, Nat.reduceSub, Nat.reduceLeDiff, Nat.reduceEqDiff, Int.reduceToNat, Int.reduceLT, Int.reduceLE, Int.reduceAdd, Int.reduceSub, Int.reduceEq, reduceIte, Nat.reduceBNe, Int.reducePow, Nat.reducePow, Int.reduceMul, Int.reduceNeg, isB_i, isB_b, isB_y, isBv_i, isBv_b, eqCells_t, TT]
  refine call_is (Jm.rcounts) ?_
  rintro _ h3 ⟨rfl, y, rfl⟩
  simp (maxSteps := 4000000) only [Try.results17, eqCells_i, eqCells_n, XX, Nat.reduceBEq, Nat.reduceLT, Nat.reduceAdd, Nat.reduceMul, Nat.reduceSub, Nat.reduceLeDiff, Nat.reduceEqDiff, Int.reduceToNat, Int.reduceLT, Int.reduceLE, Int.reduceAdd, Int.reduceSub, Int.reduceEq, reduceIte, Nat.reduceBNe, Int.reducePow, Nat.reducePow, Int.reduceMul, Int.reduceNeg, isB_i, isB_b, isB_y, isBv_i, isBv_b, eqCells_t, TT]
  obtain ⟨J3, K3⟩ := J4.unmask hL (Kp.app _ [y]) (Jm.app [y])
  have I3 := I.next np ng J3 K3
  exact ⟨rfl, S, k, es, I3.J, ok, I3.K, fun _ h => h, fun _ h => .inl h, by omega⟩
theorem stp2_spec (J : J4 S H c w1 w2 rc rr rt bk k k es) (ok : k.ok) (hp : H[p]? = some (pairB c rc bk)) (i : Int) (x : SC) (hn : es.length ≤ 4398046511104) : Spec cx.P 17 [.c (.ptr p 0), .agg [i64 2, i64 i, x]] H (StepP S H c w1 w2 rc rr rt bk es) := by
  have np := x6_p J hp
  have ng := x6_lt J
  have nx : ∀ j, H.length ≤ j → ¬ X6 c w1 w2 rc rr rt j := fun j => x6_ge J
  have I := In4.of J hp 2 i x
  have ll : ∀ x : SB, (H ++ [x]).length = H.length + 1 := fun x => by simp
  have l0 : H.length < H.length + 1 := by omega
  have g0 : ∀ y, (H ++ [y])[H.length]? = some y := fun y => by rw [List.getElem?_append_right (Nat.le_refl _), Nat.sub_self]; rfl
  refine spec_of_X cx_ok Try.func17 rfl (by kernel_rfl) (by kernel_rfl) (Nat.le_of_ble_eq_true rfl) 400 27 ?_
  simp (maxSteps := 4000000) only [Try.results17, XX, Nat.reduceBEq, Nat.reduceLT, Nat.reduceAdd, Nat.reduceMul, Nat.reduceSub, Nat.reduceLeDiff, Nat.reduceEqDiff, Int.reduceToNat, Int.reduceLT, Int.reduceLE, Int.reduceAdd, Int.reduceSub, Int.reduceEq, reduceIte, Nat.reduceBNe, Int.reducePow, Nat.reducePow, Int.reduceMul, Int.reduceNeg, isB_i, isB_b, isB_y, isBv_i, isBv_b, eqCells_t, TT]
  simp (maxSteps := 4000000) only [Try.results17, ll, g0, l0, XX, Nat.reduceBEq, Nat.reduceLT, Nat.reduceAdd, Nat.reduceMul, Nat.reduceSub, Nat.reduceLeDiff, Nat.reduceEqDiff, Int.reduceToNat, Int.reduceLT, Int.reduceLE, Int.reduceAdd, Int.reduceSub, Int.reduceEq, reduceIte, Nat.reduceBNe, Int.reducePow, Nat.reducePow, Int.reduceMul, Int.reduceNeg, isB_i, isB_b, isB_y, isBv_i, isBv_b, eqCells_t, TT]
  generalize H ++ [opB4 2 i x] = H2 at I ⊢
  simp (maxSteps := 4000000) only [Try.results17, I.hp, I.ltp, XX, Nat.reduceBEq, Nat.reduceLT, Nat.reduceAdd, Nat.reduceMul, Nat.reduceSub, Nat.reduceLeDiff, Nat.reduceEqDiff, Int.reduceToNat, Int.reduceLT, Int.reduceLE, Int.reduceAdd, Int.reduceSub, Int.reduceEq, reduceIte, Nat.reduceBNe, Int.reducePow, Nat.reducePow, Int.reduceMul, Int.reduceNeg, isB_i, isB_b, isB_y, isBv_i, isBv_b, eqCells_t, TT]
  refine call_is (I.J.dep ok) ?_
  rintro _ h3 ⟨w, o, S1, rfl, J3, K3, hw1, hw2, hw3, rfl⟩
  have I3 := I.next np ng J3 K3
  simp (maxSteps := 4000000) only [Try.results17, I3.hp, I3.ltp, XX, Nat.reduceBEq, Nat.reduceLT, Nat.reduceAdd, Nat.reduceMul, Nat.reduceSub, Nat.reduceLeDiff, Nat.reduceEqDiff, Int.reduceToNat, Int.reduceLT, Int.reduceLE, Int.reduceAdd, Int.reduceSub, Int.reduceEq, reduceIte, Nat.reduceBNe, Int.reducePow, Nat.reducePow, Int.reduceMul, Int.reduceNeg, isB_i, isB_b, isB_y, isBv_i, isBv_b, eqCells_t, TT]
  refine call_is (rdepartA_spec ok J3.R) ?_
  rintro _ h4 ⟨y, rfl, D4, R4, B4⟩
  obtain ⟨J4', K4⟩ := J3.ref R4 B4
  have I4 := I3.next np ng J4' K4
  have hw4 := K4.2 _ _ hw2 (nx w (by have := I.ltg; omega)) (by decide : (5 : Nat) ≠ _) (by decide : (5 : Nat) ≠ _) (by decide : (5 : Nat) ≠ _)
  have ltw := lt_of hw4
  have tk : (bsC (depD k)).take (depD k).length = bsC (depD k) := by rw [bs_take, List.take_length]
  have dl : (depD k).length ≤ 1514 := depD_len ok
  have fin : ∀ f ∈ es, f.w ≠ w := fun f hf h => by
    have := I.J.hS _ (J.sub f hf)
    omega
  rcases D4 with ⟨rfl, hd0⟩ | ⟨w', z', o', rfl, hw', ho', _⟩
  · have e0 : strOf (bsC (depD k)) = ByteArray.empty := by rw [hd0]; rfl
    simp (maxSteps := 4000000) only [Try.results17, hw4, ltw, tk, e0, strOf_bsC, str_eq, I4.hp, I4.ltp, XX, Nat.reduceBEq, Nat.reduceLT, Nat.reduceAdd, Nat.reduceMul, Nat.reduceSub, Nat.reduceLeDiff, Nat.reduceEqDiff, Int.reduceToNat, Int.reduceLT, Int.reduceLE, Int.reduceAdd, Int.reduceSub, Int.reduceEq, reduceIte, Nat.reduceBNe, Int.reducePow, Nat.reducePow, Int.reduceMul, Int.reduceNeg, isB_i, isB_b, isB_y, isBv_i, isBv_b, eqCells_t, TT]
    refine ⟨⟨by simp, isByte_bsC _⟩, ?_⟩
    refine call_is (I4.J.takeA hn w _ o hw4 hw3 dl (.inr rfl) fin) ?_
    rintro _ h5 ⟨rfl, J5, K5⟩
    simp (maxSteps := 4000000) only [Try.results17, XX, Nat.reduceBEq, Nat.reduceLT, Nat.reduceAdd, Nat.reduceMul, Nat.reduceSub, Nat.reduceLeDiff, Nat.reduceEqDiff, Int.reduceToNat, Int.reduceLT, Int.reduceLE, Int.reduceAdd, Int.reduceSub, Int.reduceEq, reduceIte, Nat.reduceBNe, Int.reducePow, Nat.reducePow, Int.reduceMul, Int.reduceNeg, isB_i, isB_b, isB_y, isBv_i, isBv_b, eqCells_t, TT]
    exact ⟨rfl, _, _, _, J5, depK_ok k ok, I4.K.trans (Kp.ofB K5), fun j h => .inl h, fun j h => h.elim .inl fun h => .inr (by have := I.ltg; omega), by simp⟩
  · have ltw' := lt_of hw'
    have tk' : (bsC (depD k ++ z')).take (depD k).length = bsC (depD k) := by rw [bs_take, List.take_left' rfl]
    simp (maxSteps := 4000000) only [Try.results17, hw4, ltw, hw', ltw', tk, tk', strOf_bsC, str_eq, decide_true, I4.hp, I4.ltp, XX, Nat.reduceBEq, Nat.reduceLT, Nat.reduceAdd, Nat.reduceMul, Nat.reduceSub, Nat.reduceLeDiff, Nat.reduceEqDiff, Int.reduceToNat, Int.reduceLT, Int.reduceLE, Int.reduceAdd, Int.reduceSub, Int.reduceEq, reduceIte, Nat.reduceBNe, Int.reducePow, Nat.reducePow, Int.reduceMul, Int.reduceNeg, isB_i, isB_b, isB_y, isBv_i, isBv_b, eqCells_t, TT]
    refine ⟨⟨by simp, isByte_bsC _⟩, ⟨by simp, isByte_bsC _⟩, ?_⟩
    refine call_is (I4.J.takeA hn w _ o hw4 hw3 dl (.inr rfl) fin) ?_
    rintro _ h5 ⟨rfl, J5, K5⟩
    simp (maxSteps := 4000000) only [Try.results17, XX, Nat.reduceBEq, Nat.reduceLT, Nat.reduceAdd, Nat.reduceMul, Nat.reduceSub, Nat.reduceLeDiff, Nat.reduceEqDiff, Int.reduceToNat, Int.reduceLT, Int.reduceLE, Int.reduceAdd, Int.reduceSub, Int.reduceEq, reduceIte, Nat.reduceBNe, Int.reducePow, Nat.reducePow, Int.reduceMul, Int.reduceNeg, isB_i, isB_b, isB_y, isBv_i, isBv_b, eqCells_t, TT]
    exact ⟨rfl, _, _, _, J5, depK_ok k ok, I4.K.trans (Kp.ofB K5), fun j h => .inl h, fun j h => h.elim .inl fun h => .inr (by have := I.ltg; omega), by simp⟩
theorem stp1_spec (J : J4 S H c w1 w2 rc rr rt bk k k es) (ok : k.ok) (hp : H[p]? = some (pairB c rc bk)) (i : Int) (b sp : List UInt8) (cc : Nat) (hc : b.length ≤ cc) (hb : b.length ≤ 140737488355328) : Spec cx.P 17 [.c (.ptr p 0), .agg [i64 1, i64 i, (roB b sp cc)]] H (StepP S H c w1 w2 rc rr rt bk es) := by
  have np := x6_p J hp
  have ng := x6_lt J
  have nx : ∀ j, H.length ≤ j → ¬ X6 c w1 w2 rc rr rt j := fun j => x6_ge J
  have I := In4.of J hp 1 i (roB b sp cc)
  have ll : ∀ x : SB, (H ++ [x]).length = H.length + 1 := fun x => by simp
  have l0 : H.length < H.length + 1 := by omega
  have g0 : ∀ y, (H ++ [y])[H.length]? = some y := fun y => by rw [List.getElem?_append_right (Nat.le_refl _), Nat.sub_self]; rfl
  refine spec_of_X cx_ok Try.func17 rfl (by kernel_rfl) (by kernel_rfl) (Nat.le_of_ble_eq_true rfl) 400 27 ?_
  simp (maxSteps := 4000000) only [Try.results17, XX, Nat.reduceBEq, Nat.reduceLT, Nat.reduceAdd, Nat.reduceMul, Nat.reduceSub, Nat.reduceLeDiff, Nat.reduceEqDiff, Int.reduceToNat, Int.reduceLT, Int.reduceLE, Int.reduceAdd, Int.reduceSub, Int.reduceEq, reduceIte, Nat.reduceBNe, Int.reducePow, Nat.reducePow, Int.reduceMul, Int.reduceNeg, isB_i, isB_b, isB_y, isBv_i, isBv_b, eqCells_t, TT]
  simp (maxSteps := 4000000) only [Try.results17, ll, g0, l0, XX, Nat.reduceBEq, Nat.reduceLT, Nat.reduceAdd, Nat.reduceMul, Nat.reduceSub, Nat.reduceLeDiff, Nat.reduceEqDiff, Int.reduceToNat, Int.reduceLT, Int.reduceLE, Int.reduceAdd, Int.reduceSub, Int.reduceEq, reduceIte, Nat.reduceBNe, Int.reducePow, Nat.reducePow, Int.reduceMul, Int.reduceNeg, isB_i, isB_b, isB_y, isBv_i, isBv_b, eqCells_t, TT]
  generalize H ++ [opB4 1 i (roB b sp cc)] = H2 at I ⊢
  have u3 : (5 : Nat) ≠ 52 ∧ (5 : Nat) ≠ 35 ∧ (5 : Nat) ≠ 9 := ⟨by decide, by decide, by decide⟩
  refine call_fz [.c (roB b sp cc)] (lent_spec b sp cc hb) (fun t h' ⟨h1, h2⟩ => by subst h1 h2; exact ⟨rfl, by simp only [XX, Nat.reduceBEq, Nat.reduceLT, Nat.reduceAdd, Nat.reduceMul, Nat.reduceSub, Nat.reduceLeDiff, Nat.reduceEqDiff, Int.reduceToNat, Int.reduceLT, Int.reduceLE, Int.reduceAdd, Int.reduceSub, Int.reduceEq, reduceIte, Nat.reduceBNe, Int.reducePow, Nat.reducePow, Int.reduceMul, Int.reduceNeg, isB_i, isB_b, isB_y, isBv_i, isBv_b, eqCells_t, TT, ids_bsC, ren_bsC, noRo_bsC, plain_bsC, lt_bsC, ids_byte, ren_byte, noRo_byte, plain_byte, lt_byte]⟩) ⟨.inl ⟨rfl, rfl⟩, trivial⟩ ?_
  rintro _ _ ⟨rfl, rfl⟩
  simp only [List.map_cons, List.map_nil, SB.ren, ren_bsC]
  have I2 := I.next np ng (I.J.grow [wB true (b ++ [71, 72])] (by simp)) (Kp.app _ _)
  have hw2 : (H2 ++ [wB true (b ++ [71, 72])])[H2.length]? = some (wB true (b ++ [71, 72])) := append_at _
  generalize H2 ++ [wB true (b ++ [71, 72])] = H3 at I2 hw2 ⊢
  have gw : H.length ≤ H2.length := by have := I.ltg; omega
  simp (maxSteps := 4000000) only [Try.results17, I2.hp, I2.ltp, renF, XX, Nat.reduceBEq, Nat.reduceLT, Nat.reduceAdd, Nat.reduceMul, Nat.reduceSub, Nat.reduceLeDiff, Nat.reduceEqDiff, Int.reduceToNat, Int.reduceLT, Int.reduceLE, Int.reduceAdd, Int.reduceSub, Int.reduceEq, reduceIte, Nat.reduceBNe, Int.reducePow, Nat.reducePow, Int.reduceMul, Int.reduceNeg, isB_i, isB_b, isB_y, isBv_i, isBv_b, eqCells_t, TT]
  refine call_is (I2.J.arrive ok H2.length b [71, 72] (b.length + 2) hw2) ?_
  rintro _ h4 ⟨rfl, J4', K4⟩
  have I4 := I2.next np ng J4' K4
  have hw4 := K4.2 _ _ hw2 (nx _ gw) u3.1 u3.2.1 u3.2.2
  simp (maxSteps := 4000000) only [Try.results17, XX, Nat.reduceBEq, Nat.reduceLT, Nat.reduceAdd, Nat.reduceMul, Nat.reduceSub, Nat.reduceLeDiff, Nat.reduceEqDiff, Int.reduceToNat, Int.reduceLT, Int.reduceLE, Int.reduceAdd, Int.reduceSub, Int.reduceEq, reduceIte, Nat.reduceBNe, Int.reducePow, Nat.reducePow, Int.reduceMul, Int.reduceNeg, isB_i, isB_b, isB_y, isBv_i, isBv_b, eqCells_t, TT]
  obtain ⟨ox, mx⟩ : ∃ o, (maskL [p, H.length] 0 h4)[p]? = some ⟨o, 55, [.ptr c 0, .ptr rc 0, .ptr bk 0]⟩ := maskL_at I4.hp
  obtain ⟨oy, my⟩ : ∃ o, (maskL [p, H.length] 0 h4)[H.length]? = some ⟨o, 37, [i64 1, i64 i, roB b sp cc]⟩ := maskL_at I4.hg
  have hok := kept_cons I4.hp rfl (kept_cons I4.hg rfl kept_nil)
  have ltx := lt_of mx
  have lty := lt_of my
  have Jm := I4.mask np ng
  have lM : (maskL [p, H.length] 0 h4).length = h4.length := maskL_len _ _ _
  refine draw_of cx_ok (by kernel_rfl) 400 [p, H.length] [(0, true), (1, true), (2, true), (3, true), (4, true), (5, true), (6, false), (7, true)] (by kernel_rfl) (by first | exact hok | simp [*]) ?_
  simp (maxSteps := 4000000) only [Try.results17, I4.hp, I4.hg, mx, my, ltx, lty, XX, Nat.reduceBEq, Nat.reduceLT, Nat.reduceAdd, Nat.reduceMul, Nat.reduceSub, Nat.reduceLeDiff, Nat.reduceEqDiff, Int.reduceToNat, Int.reduceLT, Int.reduceLE, Int.reduceAdd, Int.reduceSub, Int.reduceEq, reduceIte, Nat.reduceBNe, Int.reducePow, Nat.reducePow, Int.reduceMul, Int.reduceNeg, isB_i, isB_b, isB_y, isBv_i, isBv_b, eqCells_t, TT]
  refine call_is (rarriveA_spec Jm.hS ok Jm.R b sp cc hc) ?_
  rintro _ h5 ⟨rfl, R5, B5⟩
  obtain ⟨J5, K5⟩ := Jm.ref R5 B5
  have I6 := I4.unmask np ng J5 K5
  have hw6 := (J4.unmask (I4.hL np ng) K5 J5).2.2 _ _ hw4 (nx _ gw) u3.1 u3.2.1 u3.2.2
  simp (maxSteps := 4000000) only [Try.results17, XX, Nat.reduceBEq, Nat.reduceLT, Nat.reduceAdd, Nat.reduceMul, Nat.reduceSub, Nat.reduceLeDiff, Nat.reduceEqDiff, Int.reduceToNat, Int.reduceLT, Int.reduceLE, Int.reduceAdd, Int.reduceSub, Int.reduceEq, reduceIte, Nat.reduceBNe, Int.reducePow, Nat.reducePow, Int.reduceMul, Int.reduceNeg, isB_i, isB_b, isB_y, isBv_i, isBv_b, eqCells_t, TT]
  generalize unL [p, H.length] 0 h4 h5 = H6 at I6 hw6 ⊢
  simp (maxSteps := 4000000) only [Try.results17, I6.hg, I6.ltg, XX, Nat.reduceBEq, Nat.reduceLT, Nat.reduceAdd, Nat.reduceMul, Nat.reduceSub, Nat.reduceLeDiff, Nat.reduceEqDiff, Int.reduceToNat, Int.reduceLT, Int.reduceLE, Int.reduceAdd, Int.reduceSub, Int.reduceEq, reduceIte, Nat.reduceBNe, Int.reducePow, Nat.reducePow, Int.reduceMul, Int.reduceNeg, isB_i, isB_b, isB_y, isBv_i, isBv_b, eqCells_t, TT]
  refine call_is (asLentA_spec b sp cc hb hw6) ?_
  rintro _ _ ⟨rfl, rfl⟩
  have J7 := I6.J.setB hw6 rfl (.inr rfl) (fun f hf h => by have := J.hS _ (J.sub f hf); omega) (wB true (List.replicate (b.length + 2) 83))
  simp (maxSteps := 4000000) only [Try.results17, XX, Nat.reduceBEq, Nat.reduceLT, Nat.reduceAdd, Nat.reduceMul, Nat.reduceSub, Nat.reduceLeDiff, Nat.reduceEqDiff, Int.reduceToNat, Int.reduceLT, Int.reduceLE, Int.reduceAdd, Int.reduceSub, Int.reduceEq, reduceIte, Nat.reduceBNe, Int.reducePow, Nat.reducePow, Int.reduceMul, Int.reduceNeg, isB_i, isB_b, isB_y, isBv_i, isBv_b, eqCells_t, TT]
  cases arrB k b <;> exact ⟨rfl, _, _, _, J7, arrK_ok k ok b, (I6.K).set (.inr gw) _, fun j h => .inl h, fun j h => h.elim .inl fun h => .inr (by omega), by omega⟩
theorem stp6_spec (J : J4 S H c w1 w2 rc rr rt bk k k es) (ok : k.ok) (hp : H[p]? = some (pairB c rc bk)) (i : Int) (b sp : List UInt8) (cc : Nat) (hc : b.length ≤ cc) (hb : b.length ≤ 140737488355328) : Spec cx.P 17 [.c (.ptr p 0), .agg [i64 6, i64 i, (roB b sp cc)]] H (StepP S H c w1 w2 rc rr rt bk es) := by
  have np := x6_p J hp
  have ng := x6_lt J
  have nx : ∀ j, H.length ≤ j → ¬ X6 c w1 w2 rc rr rt j := fun j => x6_ge J
  have I := In4.of J hp 6 i (roB b sp cc)
  have ll : ∀ x : SB, (H ++ [x]).length = H.length + 1 := fun x => by simp
  have l0 : H.length < H.length + 1 := by omega
  have g0 : ∀ y, (H ++ [y])[H.length]? = some y := fun y => by rw [List.getElem?_append_right (Nat.le_refl _), Nat.sub_self]; rfl
  refine spec_of_X cx_ok Try.func17 rfl (by kernel_rfl) (by kernel_rfl) (Nat.le_of_ble_eq_true rfl) 400 27 ?_
  simp (maxSteps := 4000000) only [Try.results17, XX, Nat.reduceBEq, Nat.reduceLT, Nat.reduceAdd, Nat.reduceMul, Nat.reduceSub, Nat.reduceLeDiff, Nat.reduceEqDiff, Int.reduceToNat, Int.reduceLT, Int.reduceLE, Int.reduceAdd, Int.reduceSub, Int.reduceEq, reduceIte, Nat.reduceBNe, Int.reducePow, Nat.reducePow, Int.reduceMul, Int.reduceNeg, isB_i, isB_b, isB_y, isBv_i, isBv_b, eqCells_t, TT]
  simp (maxSteps := 4000000) only [Try.results17, ll, g0, l0, XX, Nat.reduceBEq, Nat.reduceLT, Nat.reduceAdd, Nat.reduceMul, Nat.reduceSub, Nat.reduceLeDiff, Nat.reduceEqDiff, Int.reduceToNat, Int.reduceLT, Int.reduceLE, Int.reduceAdd, Int.reduceSub, Int.reduceEq, reduceIte, Nat.reduceBNe, Int.reducePow, Nat.reducePow, Int.reduceMul, Int.reduceNeg, isB_i, isB_b, isB_y, isBv_i, isBv_b, eqCells_t, TT]
  generalize H ++ [opB4 6 i (roB b sp cc)] = H2 at I ⊢
  have u3 : (5 : Nat) ≠ 52 ∧ (5 : Nat) ≠ 35 ∧ (5 : Nat) ≠ 9 := ⟨by decide, by decide, by decide⟩
  refine call_fz [.c (roB b sp cc)] (lent_spec b sp cc hb) (fun t h' ⟨h1, h2⟩ => by subst h1 h2; exact ⟨rfl, by simp only [XX, Nat.reduceBEq, Nat.reduceLT, Nat.reduceAdd, Nat.reduceMul, Nat.reduceSub, Nat.reduceLeDiff, Nat.reduceEqDiff, Int.reduceToNat, Int.reduceLT, Int.reduceLE, Int.reduceAdd, Int.reduceSub, Int.reduceEq, reduceIte, Nat.reduceBNe, Int.reducePow, Nat.reducePow, Int.reduceMul, Int.reduceNeg, isB_i, isB_b, isB_y, isBv_i, isBv_b, eqCells_t, TT, ids_bsC, ren_bsC, noRo_bsC, plain_bsC, lt_bsC, ids_byte, ren_byte, noRo_byte, plain_byte, lt_byte]⟩) ⟨.inl ⟨rfl, rfl⟩, trivial⟩ ?_
  rintro _ _ ⟨rfl, rfl⟩
  simp only [List.map_cons, List.map_nil, SB.ren, ren_bsC]
  have I2 := I.next np ng (I.J.grow [wB true (b ++ [71, 72])] (by simp)) (Kp.app _ _)
  have hw2 : (H2 ++ [wB true (b ++ [71, 72])])[H2.length]? = some (wB true (b ++ [71, 72])) := append_at _
  generalize H2 ++ [wB true (b ++ [71, 72])] = H3 at I2 hw2 ⊢
  have gw : H.length ≤ H2.length := by have := I.ltg; omega
  have I3 := I2
  obtain ⟨ox, mx⟩ : ∃ o, (maskL [p, H.length] 0 H3)[p]? = some ⟨o, 55, [.ptr c 0, .ptr rc 0, .ptr bk 0]⟩ := maskL_at I3.hp
  obtain ⟨oy, my⟩ : ∃ o, (maskL [p, H.length] 0 H3)[H.length]? = some ⟨o, 37, [i64 6, i64 i, roB b sp cc]⟩ := maskL_at I3.hg
  have hok := kept_cons I3.hp rfl (kept_cons I3.hg rfl kept_nil)
  have ltx := lt_of mx
  have lty := lt_of my
  have Jm := I3.mask np ng
  have mw : (maskL [p, H.length] 0 H3)[H2.length]? = some (wB true (b ++ [71, 72])) := by
    rw [mask_off, hw2]
    have h1 : H2.length ≠ p := by have := I.ltp; omega
    have h2 : H2.length ≠ H.length := by have := I.ltg; omega
    simp [h1, h2]
  simp (maxSteps := 4000000) only [XX, Nat.reduceBEq, Nat.reduceLT, Nat.reduceAdd, Nat.reduceMul, Nat.reduceSub, Nat.reduceLeDiff, Nat.reduceEqDiff, Int.reduceToNat, Int.reduceLT, Int.reduceLE, Int.reduceAdd, Int.reduceSub, Int.reduceEq, reduceIte, Nat.reduceBNe, Int.reducePow, Nat.reducePow, Int.reduceMul, Int.reduceNeg, isB_i, isB_b, isB_y, isBv_i, isBv_b, eqCells_t, TT, renF]
  refine draw_of cx_ok (by kernel_rfl) 400 [p, H.length] [(0, true), (1, true), (2, true), (3, true), (4, true), (5, true), (6, true), (7, false), (8, true)] (by kernel_rfl) (by first | exact hok | simp [*]) ?_
  simp (maxSteps := 4000000) only [Try.results17, I3.hp, I3.hg, mx, my, ltx, lty, renF, XX, Nat.reduceBEq, Nat.reduceLT, Nat.reduceAdd, Nat.reduceMul, Nat.reduceSub, Nat.reduceLeDiff, Nat.reduceEqDiff, Int.reduceToNat, Int.reduceLT, Int.reduceLE, Int.reduceAdd, Int.reduceSub, Int.reduceEq, reduceIte, Nat.reduceBNe, Int.reducePow, Nat.reducePow, Int.reduceMul, Int.reduceNeg, isB_i, isB_b, isB_y, isBv_i, isBv_b, eqCells_t, TT]
  refine call_is (Jm.lay ok i H2.length b [71, 72] (b.length + 2) mw) ?_
  rintro _ h4 ⟨rfl, J4', K4⟩
  have I4 := I3.unmask np ng J4' K4
  have hw4 := (J4.unmask (I3.hL np ng) K4 J4').2.2 _ _ hw2 (nx _ gw) u3.1 u3.2.1 u3.2.2
  clear hok mx my ltx lty Jm mw
  simp (maxSteps := 4000000) only [Try.results17, XX, Nat.reduceBEq, Nat.reduceLT, Nat.reduceAdd, Nat.reduceMul, Nat.reduceSub, Nat.reduceLeDiff, Nat.reduceEqDiff, Int.reduceToNat, Int.reduceLT, Int.reduceLE, Int.reduceAdd, Int.reduceSub, Int.reduceEq, reduceIte, Nat.reduceBNe, Int.reducePow, Nat.reducePow, Int.reduceMul, Int.reduceNeg, isB_i, isB_b, isB_y, isBv_i, isBv_b, eqCells_t, TT]
  generalize unL [p, H.length] 0 H3 h4 = H4 at I4 hw4 ⊢
  obtain ⟨ox, mx⟩ : ∃ o, (maskL [p, H.length] 0 H4)[p]? = some ⟨o, 55, [.ptr c 0, .ptr rc 0, .ptr bk 0]⟩ := maskL_at I4.hp
  obtain ⟨oy, my⟩ : ∃ o, (maskL [p, H.length] 0 H4)[H.length]? = some ⟨o, 37, [i64 6, i64 i, roB b sp cc]⟩ := maskL_at I4.hg
  have hok := kept_cons I4.hp rfl (kept_cons I4.hg rfl kept_nil)
  have ltx := lt_of mx
  have lty := lt_of my
  have Jm := I4.mask np ng
  refine draw_of cx_ok (by kernel_rfl) 400 [p, H.length] [(0, true), (1, true), (2, true), (3, true), (4, true), (5, true), (6, true), (7, true), (8, false), (9, true)] (by kernel_rfl) (by first | exact hok | simp [*]) ?_
  simp (maxSteps := 4000000) only [Try.results17, I4.hp, I4.hg, mx, my, ltx, lty, XX, Nat.reduceBEq, Nat.reduceLT, Nat.reduceAdd, Nat.reduceMul, Nat.reduceSub, Nat.reduceLeDiff, Nat.reduceEqDiff, Int.reduceToNat, Int.reduceLT, Int.reduceLE, Int.reduceAdd, Int.reduceSub, Int.reduceEq, reduceIte, Nat.reduceBNe, Int.reducePow, Nat.reducePow, Int.reduceMul, Int.reduceNeg, isB_i, isB_b, isB_y, isBv_i, isBv_b, eqCells_t, TT]
  refine call_is (rlayA_spec Jm.hS ok Jm.R i b sp cc hc) ?_
  rintro _ h5 ⟨rfl, R5, B5⟩
  obtain ⟨J5, K5⟩ := Jm.ref R5 B5
  have I6 := I4.unmask np ng J5 K5
  have hw6 := (J4.unmask (I4.hL np ng) K5 J5).2.2 _ _ hw4 (nx _ gw) u3.1 u3.2.1 u3.2.2
  simp (maxSteps := 4000000) only [Try.results17, XX, Nat.reduceBEq, Nat.reduceLT, Nat.reduceAdd, Nat.reduceMul, Nat.reduceSub, Nat.reduceLeDiff, Nat.reduceEqDiff, Int.reduceToNat, Int.reduceLT, Int.reduceLE, Int.reduceAdd, Int.reduceSub, Int.reduceEq, reduceIte, Nat.reduceBNe, Int.reducePow, Nat.reducePow, Int.reduceMul, Int.reduceNeg, isB_i, isB_b, isB_y, isBv_i, isBv_b, eqCells_t, TT]
  generalize unL [p, H.length] 0 H4 h5 = H6 at I6 hw6 ⊢
  simp (maxSteps := 4000000) only [Try.results17, I6.hg, I6.ltg, XX, Nat.reduceBEq, Nat.reduceLT, Nat.reduceAdd, Nat.reduceMul, Nat.reduceSub, Nat.reduceLeDiff, Nat.reduceEqDiff, Int.reduceToNat, Int.reduceLT, Int.reduceLE, Int.reduceAdd, Int.reduceSub, Int.reduceEq, reduceIte, Nat.reduceBNe, Int.reducePow, Nat.reducePow, Int.reduceMul, Int.reduceNeg, isB_i, isB_b, isB_y, isBv_i, isBv_b, eqCells_t, TT]
  refine call_is (asLentA_spec b sp cc hb hw6) ?_
  rintro _ _ ⟨rfl, rfl⟩
  have J7 := I6.J.setB hw6 rfl (.inr rfl) (fun f hf h => by have := J.hS _ (J.sub f hf); omega) (wB true (List.replicate (b.length + 2) 83))
  simp (maxSteps := 4000000) only [Try.results17, XX, Nat.reduceBEq, Nat.reduceLT, Nat.reduceAdd, Nat.reduceMul, Nat.reduceSub, Nat.reduceLeDiff, Nat.reduceEqDiff, Int.reduceToNat, Int.reduceLT, Int.reduceLE, Int.reduceAdd, Int.reduceSub, Int.reduceEq, reduceIte, Nat.reduceBNe, Int.reducePow, Nat.reducePow, Int.reduceMul, Int.reduceNeg, isB_i, isB_b, isB_y, isBv_i, isBv_b, eqCells_t, TT]
  exact ⟨rfl, _, _, _, J7, layK_ok k ok i b, (I6.K).set (.inr gw) _, fun j h => .inl h, fun j h => h.elim .inl fun h => .inr (by omega), by omega⟩
theorem stpN_spec (J : J4 S H c w1 w2 rc rr rt bk k k es) (ok : k.ok) (hp : H[p]? = some (pairB c rc bk)) (n i : Int) (x : SC) (hn : n < 1 ∨ 7 < n) : Spec cx.P 17 [.c (.ptr p 0), .agg [i64 n, i64 i, x]] H (StepP S H c w1 w2 rc rr rt bk es) := by
  have np := x6_p J hp
  have I := In4.of J hp n i x
  have ll : ∀ x : SB, (H ++ [x]).length = H.length + 1 := fun x => by simp
  have l0 : H.length < H.length + 1 := by omega
  have g0 : ∀ y, (H ++ [y])[H.length]? = some y := fun y => by rw [List.getElem?_append_right (Nat.le_refl _), Nat.sub_self]; rfl
  have d1 : decide (n = 1) = false := by simp only [decide_eq_false_iff_not]; omega
  have d2 : decide (n = 2) = false := by simp only [decide_eq_false_iff_not]; omega
  have d3 : decide (n = 3) = false := by simp only [decide_eq_false_iff_not]; omega
  have d4 : decide (n = 4) = false := by simp only [decide_eq_false_iff_not]; omega
  have d5 : decide (n = 5) = false := by simp only [decide_eq_false_iff_not]; omega
  have d6 : decide (n = 6) = false := by simp only [decide_eq_false_iff_not]; omega
  have d7 : decide (n = 7) = false := by simp only [decide_eq_false_iff_not]; omega
  refine spec_of_X cx_ok Try.func17 rfl (by kernel_rfl) (by kernel_rfl) (Nat.le_of_ble_eq_true rfl) 400 27 ?_
  simp (maxSteps := 4000000) only [Try.results17, XX, Nat.reduceBEq, Nat.reduceLT, Nat.reduceAdd, Nat.reduceMul, Nat.reduceSub, Nat.reduceLeDiff, Nat.reduceEqDiff, Int.reduceToNat, Int.reduceLT, Int.reduceLE, Int.reduceAdd, Int.reduceSub, Int.reduceEq, reduceIte, Nat.reduceBNe, Int.reducePow, Nat.reducePow, Int.reduceMul, Int.reduceNeg, isB_i, isB_b, isB_y, isBv_i, isBv_b, eqCells_t, TT]
  simp (maxSteps := 4000000) only [Try.results17, ll, g0, l0, d1, d2, d3, d4, d5, d6, d7, XX, Nat.reduceBEq, Nat.reduceLT, Nat.reduceAdd, Nat.reduceMul, Nat.reduceSub, Nat.reduceLeDiff, Nat.reduceEqDiff, Int.reduceToNat, Int.reduceLT, Int.reduceLE, Int.reduceAdd, Int.reduceSub, Int.reduceEq, reduceIte, Nat.reduceBNe, Int.reducePow, Nat.reducePow, Int.reduceMul, Int.reduceNeg, isB_i, isB_b, isB_y, isBv_i, isBv_b, eqCells_t, TT]
  exact ⟨rfl, S, k, es, I.J, ok, I.K, fun _ h => h, fun _ h => .inl h, by omega⟩

theorem step_spec (J : J4 S H c w1 w2 rc rr rt bk k k es) (ok : k.ok) (hp : H[p]? = some (pairB c rc bk)) (hn : es.length ≤ 4398046511104) (n i : Int) (b sp : List UInt8) (cc : Nat) (hc : b.length ≤ cc) (hb : b.length ≤ 140737488355328) : Spec cx.P 17 [.c (.ptr p 0), .agg [i64 n, i64 i, roB b sp cc]] H (StepP S H c w1 w2 rc rr rt bk es) := by
  by_cases h1 : n = 1
  · subst h1; exact stp1_spec J ok hp i b sp cc hc hb
  by_cases h2 : n = 2
  · subst h2; exact stp2_spec J ok hp i _ hn
  by_cases h3 : n = 3
  · subst h3; exact stp3_spec J ok hp i _ hn
  by_cases h4 : n = 4
  · subst h4; exact stp4_spec J ok hp i _ hn
  by_cases h5 : n = 5
  · subst h5; exact stp5_spec J ok hp i _
  by_cases h6 : n = 6
  · subst h6; exact stp6_spec J ok hp i b sp cc hc hb
  by_cases h7 : n = 7
  · subst h7; exact stp7_spec J ok hp i _
  exact stpN_spec J ok hp n i _ (by omega)
end
end Go.Proofs.Ytdfhmpheepobnaa.Sx
