/- The symbolic executor, at work: a call at both cards. No condition. -/
import Derived.Test.YtdfhmpheepobnaaC4q
namespace Go.Proofs.Ytdfhmpheepobnaa.Sx
open Go
set_option linter.unusedSimpArgs false
set_option linter.unusedVariables false
set_option maxRecDepth 10000
set_option maxHeartbeats 2000000

/-- Behind a call at both: they stand alike again. -/
def StepP (S : Nat → Prop) (H : List SB) (c w1 w2 rc rr rt bk : Nat) (es : List OE) (t : SV) (h' : List SB) : Prop :=
  t = .c (bC true) ∧ ∃ S' k' es', J4 S' h' c w1 w2 rc rr rt bk k' k' es' ∧ k'.ok ∧ Kp (X6 c w1 w2 rc rr rt) H h' ∧ (∀ i, S i → S' i) ∧ (∀ i, S' i → S i ∨ H.length ≤ i) ∧ es'.length ≤ es.length + 1

theorem tyPair : ¬ tyP 55 := by unfold tyP; decide
theorem tyOp : ¬ tyP 37 := by unfold tyP; decide

section
variable {S : Nat → Prop} {H : List SB} {p c w1 w2 rc rr rt bk : Nat} {k : CK} {es : List OE}

abbrev opB4 (n : Int) (i : Int) (x : SC) : SB := ⟨true, 37, [i64 n, i64 i, x]⟩
/-- Where the op stands, and the pair. -/
structure In4 (S : Nat → Prop) (H H2 : List SB) (p c w1 w2 rc rr rt bk : Nat) (kc kr : CK) (es : List OE) (n i : Int) (x : SC) : Prop where
  J : J4 S H2 c w1 w2 rc rr rt bk kc kr es
  K : Kp (X6 c w1 w2 rc rr rt) H H2
  hp : H2[p]? = some (pairB c rc bk)
  hg : H2[H.length]? = some (opB4 n i x)
  ltp : p < H2.length
  ltg : H.length < H2.length
  lp : p < H.length
theorem x6_lt (J : J4 S H c w1 w2 rc rr rt bk k k es) : ¬ X6 c w1 w2 rc rr rt H.length := by
  obtain ⟨⟨b1, e1, t1⟩, ⟨b2, e2, t2⟩, ⟨b3, e3, t3⟩⟩ := J.tys
  have := lt_of J.C.hc
  have := lt_of J.C.h1
  have := lt_of J.C.h2
  have := lt_of e1
  have := lt_of e2
  have := lt_of e3
  rintro (h | h | h | h | h | h) <;> omega
theorem x6_p (J : J4 S H c w1 w2 rc rr rt bk k k es) (hp : H[p]? = some (pairB c rc bk)) : ¬ X6 c w1 w2 rc rr rt p := by
  obtain ⟨⟨b1, e1, t1⟩, ⟨b2, e2, t2⟩, ⟨b3, e3, t3⟩⟩ := J.tys
  rintro (h | h | h | h | h | h)
  · exact ty_ne hp J.C.hc (by decide : (55 : Nat) ≠ 63) h
  · exact ty_ne hp J.C.h1 (by decide : (55 : Nat) ≠ 66) h
  · exact ty_ne hp J.C.h2 (by decide : (55 : Nat) ≠ 66) h
  · exact ty_ne hp e1 (by rw [t1]; exact (by decide : (55 : Nat) ≠ 69)) h
  · exact ty_ne hp e2 (by rw [t2]; exact (by decide : (55 : Nat) ≠ 40)) h
  · exact ty_ne hp e3 (by rw [t3]; exact (by decide : (55 : Nat) ≠ 40)) h
theorem x6_ge (J : J4 S H c w1 w2 rc rr rt bk k k es) {j : Nat} (hj : H.length ≤ j) : ¬ X6 c w1 w2 rc rr rt j := by
  obtain ⟨⟨b1, e1, t1⟩, ⟨b2, e2, t2⟩, ⟨b3, e3, t3⟩⟩ := J.tys
  have := lt_of J.C.hc
  have := lt_of J.C.h1
  have := lt_of J.C.h2
  have := lt_of e1
  have := lt_of e2
  have := lt_of e3
  rintro (h | h | h | h | h | h) <;> omega
theorem In4.of (J : J4 S H c w1 w2 rc rr rt bk k k es) (hp : H[p]? = some (pairB c rc bk)) (n i : Int) (x : SC) : In4 S H (H ++ [opB4 n i x]) p c w1 w2 rc rr rt bk k k es n i x where
  J := J.app _
  K := Kp.app _ _
  hp := by rw [List.getElem?_append_left (lt_of hp)]; exact hp
  hg := by rw [List.getElem?_append_right (Nat.le_refl _), Nat.sub_self]; rfl
  ltp := by have := lt_of hp; simp; omega
  ltg := by simp
  lp := lt_of hp
/-- A step on. -/
theorem In4.next {H2 H3 : List SB} {S' : Nat → Prop} {kc kr kc' kr' : CK} {es' : List OE} {n i : Int} {x : SC} (I : In4 S H H2 p c w1 w2 rc rr rt bk kc kr es n i x) (np : ¬ X6 c w1 w2 rc rr rt p) (ng : ¬ X6 c w1 w2 rc rr rt H.length) (J : J4 S' H3 c w1 w2 rc rr rt bk kc' kr' es') (K : Kp (X6 c w1 w2 rc rr rt) H2 H3) : In4 S' H H3 p c w1 w2 rc rr rt bk kc' kr' es' n i x where
  J := J
  K := I.K.trans K
  hp := K.2 p _ I.hp np (by decide : (55 : Nat) ≠ _) (by decide : (55 : Nat) ≠ _) (by decide : (55 : Nat) ≠ _)
  hg := K.2 _ _ I.hg ng (by decide : (37 : Nat) ≠ _) (by decide : (37 : Nat) ≠ _) (by decide : (37 : Nat) ≠ _)
  ltp := Nat.lt_of_lt_of_le I.ltp K.1
  ltg := Nat.lt_of_lt_of_le I.ltg K.1
  lp := I.lp
theorem In4.hL {H2 : List SB} {kc kr : CK} {n i : Int} {x : SC} (I : In4 S H H2 p c w1 w2 rc rr rt bk kc kr es n i x) (np : ¬ X6 c w1 w2 rc rr rt p) (ng : ¬ X6 c w1 w2 rc rr rt H.length) : ∀ j ∈ [p, H.length], ∃ b, H2[j]? = some b ∧ ¬ tyP b.ty ∧ ¬ X6 c w1 w2 rc rr rt j := by
  intro j hj
  simp only [List.mem_cons, List.not_mem_nil, or_false] at hj
  rcases hj with rfl | rfl
  · exact ⟨_, I.hp, tyPair, np⟩
  · exact ⟨_, I.hg, tyOp, ng⟩
theorem In4.mask {H2 : List SB} {kc kr : CK} {n i : Int} {x : SC} (I : In4 S H H2 p c w1 w2 rc rr rt bk kc kr es n i x) (np : ¬ X6 c w1 w2 rc rr rt p) (ng : ¬ X6 c w1 w2 rc rr rt H.length) : J4 S (maskL [p, H.length] 0 H2) c w1 w2 rc rr rt bk kc kr es :=
  I.J.mask fun j hj => let ⟨b, h1, h2, _⟩ := I.hL np ng j hj; ⟨b, h1, h2⟩
theorem In4.unmask {H2 h' : List SB} {S' : Nat → Prop} {kc kr kc' kr' : CK} {es' : List OE} {n i : Int} {x : SC} (I : In4 S H H2 p c w1 w2 rc rr rt bk kc kr es n i x) (np : ¬ X6 c w1 w2 rc rr rt p) (ng : ¬ X6 c w1 w2 rc rr rt H.length) (J : J4 S' h' c w1 w2 rc rr rt bk kc' kr' es') (K : Kp (X6 c w1 w2 rc rr rt) (maskL [p, H.length] 0 H2) h') : In4 S' H (unL [p, H.length] 0 H2 h') p c w1 w2 rc rr rt bk kc' kr' es' n i x :=
  let ⟨J1, K1⟩ := J4.unmask (I.hL np ng) K J
  I.next np ng J1 K1

theorem stp5_spec (J : J4 S H c w1 w2 rc rr rt bk k k es) (ok : k.ok) (hp : H[p]? = some (pairB c rc bk)) (i : Int) (x : SC) : Spec cx.P 17 [.c (.ptr p 0), .agg [i64 5, i64 i, x]] H (StepP S H c w1 w2 rc rr rt bk es) := by
  have np := x6_p J hp
  have ng := x6_lt J
  have nx : ∀ j, H.length ≤ j → ¬ X6 c w1 w2 rc rr rt j := fun j => x6_ge J
  have I := In4.of J hp 5 i x
  have ll : ∀ x : SB, (H ++ [x]).length = H.length + 1 := fun x => by simp
  have l0 : H.length < H.length + 1 := by omega
  have g0 : ∀ y, (H ++ [y])[H.length]? = some y := fun y => by rw [List.getElem?_append_right (Nat.le_refl _), Nat.sub_self]; rfl
  refine spec_of_X cx_ok Try.func17 rfl (by kernel_rfl) (by kernel_rfl) (Nat.le_of_ble_eq_true rfl) 400 27 ?_
  simp (maxSteps := 4000000) only [Try.results17, XX, Nat.reduceBEq, Nat.reduceLT, Nat.reduceAdd, Nat.reduceMul, Nat.reduceSub, Nat.reduceLeDiff, Nat.reduceEqDiff, Int.reduceToNat, Int.reduceLT, Int.reduceLE, Int.reduceAdd, Int.reduceSub, Int.reduceEq, reduceIte, Nat.reduceBNe, Int.reducePow, Nat.reducePow, Int.reduceMul, Int.reduceNeg, isB_i, isB_b, isB_y, isBv_i, isBv_b, eqCells_t, TT]
  simp (maxSteps := 4000000) only [Try.results17, ll, g0, l0, XX, Nat.reduceBEq, Nat.reduceLT, Nat.reduceAdd, Nat.reduceMul, Nat.reduceSub, Nat.reduceLeDiff, Nat.reduceEqDiff, Int.reduceToNat, Int.reduceLT, Int.reduceLE, Int.reduceAdd, Int.reduceSub, Int.reduceEq, reduceIte, Nat.reduceBNe, Int.reducePow, Nat.reducePow, Int.reduceMul, Int.reduceNeg, isB_i, isB_b, isB_y, isBv_i, isBv_b, eqCells_t, TT]
  generalize H ++ [opB4 5 i x] = H2 at I ⊢
  obtain ⟨ox, mx⟩ : ∃ o, (maskL [p, H.length] 0 H2)[p]? = some ⟨o, 55, [.ptr c 0, .ptr rc 0, .ptr bk 0]⟩ := maskL_at I.hp
  obtain ⟨oy, my⟩ : ∃ o, (maskL [p, H.length] 0 H2)[H.length]? = some ⟨o, 37, [i64 5, i64 i, x]⟩ := maskL_at I.hg
  have hok := kept_cons I.hp rfl (kept_cons I.hg rfl kept_nil)
  have ltx := lt_of mx
  have lty := lt_of my
  have Jm := I.mask np ng
  have lM : (maskL [p, H.length] 0 H2).length = H2.length := maskL_len _ _ _
  refine draw_of cx_ok (by kernel_rfl) 400 [p, H.length] [(0, true), (1, true), (2, true), (3, true), (4, true), (5, true), (7, true), (8, true), (9, true), (10, true), (11, true), (12, true), (6, false), (13, false), (14, true), (15, true)] (by kernel_rfl) (by first | exact hok | simp [*]) ?_
  simp (maxSteps := 4000000) only [Try.results17, I.hp, I.hg, mx, my, ltx, lty, XX, Nat.reduceBEq, Nat.reduceLT, Nat.reduceAdd, Nat.reduceMul, Nat.reduceSub, Nat.reduceLeDiff, Nat.reduceEqDiff, Int.reduceToNat, Int.reduceLT, Int.reduceLE, Int.reduceAdd, Int.reduceSub, Int.reduceEq, reduceIte, Nat.reduceBNe, Int.reducePow, Nat.reducePow, Int.reduceMul, Int.reduceNeg, isB_i, isB_b, isB_y, isBv_i, isBv_b, eqCells_t, TT]
  refine call_is (Jm.give ok i) ?_
  rintro _ h3 ⟨rfl, J3, K3⟩
  simp (maxSteps := 4000000) only [Try.results17, XX, Nat.reduceBEq, Nat.reduceLT, Nat.reduceAdd, Nat.reduceMul, Nat.reduceSub, Nat.reduceLeDiff, Nat.reduceEqDiff, Int.reduceToNat, Int.reduceLT, Int.reduceLE, Int.reduceAdd, Int.reduceSub, Int.reduceEq, reduceIte, Nat.reduceBNe, Int.reducePow, Nat.reducePow, Int.reduceMul, Int.reduceNeg, isB_i, isB_b, isB_y, isBv_i, isBv_b, eqCells_t, TT]
  refine call_is (rgiveA_spec ok J3.R i) ?_
  rintro _ h5 ⟨rfl, R5, B5⟩
  obtain ⟨J5, K5⟩ := J3.ref R5 B5
  have I5 := I.unmask np ng J5 (K3.trans K5)
  simp (maxSteps := 4000000) only [Try.results17, XX, Nat.reduceBEq, Nat.reduceLT, Nat.reduceAdd, Nat.reduceMul, Nat.reduceSub, Nat.reduceLeDiff, Nat.reduceEqDiff, Int.reduceToNat, Int.reduceLT, Int.reduceLE, Int.reduceAdd, Int.reduceSub, Int.reduceEq, reduceIte, Nat.reduceBNe, Int.reducePow, Nat.reducePow, Int.reduceMul, Int.reduceNeg, isB_i, isB_b, isB_y, isBv_i, isBv_b, eqCells_t, TT]
  exact ⟨rfl, S, _, es, I5.J, givK_ok k ok i, I5.K, fun _ h => h, fun _ h => .inl h, by omega⟩
theorem stp3_spec (J : J4 S H c w1 w2 rc rr rt bk k k es) (ok : k.ok) (hp : H[p]? = some (pairB c rc bk)) (i : Int) (x : SC) (hn : es.length ≤ 4398046511104) : Spec cx.P 17 [.c (.ptr p 0), .agg [i64 3, i64 i, x]] H (StepP S H c w1 w2 rc rr rt bk es) := by
  have np := x6_p J hp
  have ng := x6_lt J
  have nx : ∀ j, H.length ≤ j → ¬ X6 c w1 w2 rc rr rt j := fun j => x6_ge J
  have I := In4.of J hp 3 i x
  have ll : ∀ x : SB, (H ++ [x]).length = H.length + 1 := fun x => by simp
  have l0 : H.length < H.length + 1 := by omega
  have g0 : ∀ y, (H ++ [y])[H.length]? = some y := fun y => by rw [List.getElem?_append_right (Nat.le_refl _), Nat.sub_self]; rfl
  refine spec_of_X cx_ok Try.func17 rfl (by kernel_rfl) (by kernel_rfl) (Nat.le_of_ble_eq_true rfl) 400 27 ?_
  simp (maxSteps := 4000000) only [Try.results17, XX, Nat.reduceBEq, Nat.reduceLT, Nat.reduceAdd, Nat.reduceMul, Nat.reduceSub, Nat.reduceLeDiff, Nat.reduceEqDiff, Int.reduceToNat, Int.reduceLT, Int.reduceLE, Int.reduceAdd, Int.reduceSub, Int.reduceEq, reduceIte, Nat.reduceBNe, Int.reducePow, Nat.reducePow, Int.reduceMul, Int.reduceNeg, isB_i, isB_b, isB_y, isBv_i, isBv_b, eqCells_t, TT]
  simp (maxSteps := 4000000) only [Try.results17, ll, g0, l0, XX, Nat.reduceBEq, Nat.reduceLT, Nat.reduceAdd, Nat.reduceMul, Nat.reduceSub, Nat.reduceLeDiff, Nat.reduceEqDiff, Int.reduceToNat, Int.reduceLT, Int.reduceLE, Int.reduceAdd, Int.reduceSub, Int.reduceEq, reduceIte, Nat.reduceBNe, Int.reducePow, Nat.reducePow, Int.reduceMul, Int.reduceNeg, isB_i, isB_b, isB_y, isBv_i, isBv_b, eqCells_t, TT]
  generalize H ++ [opB4 3 i x] = H2 at I ⊢
  obtain ⟨ox, mx⟩ : ∃ o, (maskL [p, H.length] 0 H2)[p]? = some ⟨o, 55, [.ptr c 0, .ptr rc 0, .ptr bk 0]⟩ := maskL_at I.hp
  obtain ⟨oy, my⟩ : ∃ o, (maskL [p, H.length] 0 H2)[H.length]? = some ⟨o, 37, [i64 3, i64 i, x]⟩ := maskL_at I.hg
  have hok := kept_cons I.hp rfl (kept_cons I.hg rfl kept_nil)
  have ltx := lt_of mx
  have lty := lt_of my
  have Jm := I.mask np ng
  have lM : (maskL [p, H.length] 0 H2).length = H2.length := maskL_len _ _ _
  have sl := seeD_len ok.rs i
  have big : ∀ j, H2.length ≤ j → H.length < j := fun j hj => by have := I.ltg; omega
  have nS : ∀ j, H2.length ≤ j → ¬ S j := fun j hj hs => by have := I.J.hS j hs; omega
  refine draw_cut cx_ok 400 (fun τ => ∃ (S' : Nat → Prop) (H3 : List SB) (w d : Nat) (o : Bool), In4 S' H H3 p c w1 w2 rc rr rt bk k k es 3 i x ∧ (∀ i, S i → S' i) ∧ (∀ i, S' i → S i ∨ H.length ≤ i) ∧ S' w ∧ ¬ S w ∧ H3[w]? = some (wB o (seeD k.rx i)) ∧ (0 < (seeD k.rx i).length → o = true) ∧ H.length ≤ w ∧ H.length < d ∧ H3[d]? = some ⟨true, 40, [bC (seeS k.rx i), .sl w 0 (seeD k.rx i).length (seeD k.rx i).length]⟩ ∧
      τ = ⟨⟨27, H.length⟩, [(0, .c (.ptr p 0)), (3, .c (.ptr H.length 0)), (13, .c (.ptr d 0)), (14, .c (i64 (seeE k.rx i)))], H3⟩) ?_ ?_
  · refine draw2_of cx_ok (by kernel_rfl) 400 [p, H.length] (.pair [(0, true), (1, true), (2, true), (3, true), (4, true), (5, true)] 6 10 (.done [(7, true), (8, true), (9, true), (10, false), (11, false), (12, true)]) (.done [(6, false), (7, true), (8, true), (9, true), (11, false), (12, true)])) (by kernel_rfl) (by first | exact hok | simp [*]) ?_
    simp (maxSteps := 4000000) only [Try.results17, PXT_done, PXT_pair, I.hp, I.hg, mx, my, ltx, lty, XX, Nat.reduceBEq, Nat.reduceLT, Nat.reduceAdd, Nat.reduceMul, Nat.reduceSub, Nat.reduceLeDiff, Nat.reduceEqDiff, Int.reduceToNat, Int.reduceLT, Int.reduceLE, Int.reduceAdd, Int.reduceSub, Int.reduceEq, reduceIte, Nat.reduceBNe, Int.reducePow, Nat.reducePow, Int.reduceMul, Int.reduceNeg, isB_i, isB_b, isB_y, isBv_i, isBv_b, eqCells_t, TT]
    refine ⟨?_, ?_⟩
    · refine call_is (Jm.rx ok i) ?_
      rintro _ h3 ⟨w, o, S1, rfl, J3, K3, hw1, hw2, hw3, rfl⟩
      have lh : H2.length ≤ h3.length := by have := K3.1; omega
      simp (maxSteps := 4000000) only [Try.results17, PXT_done, append_at, append_set, append_len1, Nat.lt_add_one, XX, Nat.reduceBEq, Nat.reduceLT, Nat.reduceAdd, Nat.reduceMul, Nat.reduceSub, Nat.reduceLeDiff, Nat.reduceEqDiff, Int.reduceToNat, Int.reduceLT, Int.reduceLE, Int.reduceAdd, Int.reduceSub, Int.reduceEq, reduceIte, Nat.reduceBNe, Int.reducePow, Nat.reducePow, Int.reduceMul, Int.reduceNeg, isB_i, isB_b, isB_y, isBv_i, isBv_b, eqCells_t, TT]
      have I4 := I.unmask np ng (J3.app [⟨true, 40, [bC (seeS k.rx i), .sl w 0 (seeD k.rx i).length (seeD k.rx i).length]⟩]) (K3.trans (Kp.app _ _))
      refine ⟨_, ⟨_, _, w, h3.length, o, I4, fun j h => .inl h, fun j h => h.elim .inl fun h => .inr (by have := big w (by omega); omega), .inr rfl, nS w (by omega), ?_, hw3, by have := big w (by omega); omega, big _ lh, ?_, rfl⟩, .inl ⟨rfl, rfl, rfl, rfl, rfl, rfl, trivial⟩⟩
      · rw [unL_ge (by omega), List.getElem?_append_left (lt_of hw2)]; exact hw2
      · rw [unL_ge lh]; exact append_at _
    · refine call_is ((Jm.app _).rx ok i) ?_
      rintro _ h3 ⟨w, o, S1, rfl, J3, K3, hw1, hw2, hw3, rfl⟩
      have hd := K3.2 _ _ (append_at _) (nx _ (by have := I.ltg; omega)) (by decide : (40 : Nat) ≠ _) (by decide : (40 : Nat) ≠ _) (by decide : (40 : Nat) ≠ _)
      rw [append_len1] at hw1
      have lh := lt_of hd
      have nd := nx (maskL [p, H.length] 0 H2).length (by have := I.ltg; omega)
      simp (maxSteps := 4000000) only [Try.results17, PXT_done, hd, lh, XX, Nat.reduceBEq, Nat.reduceLT, Nat.reduceAdd, Nat.reduceMul, Nat.reduceSub, Nat.reduceLeDiff, Nat.reduceEqDiff, Int.reduceToNat, Int.reduceLT, Int.reduceLE, Int.reduceAdd, Int.reduceSub, Int.reduceEq, reduceIte, Nat.reduceBNe, Int.reducePow, Nat.reducePow, Int.reduceMul, Int.reduceNeg, isB_i, isB_b, isB_y, isBv_i, isBv_b, eqCells_t, TT]
      have I4 := I.unmask np ng (J3.setD hd rfl (fun h => nd (by simp [X6, h])) (fun h => nd (by simp [X6, h])) ⟨true, 40, [bC (seeS k.rx i), .sl w 0 (seeD k.rx i).length (seeD k.rx i).length]⟩) (((Kp.app _ _).trans K3).set (.inr (Nat.le_refl _)) _)
      refine ⟨_, ⟨_, _, w, (maskL [p, H.length] 0 H2).length, o, I4, fun j h => .inl h, fun j h => h.elim .inl fun h => .inr (by have := big w (by omega); omega), .inr rfl, nS w (by omega), ?_, hw3, by have := big w (by omega); omega, big _ (by omega), ?_, rfl⟩, .inl ⟨rfl, rfl, rfl, rfl, rfl, rfl, trivial⟩⟩
      · rw [unL_ge (by omega), List.getElem?_set_ne (by omega)]; exact hw2
      · rw [unL_ge (by omega), List.getElem?_set_self lh]
  clear hok mx my ltx lty Jm lM
  rintro τ ⟨S1, H3, w, d, o, I3, s1, s2, s3, s4, hw, ho, lw, ld, hd, rfl⟩
  obtain ⟨ox, mx⟩ : ∃ o, (maskL [p, H.length] 0 H3)[p]? = some ⟨o, 55, [.ptr c 0, .ptr rc 0, .ptr bk 0]⟩ := maskL_at I3.hp
  obtain ⟨oy, my⟩ : ∃ o, (maskL [p, H.length] 0 H3)[H.length]? = some ⟨o, 37, [i64 3, i64 i, x]⟩ := maskL_at I3.hg
  have hok := kept_cons I3.hp rfl (kept_cons I3.hg rfl kept_nil)
  have ltx := lt_of mx
  have lty := lt_of my
  have Jm := I3.mask np ng
  have lM : (maskL [p, H.length] 0 H3).length = H3.length := maskL_len _ _ _
  have n3 : ∀ {t : TypeId}, t = 40 ∨ t = 5 → t ≠ 52 ∧ t ≠ 35 ∧ t ≠ 9 := by
    rintro t (rfl | rfl) <;> exact ⟨by decide, by decide, by decide⟩
  have kd : ∀ (H4 : List SB), Kp (X6 c w1 w2 rc rr rt) H3 H4 → H4[d]? = _ ∧ H4[w]? = _ := fun H4 K => ⟨K.2 _ _ hd (nx d (by omega)) (n3 (.inl rfl)).1 (n3 (.inl rfl)).2.1 (n3 (.inl rfl)).2.2, K.2 _ _ hw (nx w lw) (n3 (.inr rfl)).1 (n3 (.inr rfl)).2.1 (n3 (.inr rfl)).2.2⟩
  have ls : ∀ (h : List SB), Kp (X6 c w1 w2 rc rr rt) (maskL [p, H.length] 0 H3) h → ∀ j ∈ [p, H.length], ∃ b, h[j]? = some b ∧ b.ty ≠ 5 := fun h K j hj => by
    simp only [List.mem_cons, List.not_mem_nil, or_false] at hj
    rcases hj with rfl | rfl
    · exact ⟨_, K.2 _ _ mx np (by decide : (55 : Nat) ≠ _) (by decide : (55 : Nat) ≠ _) (by decide : (55 : Nat) ≠ _), (by decide : (55 : Nat) ≠ 5)⟩
    · exact ⟨_, K.2 _ _ my ng (by decide : (37 : Nat) ≠ _) (by decide : (37 : Nat) ≠ _) (by decide : (37 : Nat) ≠ _), (by decide : (37 : Nat) ≠ 5)⟩
  refine draw_cut cx_ok 400 (fun τ => ∃ (S' : Nat → Prop) (H3 : List SB) (w d : Nat) (o : Bool) (d2 : Nat) (y : SC), In4 S' H H3 p c w1 w2 rc rr rt bk k k es 3 i x ∧ (∀ i, S i → S' i) ∧ (∀ i, S' i → S i ∨ H.length ≤ i) ∧ S' w ∧ ¬ S w ∧ H3[w]? = some (wB o (seeD k.rx i)) ∧ (0 < (seeD k.rx i).length → o = true) ∧ H.length ≤ w ∧ H.length < d ∧ H3[d]? = some ⟨true, 40, [bC (seeS k.rx i), .sl w 0 (seeD k.rx i).length (seeD k.rx i).length]⟩ ∧ H3[d2]? = some ⟨true, 40, [bC (seeS k.rx i), y]⟩ ∧ DX S' H3 y (seeD k.rx i) ∧
      τ = ⟨⟨27, H.length⟩, [(0, .c (.ptr p 0)), (3, .c (.ptr H.length 0)), (13, .c (.ptr d 0)), (14, .c (i64 (seeE k.rx i))), (15, .c (.ptr d2 0)), (16, .c (i64 (seeE k.rx i)))], H3⟩) ?_ ?_
  · simp (maxSteps := 4000000) only [XX, Nat.reduceBEq, Nat.reduceLT, Nat.reduceAdd, Nat.reduceMul, Nat.reduceSub, Nat.reduceLeDiff, Nat.reduceEqDiff, Int.reduceToNat, Int.reduceLT, Int.reduceLE, Int.reduceAdd, Int.reduceSub, Int.reduceEq, reduceIte, Nat.reduceBNe, Int.reducePow, Nat.reducePow, Int.reduceMul, Int.reduceNeg, isB_i, isB_b, isB_y, isBv_i, isBv_b, eqCells_t, TT]
    refine draw2_of cx_ok (by kernel_rfl) 400 [p, H.length] (.pair [(0, true), (1, true), (2, true), (3, true), (4, true), (5, true)] 6 10 (.done [(7, true), (8, true), (9, true), (10, false), (11, false), (12, true)]) (.done [(6, false), (7, true), (8, true), (9, true), (11, false), (12, true)])) (by kernel_rfl) (by first | exact hok | simp [*]) ?_
    simp (maxSteps := 4000000) only [Try.results17, PXT_done, PXT_pair, I3.hp, I3.hg, mx, my, ltx, lty, XX, Nat.reduceBEq, Nat.reduceLT, Nat.reduceAdd, Nat.reduceMul, Nat.reduceSub, Nat.reduceLeDiff, Nat.reduceEqDiff, Int.reduceToNat, Int.reduceLT, Int.reduceLE, Int.reduceAdd, Int.reduceSub, Int.reduceEq, reduceIte, Nat.reduceBNe, Int.reducePow, Nat.reducePow, Int.reduceMul, Int.reduceNeg, isB_i, isB_b, isB_y, isBv_i, isBv_b, eqCells_t, TT]
    refine ⟨?_, ?_⟩
    · refine call_is (rrxA_spec Jm.hS ok Jm.R i) ?_
      rintro _ h3 ⟨y, rfl, D3, R3, B3⟩
      obtain ⟨J3, K3⟩ := Jm.ref R3 (B3.wk fun _ h => h.elim)
      simp (maxSteps := 4000000) only [Try.results17, PXT_done, append_at, append_set, append_len1, Nat.lt_add_one, XX, Nat.reduceBEq, Nat.reduceLT, Nat.reduceAdd, Nat.reduceMul, Nat.reduceSub, Nat.reduceLeDiff, Nat.reduceEqDiff, Int.reduceToNat, Int.reduceLT, Int.reduceLE, Int.reduceAdd, Int.reduceSub, Int.reduceEq, reduceIte, Nat.reduceBNe, Int.reducePow, Nat.reducePow, Int.reduceMul, Int.reduceNeg, isB_i, isB_b, isB_y, isBv_i, isBv_b, eqCells_t, TT]
      have K4 := K3.trans (Kp.app h3 [⟨true, 40, [bC (seeS k.rx i), y]⟩])
      have I4 := I3.unmask np ng (J3.app [⟨true, 40, [bC (seeS k.rx i), y]⟩]) K4
      have K5 := (J4.unmask (I3.hL np ng) K4 (J3.app _)).2
      have lh : H3.length ≤ h3.length := by have := K3.1; omega
      refine ⟨_, ⟨S1, _, w, d, o, h3.length, y, I4, s1, s2, s3, s4, (kd _ K5).2, ho, lw, ld, (kd _ K5).1, ?_, (D3.app _).unL (ls _ K4), rfl⟩, .inl ⟨rfl, rfl, rfl, rfl, rfl, rfl, rfl, rfl, trivial⟩⟩
      rw [unL_ge lh]; exact append_at _
    · refine call_is (rrxA_spec (Jm.app _).hS ok (Jm.app _).R i) ?_
      rintro _ h3 ⟨y, rfl, D3, R3, B3⟩
      obtain ⟨J3, K3⟩ := (Jm.app _).ref R3 (B3.wk fun _ h => h.elim)
      have nd := nx (maskL [p, H.length] 0 H3).length (by have := I3.ltg; omega)
      have hd2 := K3.2 _ _ (append_at _) nd (n3 (.inl rfl)).1 (n3 (.inl rfl)).2.1 (n3 (.inl rfl)).2.2
      have lh := lt_of hd2
      simp (maxSteps := 4000000) only [Try.results17, PXT_done, hd2, lh, XX, Nat.reduceBEq, Nat.reduceLT, Nat.reduceAdd, Nat.reduceMul, Nat.reduceSub, Nat.reduceLeDiff, Nat.reduceEqDiff, Int.reduceToNat, Int.reduceLT, Int.reduceLE, Int.reduceAdd, Int.reduceSub, Int.reduceEq, reduceIte, Nat.reduceBNe, Int.reducePow, Nat.reducePow, Int.reduceMul, Int.reduceNeg, isB_i, isB_b, isB_y, isBv_i, isBv_b, eqCells_t, TT]
      have K4 := ((Kp.app _ _).trans K3).set (.inr (Nat.le_refl _)) ⟨true, 40, [bC (seeS k.rx i), y]⟩
      have J5 := J3.setD hd2 rfl (fun h => nd (by simp [X6, h])) (fun h => nd (by simp [X6, h])) ⟨true, 40, [bC (seeS k.rx i), y]⟩
      have I4 := I3.unmask np ng J5 K4
      have K5 := (J4.unmask (I3.hL np ng) K4 J5).2
      refine ⟨_, ⟨S1, _, w, d, o, (maskL [p, H.length] 0 H3).length, y, I4, s1, s2, s3, s4, (kd _ K5).2, ho, lw, ld, (kd _ K5).1, ?_, (D3.set hd2 (by decide : (40 : Nat) ≠ 5)).unL (ls _ K4), rfl⟩, .inl ⟨rfl, rfl, rfl, rfl, rfl, rfl, rfl, rfl, trivial⟩⟩
      rw [unL_ge (by omega), List.getElem?_set_self lh]
  clear hok mx my ltx lty Jm lM kd ls I3 hw hd
  rintro τ ⟨S2, H4, w, d, o, d2, y, I4, s1, s2, s3, s4, hw, ho, lw, ld, hd, hd2, D, rfl⟩
  have ltd := lt_of hd
  have ltd2 := lt_of hd2
  simp (maxSteps := 4000000) only [Try.results17, hd, hd2, ltd, ltd2, XX, Nat.reduceBEq, Nat.reduceLT, Nat.reduceAdd, Nat.reduceMul, Nat.reduceSub, Nat.reduceLeDiff, Nat.reduceEqDiff, Int.reduceToNat, Int.reduceLT, Int.reduceLE, Int.reduceAdd, Int.reduceSub, Int.reduceEq, reduceIte, Nat.reduceBNe, Int.reducePow, Nat.reducePow, Int.reduceMul, Int.reduceNeg, isB_i, isB_b, isB_y, isBv_i, isBv_b, eqCells_t, TT]
  refine call_is (desc_spec I4.hp I4.J.B hn w (seeD k.rx i) [] o (by rw [List.append_nil]; exact hw) ho sl _ _ y D) ?_
  rintro _ h5 ⟨rfl, B5, K5⟩
  simp (maxSteps := 4000000) only [Try.results17, XX, Nat.reduceBEq, Nat.reduceLT, Nat.reduceAdd, Nat.reduceMul, Nat.reduceSub, Nat.reduceLeDiff, Nat.reduceEqDiff, Int.reduceToNat, Int.reduceLT, Int.reduceLE, Int.reduceAdd, Int.reduceSub, Int.reduceEq, reduceIte, Nat.reduceBNe, Int.reducePow, Nat.reducePow, Int.reduceMul, Int.reduceNeg, isB_i, isB_b, isB_y, isBv_i, isBv_b, eqCells_t, TT]
  have J6 := I4.J.take ⟨w, seeD k.rx i, [], o⟩ (by rw [List.append_nil]; exact hw) ho (show (seeD k.rx i).length < _ by omega) (fun f hf h => s4 (by have := J.sub f hf; rw [h] at this; exact this)) s3 B5 K5
  exact ⟨rfl, S2, k, _, J6, ok, I4.K.trans (Kp.ofB K5), s1, s2, by simp⟩
theorem stp4_spec (J : J4 S H c w1 w2 rc rr rt bk k k es) (ok : k.ok) (hp : H[p]? = some (pairB c rc bk)) (i : Int) (x : SC) (hn : es.length ≤ 4398046511104) : Spec cx.P 17 [.c (.ptr p 0), .agg [i64 4, i64 i, x]] H (StepP S H c w1 w2 rc rr rt bk es) := by
  have np := x6_p J hp
  have ng := x6_lt J
  have nx : ∀ j, H.length ≤ j → ¬ X6 c w1 w2 rc rr rt j := fun j => x6_ge J
  have I := In4.of J hp 4 i x
  have ll : ∀ x : SB, (H ++ [x]).length = H.length + 1 := fun x => by simp
  have l0 : H.length < H.length + 1 := by omega
  have g0 : ∀ y, (H ++ [y])[H.length]? = some y := fun y => by rw [List.getElem?_append_right (Nat.le_refl _), Nat.sub_self]; rfl
  refine spec_of_X cx_ok Try.func17 rfl (by kernel_rfl) (by kernel_rfl) (Nat.le_of_ble_eq_true rfl) 400 27 ?_
  simp (maxSteps := 4000000) only [Try.results17, XX, Nat.reduceBEq, Nat.reduceLT, Nat.reduceAdd, Nat.reduceMul, Nat.reduceSub, Nat.reduceLeDiff, Nat.reduceEqDiff, Int.reduceToNat, Int.reduceLT, Int.reduceLE, Int.reduceAdd, Int.reduceSub, Int.reduceEq, reduceIte, Nat.reduceBNe, Int.reducePow, Nat.reducePow, Int.reduceMul, Int.reduceNeg, isB_i, isB_b, isB_y, isBv_i, isBv_b, eqCells_t, TT]
  simp (maxSteps := 4000000) only [Try.results17, ll, g0, l0, XX, Nat.reduceBEq, Nat.reduceLT, Nat.reduceAdd, Nat.reduceMul, Nat.reduceSub, Nat.reduceLeDiff, Nat.reduceEqDiff, Int.reduceToNat, Int.reduceLT, Int.reduceLE, Int.reduceAdd, Int.reduceSub, Int.reduceEq, reduceIte, Nat.reduceBNe, Int.reducePow, Nat.reducePow, Int.reduceMul, Int.reduceNeg, isB_i, isB_b, isB_y, isBv_i, isBv_b, eqCells_t, TT]
  generalize H ++ [opB4 4 i x] = H2 at I ⊢
  obtain ⟨ox, mx⟩ : ∃ o, (maskL [p, H.length] 0 H2)[p]? = some ⟨o, 55, [.ptr c 0, .ptr rc 0, .ptr bk 0]⟩ := maskL_at I.hp
  obtain ⟨oy, my⟩ : ∃ o, (maskL [p, H.length] 0 H2)[H.length]? = some ⟨o, 37, [i64 4, i64 i, x]⟩ := maskL_at I.hg
  have hok := kept_cons I.hp rfl (kept_cons I.hg rfl kept_nil)
  have ltx := lt_of mx
  have lty := lt_of my
  have Jm := I.mask np ng
  have lM : (maskL [p, H.length] 0 H2).length = H2.length := maskL_len _ _ _
  have sl := seeD_len ok.ts i
  have big : ∀ j, H2.length ≤ j → H.length < j := fun j hj => by have := I.ltg; omega
  have nS : ∀ j, H2.length ≤ j → ¬ S j := fun j hj hs => by have := I.J.hS j hs; omega
  refine draw_cut cx_ok 400 (fun τ => ∃ (S' : Nat → Prop) (H3 : List SB) (w d : Nat) (o : Bool), In4 S' H H3 p c w1 w2 rc rr rt bk k k es 4 i x ∧ (∀ i, S i → S' i) ∧ (∀ i, S' i → S i ∨ H.length ≤ i) ∧ S' w ∧ ¬ S w ∧ H3[w]? = some (wB o (seeD k.tx i)) ∧ (0 < (seeD k.tx i).length → o = true) ∧ H.length ≤ w ∧ H.length < d ∧ H3[d]? = some ⟨true, 40, [bC (seeS k.tx i), .sl w 0 (seeD k.tx i).length (seeD k.tx i).length]⟩ ∧
      τ = ⟨⟨27, H.length⟩, [(0, .c (.ptr p 0)), (3, .c (.ptr H.length 0)), (17, .c (.ptr d 0)), (18, .c (i64 (seeE k.tx i)))], H3⟩) ?_ ?_
  · refine draw2_of cx_ok (by kernel_rfl) 400 [p, H.length] (.pair [(0, true), (1, true), (2, true), (3, true), (4, true), (5, true)] 6 10 (.done [(7, true), (8, true), (9, true), (10, false), (11, false), (12, true)]) (.done [(6, false), (7, true), (8, true), (9, true), (11, false), (12, true)])) (by kernel_rfl) (by first | exact hok | simp [*]) ?_
    simp (maxSteps := 4000000) only [Try.results17, PXT_done, PXT_pair, I.hp, I.hg, mx, my, ltx, lty, XX, Nat.reduceBEq, Nat.reduceLT, Nat.reduceAdd, Nat.reduceMul, Nat.reduceSub, Nat.reduceLeDiff, Nat.reduceEqDiff, Int.reduceToNat, Int.reduceLT, Int.reduceLE, Int.reduceAdd, Int.reduceSub, Int.reduceEq, reduceIte, Nat.reduceBNe, Int.reducePow, Nat.reducePow, Int.reduceMul, Int.reduceNeg, isB_i, isB_b, isB_y, isBv_i, isBv_b, eqCells_t, TT]
    refine ⟨?_, ?_⟩
    · refine call_is (Jm.tx ok i) ?_
      rintro _ h3 ⟨w, o, S1, rfl, J3, K3, hw1, hw2, hw3, rfl⟩
      have lh : H2.length ≤ h3.length := by have := K3.1; omega
      simp (maxSteps := 4000000) only [Try.results17, PXT_done, append_at, append_set, append_len1, Nat.lt_add_one, XX, Nat.reduceBEq, Nat.reduceLT, Nat.reduceAdd, Nat.reduceMul, Nat.reduceSub, Nat.reduceLeDiff, Nat.reduceEqDiff, Int.reduceToNat, Int.reduceLT, Int.reduceLE, Int.reduceAdd, Int.reduceSub, Int.reduceEq, reduceIte, Nat.reduceBNe, Int.reducePow, Nat.reducePow, Int.reduceMul, Int.reduceNeg, isB_i, isB_b, isB_y, isBv_i, isBv_b, eqCells_t, TT]
      have I4 := I.unmask np ng (J3.app [⟨true, 40, [bC (seeS k.tx i), .sl w 0 (seeD k.tx i).length (seeD k.tx i).length]⟩]) (K3.trans (Kp.app _ _))
      refine ⟨_, ⟨_, _, w, h3.length, o, I4, fun j h => .inl h, fun j h => h.elim .inl fun h => .inr (by have := big w (by omega); omega), .inr rfl, nS w (by omega), ?_, hw3, by have := big w (by omega); omega, big _ lh, ?_, rfl⟩, .inl ⟨rfl, rfl, rfl, rfl, rfl, rfl, trivial⟩⟩
      · rw [unL_ge (by omega), List.getElem?_append_left (lt_of hw2)]; exact hw2
      · rw [unL_ge lh]; exact append_at _
    · refine call_is ((Jm.app _).tx ok i) ?_
      rintro _ h3 ⟨w, o, S1, rfl, J3, K3, hw1, hw2, hw3, rfl⟩
      have hd := K3.2 _ _ (append_at _) (nx _ (by have := I.ltg; omega)) (by decide : (40 : Nat) ≠ _) (by decide : (40 : Nat) ≠ _) (by decide : (40 : Nat) ≠ _)
      rw [append_len1] at hw1
      have lh := lt_of hd
      have nd := nx (maskL [p, H.length] 0 H2).length (by have := I.ltg; omega)
      simp (maxSteps := 4000000) only [Try.results17, PXT_done, hd, lh, XX, Nat.reduceBEq, Nat.reduceLT, Nat.reduceAdd, Nat.reduceMul, Nat.reduceSub, Nat.reduceLeDiff, Nat.reduceEqDiff, Int.reduceToNat, Int.reduceLT, Int.reduceLE, Int.reduceAdd, Int.reduceSub, Int.reduceEq, reduceIte, Nat.reduceBNe, Int.reducePow, Nat.reducePow, Int.reduceMul, Int.reduceNeg, isB_i, isB_b, isB_y, isBv_i, isBv_b, eqCells_t, TT]
      have I4 := I.unmask np ng (J3.setD hd rfl (fun h => nd (by simp [X6, h])) (fun h => nd (by simp [X6, h])) ⟨true, 40, [bC (seeS k.tx i), .sl w 0 (seeD k.tx i).length (seeD k.tx i).length]⟩) (((Kp.app _ _).trans K3).set (.inr (Nat.le_refl _)) _)
      refine ⟨_, ⟨_, _, w, (maskL [p, H.length] 0 H2).length, o, I4, fun j h => .inl h, fun j h => h.elim .inl fun h => .inr (by have := big w (by omega); omega), .inr rfl, nS w (by omega), ?_, hw3, by have := big w (by omega); omega, big _ (by omega), ?_, rfl⟩, .inl ⟨rfl, rfl, rfl, rfl, rfl, rfl, trivial⟩⟩
      · rw [unL_ge (by omega), List.getElem?_set_ne (by omega)]; exact hw2
      · rw [unL_ge (by omega), List.getElem?_set_self lh]
  clear hok mx my ltx lty Jm lM
  rintro τ ⟨S1, H3, w, d, o, I3, s1, s2, s3, s4, hw, ho, lw, ld, hd, rfl⟩
  obtain ⟨ox, mx⟩ : ∃ o, (maskL [p, H.length] 0 H3)[p]? = some ⟨o, 55, [.ptr c 0, .ptr rc 0, .ptr bk 0]⟩ := maskL_at I3.hp
  obtain ⟨oy, my⟩ : ∃ o, (maskL [p, H.length] 0 H3)[H.length]? = some ⟨o, 37, [i64 4, i64 i, x]⟩ := maskL_at I3.hg
  have hok := kept_cons I3.hp rfl (kept_cons I3.hg rfl kept_nil)
  have ltx := lt_of mx
  have lty := lt_of my
  have Jm := I3.mask np ng
  have lM : (maskL [p, H.length] 0 H3).length = H3.length := maskL_len _ _ _
  have n3 : ∀ {t : TypeId}, t = 40 ∨ t = 5 → t ≠ 52 ∧ t ≠ 35 ∧ t ≠ 9 := by
    rintro t (rfl | rfl) <;> exact ⟨by decide, by decide, by decide⟩
  have kd : ∀ (H4 : List SB), Kp (X6 c w1 w2 rc rr rt) H3 H4 → H4[d]? = _ ∧ H4[w]? = _ := fun H4 K => ⟨K.2 _ _ hd (nx d (by omega)) (n3 (.inl rfl)).1 (n3 (.inl rfl)).2.1 (n3 (.inl rfl)).2.2, K.2 _ _ hw (nx w lw) (n3 (.inr rfl)).1 (n3 (.inr rfl)).2.1 (n3 (.inr rfl)).2.2⟩
  have ls : ∀ (h : List SB), Kp (X6 c w1 w2 rc rr rt) (maskL [p, H.length] 0 H3) h → ∀ j ∈ [p, H.length], ∃ b, h[j]? = some b ∧ b.ty ≠ 5 := fun h K j hj => by
    simp only [List.mem_cons, List.not_mem_nil, or_false] at hj
    rcases hj with rfl | rfl
    · exact ⟨_, K.2 _ _ mx np (by decide : (55 : Nat) ≠ _) (by decide : (55 : Nat) ≠ _) (by decide : (55 : Nat) ≠ _), (by decide : (55 : Nat) ≠ 5)⟩
    · exact ⟨_, K.2 _ _ my ng (by decide : (37 : Nat) ≠ _) (by decide : (37 : Nat) ≠ _) (by decide : (37 : Nat) ≠ _), (by decide : (37 : Nat) ≠ 5)⟩
  refine draw_cut cx_ok 400 (fun τ => ∃ (S' : Nat → Prop) (H3 : List SB) (w d : Nat) (o : Bool) (d2 : Nat) (y : SC), In4 S' H H3 p c w1 w2 rc rr rt bk k k es 4 i x ∧ (∀ i, S i → S' i) ∧ (∀ i, S' i → S i ∨ H.length ≤ i) ∧ S' w ∧ ¬ S w ∧ H3[w]? = some (wB o (seeD k.tx i)) ∧ (0 < (seeD k.tx i).length → o = true) ∧ H.length ≤ w ∧ H.length < d ∧ H3[d]? = some ⟨true, 40, [bC (seeS k.tx i), .sl w 0 (seeD k.tx i).length (seeD k.tx i).length]⟩ ∧ H3[d2]? = some ⟨true, 40, [bC (seeS k.tx i), y]⟩ ∧ DX S' H3 y (seeD k.tx i) ∧
      τ = ⟨⟨27, H.length⟩, [(0, .c (.ptr p 0)), (3, .c (.ptr H.length 0)), (17, .c (.ptr d 0)), (18, .c (i64 (seeE k.tx i))), (19, .c (.ptr d2 0)), (20, .c (i64 (seeE k.tx i)))], H3⟩) ?_ ?_
  · simp (maxSteps := 4000000) only [XX, Nat.reduceBEq, Nat.reduceLT, Nat.reduceAdd, Nat.reduceMul, Nat.reduceSub, Nat.reduceLeDiff, Nat.reduceEqDiff, Int.reduceToNat, Int.reduceLT, Int.reduceLE, Int.reduceAdd, Int.reduceSub, Int.reduceEq, reduceIte, Nat.reduceBNe, Int.reducePow, Nat.reducePow, Int.reduceMul, Int.reduceNeg, isB_i, isB_b, isB_y, isBv_i, isBv_b, eqCells_t, TT]
    refine draw2_of cx_ok (by kernel_rfl) 400 [p, H.length] (.pair [(0, true), (1, true), (2, true), (3, true), (4, true), (5, true)] 6 10 (.done [(7, true), (8, true), (9, true), (10, false), (11, false), (12, true)]) (.done [(6, false), (7, true), (8, true), (9, true), (11, false), (12, true)])) (by kernel_rfl) (by first | exact hok | simp [*]) ?_
    simp (maxSteps := 4000000) only [Try.results17, PXT_done, PXT_pair, I3.hp, I3.hg, mx, my, ltx, lty, XX, Nat.reduceBEq, Nat.reduceLT, Nat.reduceAdd, Nat.reduceMul, Nat.reduceSub, Nat.reduceLeDiff, Nat.reduceEqDiff, Int.reduceToNat, Int.reduceLT, Int.reduceLE, Int.reduceAdd, Int.reduceSub, Int.reduceEq, reduceIte, Nat.reduceBNe, Int.reducePow, Nat.reducePow, Int.reduceMul, Int.reduceNeg, isB_i, isB_b, isB_y, isBv_i, isBv_b, eqCells_t, TT]
    refine ⟨?_, ?_⟩
    · refine call_is (rtxA_spec Jm.hS ok Jm.R i) ?_
      rintro _ h3 ⟨y, rfl, D3, R3, B3⟩
      obtain ⟨J3, K3⟩ := Jm.ref R3 (B3.wk fun _ h => h.elim)
      simp (maxSteps := 4000000) only [Try.results17, PXT_done, append_at, append_set, append_len1, Nat.lt_add_one, XX, Nat.reduceBEq, Nat.reduceLT, Nat.reduceAdd, Nat.reduceMul, Nat.reduceSub, Nat.reduceLeDiff, Nat.reduceEqDiff, Int.reduceToNat, Int.reduceLT, Int.reduceLE, Int.reduceAdd, Int.reduceSub, Int.reduceEq, reduceIte, Nat.reduceBNe, Int.reducePow, Nat.reducePow, Int.reduceMul, Int.reduceNeg, isB_i, isB_b, isB_y, isBv_i, isBv_b, eqCells_t, TT]
      have K4 := K3.trans (Kp.app h3 [⟨true, 40, [bC (seeS k.tx i), y]⟩])
      have I4 := I3.unmask np ng (J3.app [⟨true, 40, [bC (seeS k.tx i), y]⟩]) K4
      have K5 := (J4.unmask (I3.hL np ng) K4 (J3.app _)).2
      have lh : H3.length ≤ h3.length := by have := K3.1; omega
      refine ⟨_, ⟨S1, _, w, d, o, h3.length, y, I4, s1, s2, s3, s4, (kd _ K5).2, ho, lw, ld, (kd _ K5).1, ?_, (D3.app _).unL (ls _ K4), rfl⟩, .inl ⟨rfl, rfl, rfl, rfl, rfl, rfl, rfl, rfl, trivial⟩⟩
      rw [unL_ge lh]; exact append_at _
    · refine call_is (rtxA_spec (Jm.app _).hS ok (Jm.app _).R i) ?_
      rintro _ h3 ⟨y, rfl, D3, R3, B3⟩
      obtain ⟨J3, K3⟩ := (Jm.app _).ref R3 (B3.wk fun _ h => h.elim)
      have nd := nx (maskL [p, H.length] 0 H3).length (by have := I3.ltg; omega)
      have hd2 := K3.2 _ _ (append_at _) nd (n3 (.inl rfl)).1 (n3 (.inl rfl)).2.1 (n3 (.inl rfl)).2.2
      have lh := lt_of hd2
      simp (maxSteps := 4000000) only [Try.results17, PXT_done, hd2, lh, XX, Nat.reduceBEq, Nat.reduceLT, Nat.reduceAdd, Nat.reduceMul, Nat.reduceSub, Nat.reduceLeDiff, Nat.reduceEqDiff, Int.reduceToNat, Int.reduceLT, Int.reduceLE, Int.reduceAdd, Int.reduceSub, Int.reduceEq, reduceIte, Nat.reduceBNe, Int.reducePow, Nat.reducePow, Int.reduceMul, Int.reduceNeg, isB_i, isB_b, isB_y, isBv_i, isBv_b, eqCells_t, TT]
      have K4 := ((Kp.app _ _).trans K3).set (.inr (Nat.le_refl _)) ⟨true, 40, [bC (seeS k.tx i), y]⟩
      have J5 := J3.setD hd2 rfl (fun h => nd (by simp [X6, h])) (fun h => nd (by simp [X6, h])) ⟨true, 40, [bC (seeS k.tx i), y]⟩
      have I4 := I3.unmask np ng J5 K4
      have K5 := (J4.unmask (I3.hL np ng) K4 J5).2
      refine ⟨_, ⟨S1, _, w, d, o, (maskL [p, H.length] 0 H3).length, y, I4, s1, s2, s3, s4, (kd _ K5).2, ho, lw, ld, (kd _ K5).1, ?_, (D3.set hd2 (by decide : (40 : Nat) ≠ 5)).unL (ls _ K4), rfl⟩, .inl ⟨rfl, rfl, rfl, rfl, rfl, rfl, rfl, rfl, trivial⟩⟩
      rw [unL_ge (by omega), List.getElem?_set_self lh]
  clear hok mx my ltx lty Jm lM kd ls I3 hw hd
  rintro τ ⟨S2, H4, w, d, o, d2, y, I4, s1, s2, s3, s4, hw, ho, lw, ld, hd, hd2, D, rfl⟩
  have ltd := lt_of hd
  have ltd2 := lt_of hd2
  simp (maxSteps := 4000000) only [Try.results17, hd, hd2, ltd, ltd2, XX, Nat.reduceBEq, Nat.reduceLT, Nat.reduceAdd, Nat.reduceMul, Nat.reduceSub, Nat.reduceLeDiff, Nat.reduceEqDiff, Int.reduceToNat, Int.reduceLT, Int.reduceLE, Int.reduceAdd, Int.reduceSub, Int.reduceEq, reduceIte, Nat.reduceBNe, Int.reducePow, Nat.reducePow, Int.reduceMul, Int.reduceNeg, isB_i, isB_b, isB_y, isBv_i, isBv_b, eqCells_t, TT]
  refine call_is (desc_spec I4.hp I4.J.B hn w (seeD k.tx i) [] o (by rw [List.append_nil]; exact hw) ho sl _ _ y D) ?_
  rintro _ h5 ⟨rfl, B5, K5⟩
  simp (maxSteps := 4000000) only [Try.results17, XX, Nat.reduceBEq, Nat.reduceLT, Nat.reduceAdd, Nat.reduceMul, Nat.reduceSub, Nat.reduceLeDiff, Nat.reduceEqDiff, Int.reduceToNat, Int.reduceLT, Int.reduceLE, Int.reduceAdd, Int.reduceSub, Int.reduceEq, reduceIte, Nat.reduceBNe, Int.reducePow, Nat.reducePow, Int.reduceMul, Int.reduceNeg, isB_i, isB_b, isB_y, isBv_i, isBv_b, eqCells_t, TT]
  have J6 := I4.J.take ⟨w, seeD k.tx i, [], o⟩ (by rw [List.append_nil]; exact hw) ho (show (seeD k.tx i).length < _ by omega) (fun f hf h => s4 (by have := J.sub f hf; rw [h] at this; exact this)) s3 B5 K5
  exact ⟨rfl, S2, k, _, J6, ok, I4.K.trans (Kp.ofB K5), s1, s2, by simp⟩
end
end Go.Proofs.Ytdfhmpheepobnaa.Sx
