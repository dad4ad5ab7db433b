/- The symbolic executor, at work: options found, as a law. No condition. -/
import Derived.Test.YtflccffjfnfoiaaOpM
namespace Go.Proofs.Ytflccffjfnfoiaa.Sx
open Go
set_option linter.unusedSimpArgs false
set_option linter.unusedVariables false
set_option maxRecDepth 10000
set_option maxHeartbeats 2000000

theorem RTy_opts {n : Nat} {x : List RC} (h : RTy T reachBytes (n + 5) 24 x) : ∃ (xs sp : List OI) (c : Nat), x = [.sl (osR (xs ++ sp)) xs.length c] ∧ (∀ x ∈ xs, x.ok) ∧ xs.length ≤ 4398046511104 := by
  obtain ⟨items, len, rfl, h1, h2, h3, h4⟩ := RTy_slice T_24 T_58 h
  obtain ⟨ys, rfl, hys⟩ := all_form fun x hx => OI.form (n := n) (h4 x hx)
  simp only [List.length_map] at h1 h2 h3 ⊢
  have h3' : ys.length * 32 ≤ 140737488351232 := h3
  refine ⟨ys.take len, ys.drop len, ys.length, ?_, fun x hx => hys x (List.mem_of_mem_take hx), by rw [List.length_take]; omega⟩
  rw [List.take_append_drop, List.length_take, Nat.min_eq_left h1]

/-! ### What is found depends on codes and bytes alone -/
theorem find_pi {xs ys : List OI} (h : piL xs = piL ys) (k : Int) : (findO xs k).map OI.pi = (findO ys k).map OI.pi := by
  have g : ∀ xs : List OI, (findO xs k).map OI.pi = (piL xs).find? fun p => decide (p.1 = k) := fun xs => by
    unfold findO piL
    rw [List.find?_map]; rfl
  rw [g, g, h]
theorem find_cases {xs ys : List OI} (h : piL xs = piL ys) (k : Int) : (findO xs k = none ∧ findO ys k = none) ∨ ∃ a b, findO xs k = some a ∧ findO ys k = some b ∧ a.d = b.d := by
  have e := find_pi h k
  cases h1 : findO xs k <;> cases h2 : findO ys k <;> rw [h1, h2] at e <;> simp at e
  · exact .inl ⟨rfl, rfl⟩
  · exact .inr ⟨_, _, rfl, rfl, e.2⟩
theorem findD_pi {xs ys : List OI} (h : piL xs = piL ys) (k : Int) : findD xs k = findD ys k ∧ (findO xs k).isSome = (findO ys k).isSome ∧ numO xs k = numO ys k ∧ smallO xs k = smallO ys k := by
  unfold findD numO smallO
  rcases find_cases h k with ⟨h1, h2⟩ | ⟨a, b, h1, h2, h3⟩ <;> rw [h1, h2]
  · exact ⟨rfl, rfl, rfl, rfl⟩
  · simp only [h3]; exact ⟨trivial, rfl, trivial, trivial⟩

theorem owns2 {h h1 h2 : List SB} {ib iL1 iW1 v1 v2 : Nat} {x1 x2 y1 y2 : List UInt8} {c1 c2 : Bool} (hb : ib < h.length) (b1 : But h h1 (· = ib)) (l1 : h.length ≤ iL1) (w1 : h.length ≤ iW1) (b2 : But h1 h2 (fun k => k = ib ∨ k = iL1 ∨ k = iW1))
    (a1 : h[v1]? = some (wB c1 (x1 ++ y1))) (a2 : h[v2]? = some (wB c2 (x2 ++ y2))) (n1 : v1 ≠ ib) (n2 : v2 ≠ ib) (o1 : 0 < x1.length + y1.length → c1 = true) (o2 : 0 < x2.length + y2.length → c2 = true)
    (s1 : x1.length < 140737488351233) (s2 : x2.length < 140737488351233) (d12 : v1 ≠ v2) : Owns h2 [⟨v1, x1, y1, c1⟩, ⟨v2, x2, y2, c2⟩] := by
  have key : ∀ {v : Nat} {b : SB}, h[v]? = some b → v ≠ ib → h2[v]? = some b := by
    intro v b a n
    have lt := lt_of a
    have q1 := b1.2 v lt n
    have q2 := b2.2 v (by have := b1.1; omega) (by rintro (h | h | h) <;> omega)
    rw [q2, q1, a]
  have m : ∀ {i : Nat} {e e1 e2 : OE} {p : Nat → OE → Prop}, p 0 e1 → p 1 e2 → [e1, e2][i]? = some e → p i e := by
    intro i e e1 e2 p h1 h2 h
    match i, h with
    | 0, h => cases h; exact h1
    | 1, h => cases h; exact h2
  exact ⟨fun i e => m (p := fun _ e => h2[e.w]? = some (wB e.o (e.l ++ e.p))) (key a1 n1) (key a2 n2),
    fun i e => m (p := fun _ e => 0 < e.l.length + e.p.length → e.o = true) o1 o2,
    fun i e => m (p := fun _ e => e.l.length < 140737488351233) s1 s2,
    fun i j e f hij he hf => by
      match i, j, he, hf with
      | 0, 0, _, _ => omega
      | 1, 1, _, _ => omega
      | 0, 1, he, hf => cases he; cases hf; exact d12
      | 1, 0, he, hf => cases he; cases hf; exact d12.symm⟩
theorem findD_le {xs : List OI} (hok : ∀ x ∈ xs, x.ok) (k : Int) : (findD xs k).length ≤ 140737488351232 := by
  unfold findD
  cases h : findO xs k with
  | none => simp
  | some a => exact (hok a (findO_mem h)).m

theorem optionFinds_walk : ∀ css, RTyL (RTy T reachBytes DEPTH) [24, 3] css → Spec Try.prog 6 (svs T [24, 3] css) [] fun r _ => r = .c (.v (.bool true)) := by
  intro css h
  obtain ⟨x1, xs1, rfl, h1, g1⟩ := RTyL_cons h
  obtain ⟨x2, xs2, rfl, h2, g2⟩ := RTyL_cons g1
  obtain rfl := RTyL_nil g2
  obtain ⟨xs, sp, c, rfl, hok, hn⟩ := RTy_opts (n := 3) h1
  obtain ⟨k, rfl, hk⟩ := RTy_int T_3 h2
  have e1 : ∀ a : Int, svOf T 3 [.v (.int .i64 a)] = .c (i64 a) := fun _ => rfl
  have e3 : svOf T 24 [.sl (osR (xs ++ sp)) xs.length c] = .c (roO xs sp c) := rfl
  simp only [svs, e1, e3]
  clear h1 h2 g1 g2 h e1 e3
  have rf := rfind_spec xs sp c hok (by omega) k
  have rn := rnumber_spec xs sp c hok (by omega) k
  have rs := rsmall_spec xs sp c hok (by omega) k
  have le := lentO_spec xs sp c hok hn
  have lD := findD_le hok k
  refine spec_of_X cx_ok Try.func6 rfl (by kernel_rfl) (by kernel_rfl) (Nat.le_of_ble_eq_true rfl) 400 23 ?_
  simp (maxSteps := 4000000) only [Try.results6, XX, Nat.reduceBEq, Nat.reduceLT, Nat.reduceAdd, Nat.reduceMul, Nat.reduceSub, Nat.reduceLeDiff, Nat.reduceEqDiff, Int.reduceToNat, Int.reduceLT, Int.reduceLE, Int.reduceAdd, Int.reduceSub, Int.reduceEq, reduceIte, Nat.reduceBNe, Int.reducePow, Nat.reducePow, Int.reduceMul, Int.reduceNeg, isB_i, isB_b, isB_y, isBv_i, isBv_b, eqCells_t, TT]
  refine call_pureF [] (K := fun s => s = .c (bC true)) awake_spec trivial ?_
  rintro _ rfl
  simp (maxSteps := 4000000) only [Try.results6, XX, Nat.reduceBEq, Nat.reduceLT, Nat.reduceAdd, Nat.reduceMul, Nat.reduceSub, Nat.reduceLeDiff, Nat.reduceEqDiff, Int.reduceToNat, Int.reduceLT, Int.reduceLE, Int.reduceAdd, Int.reduceSub, Int.reduceEq, reduceIte, Nat.reduceBNe, Int.reducePow, Nat.reducePow, Int.reduceMul, Int.reduceNeg, isB_i, isB_b, isB_y, isBv_i, isBv_b, eqCells_t, TT]
  refine call_fz [.c (roO xs sp c), .c (i64 k)] rf (fun t h' h => resSB_noRo h) ⟨.inl ⟨rfl, rfl⟩, .inl ⟨rfl, rfl⟩, trivial⟩ ?_
  rintro _ _ ⟨z0, o0, rfl, rfl, ho0⟩
  simp (maxSteps := 4000000) only [Try.results6, ids_bsC, ren_bsC, noRo_bsC, plain_bsC, lt_bsC, ids_byte, ren_byte, noRo_byte, plain_byte, lt_byte, XX, Nat.reduceBEq, Nat.reduceLT, Nat.reduceAdd, Nat.reduceMul, Nat.reduceSub, Nat.reduceLeDiff, Nat.reduceEqDiff, Int.reduceToNat, Int.reduceLT, Int.reduceLE, Int.reduceAdd, Int.reduceSub, Int.reduceEq, reduceIte, Nat.reduceBNe, Int.reducePow, Nat.reducePow, Int.reduceMul, Int.reduceNeg, isB_i, isB_b, isB_y, isBv_i, isBv_b, eqCells_t, TT]
  refine call_pureF [.c (roO xs sp c), .c (i64 k)] rn ⟨.inl ⟨rfl, rfl⟩, .inl ⟨rfl, rfl⟩, trivial⟩ ?_
  rintro _ rfl
  simp (maxSteps := 4000000) only [Try.results6, ids_bsC, ren_bsC, noRo_bsC, plain_bsC, lt_bsC, ids_byte, ren_byte, noRo_byte, plain_byte, lt_byte, XX, Nat.reduceBEq, Nat.reduceLT, Nat.reduceAdd, Nat.reduceMul, Nat.reduceSub, Nat.reduceLeDiff, Nat.reduceEqDiff, Int.reduceToNat, Int.reduceLT, Int.reduceLE, Int.reduceAdd, Int.reduceSub, Int.reduceEq, reduceIte, Nat.reduceBNe, Int.reducePow, Nat.reducePow, Int.reduceMul, Int.reduceNeg, isB_i, isB_b, isB_y, isBv_i, isBv_b, eqCells_t, TT]
  refine call_pureF [.c (roO xs sp c), .c (i64 k)] rs ⟨.inl ⟨rfl, rfl⟩, .inl ⟨rfl, rfl⟩, trivial⟩ ?_
  rintro _ rfl
  simp (maxSteps := 4000000) only [Try.results6, ids_bsC, ren_bsC, noRo_bsC, plain_bsC, lt_bsC, ids_byte, ren_byte, noRo_byte, plain_byte, lt_byte, XX, Nat.reduceBEq, Nat.reduceLT, Nat.reduceAdd, Nat.reduceMul, Nat.reduceSub, Nat.reduceLeDiff, Nat.reduceEqDiff, Int.reduceToNat, Int.reduceLT, Int.reduceLE, Int.reduceAdd, Int.reduceSub, Int.reduceEq, reduceIte, Nat.reduceBNe, Int.reducePow, Nat.reducePow, Int.reduceMul, Int.reduceNeg, isB_i, isB_b, isB_y, isBv_i, isBv_b, eqCells_t, TT]
  refine call_lentO [.c (roO xs sp c)] le ⟨.inl ⟨rfl, rfl⟩, trivial⟩ ?_
  rintro t es L hw hpi
  have hlen : es.length = xs.length := by have := congrArg List.length hpi; simpa using this
  have hpi' : piL (es.map PE.oi) = piL xs := by rw [← hpi, piL, List.map_map]; rfl
  obtain ⟨p1, p2, p3, p4⟩ := findD_pi hpi' k
  have hok' : ∀ x ∈ es.map PE.oi, x.ok := by
    intro x hx
    simp only [List.mem_map] at hx
    obtain ⟨e, he, rfl⟩ := hx
    have : e.pi ∈ piL xs := by rw [← hpi]; exact List.mem_map_of_mem he
    simp only [piL, List.mem_map] at this
    obtain ⟨y, hy, hye⟩ := this
    simp only [OI.pi, PE.pi, Prod.mk.injEq] at hye
    obtain ⟨q1, q2, q3⟩ := hok y hy
    exact ⟨Nat.le_add_right _ _, by show e.d.length ≤ _; rw [← hye.2]; exact q2, by show _ ≤ e.k ∧ e.k < _; rw [← hye.1]; exact q3⟩
  have f1 := find_spec (es.map PE.oi) [] (es.length + 2) hok' (by rw [List.length_map]; omega) k
  have f2 := number_spec (es.map PE.oi) [] (es.length + 2) hok' (by rw [List.length_map]; omega) k
  have f3 := small_spec (es.map PE.oi) [] (es.length + 2) hok' (by rw [List.length_map]; omega) k
  rw [p1, p2] at f1
  rw [p3] at f2
  rw [p4] at f3
  refine gen_hp (fun H => H[0]? = some (wB o0 (findD xs k ++ z0)) ∧ LentO H 1 es ∧ 1 < H.length) ⟨rfl, L, lt_of L.row⟩ ?_
  rintro H ⟨w0, LH, lH⟩
  clear L
  generalize findD xs k = D at *
  generalize (findO xs k).isSome = is at *
  generalize numO xs k = nn at *
  generalize smallO xs k = ss at *
  simp (maxSteps := 4000000) only [Try.results6, List.length_cons, List.length_nil, Nat.reduceAdd, XX, Nat.reduceBEq, Nat.reduceLT, Nat.reduceAdd, Nat.reduceMul, Nat.reduceSub, Nat.reduceLeDiff, Nat.reduceEqDiff, Int.reduceToNat, Int.reduceLT, Int.reduceLE, Int.reduceAdd, Int.reduceSub, Int.reduceEq, reduceIte, Nat.reduceBNe, Int.reducePow, Nat.reducePow, Int.reduceMul, Int.reduceNeg, isB_i, isB_b, isB_y, isBv_i, isBv_b, eqCells_t, TT]
  refine call_fz [.c (roO (es.map PE.oi) [] (es.length + 2)), .c (i64 k)] f1 (fun t h' h => resSB_noRo h) ⟨LH.fz, .inl ⟨rfl, rfl⟩, trivial⟩ ?_
  rintro _ _ ⟨z1, o1, rfl, rfl, ho1⟩
  simp (maxSteps := 4000000) only [Try.results6, ids_bsC, ren_bsC, noRo_bsC, plain_bsC, lt_bsC, ids_byte, ren_byte, noRo_byte, plain_byte, lt_byte, XX, Nat.reduceBEq, Nat.reduceLT, Nat.reduceAdd, Nat.reduceMul, Nat.reduceSub, Nat.reduceLeDiff, Nat.reduceEqDiff, Int.reduceToNat, Int.reduceLT, Int.reduceLE, Int.reduceAdd, Int.reduceSub, Int.reduceEq, reduceIte, Nat.reduceBNe, Int.reducePow, Nat.reducePow, Int.reduceMul, Int.reduceNeg, isB_i, isB_b, isB_y, isBv_i, isBv_b, eqCells_t, TT]
  refine call_fz [.c (roO (es.map PE.oi) [] (es.length + 2)), .c (i64 k)] f1 (fun t h' h => resSB_noRo h) ⟨(LH.app _).fz, .inl ⟨rfl, rfl⟩, trivial⟩ ?_
  rintro _ _ ⟨z2, o2, rfl, rfl, ho2⟩
  simp (maxSteps := 4000000) only [Try.results6, ids_bsC, ren_bsC, noRo_bsC, plain_bsC, lt_bsC, ids_byte, ren_byte, noRo_byte, plain_byte, lt_byte, XX, Nat.reduceBEq, Nat.reduceLT, Nat.reduceAdd, Nat.reduceMul, Nat.reduceSub, Nat.reduceLeDiff, Nat.reduceEqDiff, Int.reduceToNat, Int.reduceLT, Int.reduceLE, Int.reduceAdd, Int.reduceSub, Int.reduceEq, reduceIte, Nat.reduceBNe, Int.reducePow, Nat.reducePow, Int.reduceMul, Int.reduceNeg, isB_i, isB_b, isB_y, isBv_i, isBv_b, eqCells_t, TT]
  refine call_pureF [.c (roO (es.map PE.oi) [] (es.length + 2)), .c (i64 k)] f2 ⟨((LH.app _).app _).fz, .inl ⟨rfl, rfl⟩, trivial⟩ ?_
  rintro _ rfl
  simp (maxSteps := 4000000) only [Try.results6, ids_bsC, ren_bsC, noRo_bsC, plain_bsC, lt_bsC, ids_byte, ren_byte, noRo_byte, plain_byte, lt_byte, XX, Nat.reduceBEq, Nat.reduceLT, Nat.reduceAdd, Nat.reduceMul, Nat.reduceSub, Nat.reduceLeDiff, Nat.reduceEqDiff, Int.reduceToNat, Int.reduceLT, Int.reduceLE, Int.reduceAdd, Int.reduceSub, Int.reduceEq, reduceIte, Nat.reduceBNe, Int.reducePow, Nat.reducePow, Int.reduceMul, Int.reduceNeg, isB_i, isB_b, isB_y, isBv_i, isBv_b, eqCells_t, TT]
  refine call_pureF [.c (roO (es.map PE.oi) [] (es.length + 2)), .c (i64 k)] f3 ⟨((LH.app _).app _).fz, .inl ⟨rfl, rfl⟩, trivial⟩ ?_
  rintro _ rfl
  simp (maxSteps := 4000000) only [Try.results6, ids_bsC, ren_bsC, noRo_bsC, plain_bsC, lt_bsC, ids_byte, ren_byte, noRo_byte, plain_byte, lt_byte, XX, Nat.reduceBEq, Nat.reduceLT, Nat.reduceAdd, Nat.reduceMul, Nat.reduceSub, Nat.reduceLeDiff, Nat.reduceEqDiff, Int.reduceToNat, Int.reduceLT, Int.reduceLE, Int.reduceAdd, Int.reduceSub, Int.reduceEq, reduceIte, Nat.reduceBNe, Int.reducePow, Nat.reducePow, Int.reduceMul, Int.reduceNeg, isB_i, isB_b, isB_y, isBv_i, isBv_b, eqCells_t, TT]
  have lk : ∀ k, k < H.length → (H ++ [wB o1 (D ++ z1)] ++ [wB o2 (D ++ z2)])[k]? = H[k]? := fun k hk => by rw [List.append_assoc, List.getElem?_append_left hk]
  have wA : (H ++ [wB o1 (D ++ z1)] ++ [wB o2 (D ++ z2)])[H.length]? = some (wB o1 (D ++ z1)) := by rw [List.append_assoc, List.getElem?_append_right (Nat.le_refl _), Nat.sub_self]; rfl
  have wC : (H ++ [wB o1 (D ++ z1)] ++ [wB o2 (D ++ z2)])[H.length + 1]? = some (wB o2 (D ++ z2)) := by rw [List.append_assoc, List.getElem?_append_right (by omega), Nat.add_sub_cancel_left]; rfl
  have ew : ∀ e ∈ es, 1 < e.w ∧ e.w < H.length := fun e he => by
    obtain ⟨i, hi⟩ := List.mem_iff_getElem?.1 he
    exact ⟨hw e he, lt_of (LH.at_ i e hi).1⟩
  have le1 : (H ++ [wB o1 (D ++ z1)]).length = H.length + 1 := by simp
  refine call_is (asLentO_spec _ 1 es ((LH.app _).app _) xs sp c hpi hok hn) ?_
  rintro _ H' ⟨rfl, hl', hk'⟩
  have v0 : H'[0]? = some (wB o0 (D ++ z0)) := (hk' 0 (by omega) fun e he => by have := ew e he; omega).trans ((lk 0 (by omega)).trans w0)
  have v1 : H'[H.length]? = some (wB o1 (D ++ z1)) := (hk' _ (by omega) fun e he => by have := ew e he; omega).trans wA
  have v2 : H'[H.length + 1]? = some (wB o2 (D ++ z2)) := (hk' _ (by omega) fun e he => by have := ew e he; omega).trans wC
  simp only [le1]
  generalize H.length = N at *
  have tk : ∀ a b : List UInt8, (bsC (a ++ b)).take a.length = bsC a := fun a b => by rw [bs_take, List.take_left' rfl]
  have lv0 := lt_of v0
  have lv1 := lt_of v1
  have lv2 := lt_of v2
  have dis : (is == is) = true := by cases is <;> rfl
  have q : ∀ a b : List UInt8, a.length ≤ (bsC (a ++ b)).length ∧ ∀ c ∈ bsC a, isByte c = true := fun a b => ⟨by simp, isByte_bsC a⟩
  simp (maxSteps := 4000000) only [Try.results6, ids_bsC, ren_bsC, noRo_bsC, plain_bsC, lt_bsC, ids_byte, ren_byte, noRo_byte, plain_byte, lt_byte, v0, v1, v2, lv0, lv1, lv2, tk, strOf_bsC, str_eq, XX, Nat.reduceBEq, Nat.reduceLT, Nat.reduceAdd, Nat.reduceMul, Nat.reduceSub, Nat.reduceLeDiff, Nat.reduceEqDiff, Int.reduceToNat, Int.reduceLT, Int.reduceLE, Int.reduceAdd, Int.reduceSub, Int.reduceEq, reduceIte, Nat.reduceBNe, Int.reducePow, Nat.reducePow, Int.reduceMul, Int.reduceNeg, isB_i, isB_b, isB_y, isBv_i, isBv_b, eqCells_t, TT]
  refine ⟨q _ _, q _ _, q _ _, q _ _, ?_⟩
  have wb : (H' ++ [bookB nilC nilC])[H'.length]? = some (bookB nilC nilC) := by rw [List.getElem?_append_right (Nat.le_refl _), Nat.sub_self]; rfl
  have u1 : (H' ++ [bookB nilC nilC])[N]? = some (wB o1 (D ++ z1)) := by rw [List.getElem?_append_left lv1]; exact v1
  have u2 : (H' ++ [bookB nilC nilC])[N + 1]? = some (wB o2 (D ++ z2)) := by rw [List.getElem?_append_left lv2]; exact v2
  have lb := lt_of wb
  refine call_is (take0_spec _ H'.length N D z1 o1 _ (by omega) wb u1) ?_
  rintro _ h1 ⟨rfl, iL, cL, iW, cW, B1, b1, l1, m1⟩
  simp (maxSteps := 4000000) only [Try.results6, XX, Nat.reduceBEq, Nat.reduceLT, Nat.reduceAdd, Nat.reduceMul, Nat.reduceSub, Nat.reduceLeDiff, Nat.reduceEqDiff, Int.reduceToNat, Int.reduceLT, Int.reduceLE, Int.reduceAdd, Int.reduceSub, Int.reduceEq, reduceIte, Nat.reduceBNe, Int.reducePow, Nat.reducePow, Int.reduceMul, Int.reduceNeg, isB_i, isB_b, isB_y, isBv_i, isBv_b, eqCells_t, TT]
  refine call_is (take_spec h1 H'.length (N + 1) _ _ _ _ _ _ D z2 o2 _ (by omega) B1 (by simp) ((b1.2 (N + 1) (lt_of u2) (by omega)).trans u2)) ?_
  rintro _ h2 ⟨rfl, iL2, cL2, iW2, cW2, B2, b2, l2, m2⟩
  simp (maxSteps := 4000000) only [Try.results6, XX, Nat.reduceBEq, Nat.reduceLT, Nat.reduceAdd, Nat.reduceMul, Nat.reduceSub, Nat.reduceLeDiff, Nat.reduceEqDiff, Int.reduceToNat, Int.reduceLT, Int.reduceLE, Int.reduceAdd, Int.reduceSub, Int.reduceEq, reduceIte, Nat.reduceBNe, Int.reducePow, Nat.reducePow, Int.reduceMul, Int.reduceNeg, isB_i, isB_b, isB_y, isBv_i, isBv_b, eqCells_t, TT]
  refine call_is (owned_spec h2 H'.length [⟨N, D, z1, o1⟩, ⟨N + 1, D, z2, o2⟩] iL2 cL2 iW2 cW2 B2 (owns2 lb b1 l1 m1 b2 u1 u2 (by omega) (by omega) ho1 ho2 (by omega) (by omega) (by omega)) (by simp)) ?_
  rintro _ _ rfl
  simp (maxSteps := 4000000) only [Try.results6, XX, Nat.reduceBEq, Nat.reduceLT, Nat.reduceAdd, Nat.reduceMul, Nat.reduceSub, Nat.reduceLeDiff, Nat.reduceEqDiff, Int.reduceToNat, Int.reduceLT, Int.reduceLE, Int.reduceAdd, Int.reduceSub, Int.reduceEq, reduceIte, Nat.reduceBNe, Int.reducePow, Nat.reducePow, Int.reduceMul, Int.reduceNeg, isB_i, isB_b, isB_y, isBv_i, isBv_b, eqCells_t, TT]
end Go.Proofs.Ytflccffjfnfoiaa.Sx
