/- The symbolic executor, at work: parts parsed, as a law. No condition. -/
import Derived.Test.YtflccffjfnfoiaaOpZ
import Derived.Test.YtflccffjfnfoiaaOpS
namespace Go.Proofs.Ytflccffjfnfoiaa.Sx
open Go
set_option linter.unusedSimpArgs false
set_option linter.unusedVariables false
set_option maxRecDepth 10000
set_option maxHeartbeats 2000000

theorem Opts.keep {H H' : List SB} {iO : Nat} {o : Bool} {es : List PE} {r : Nat} (O : Opts H iO o es r) (h0 : H'[iO]? = H[iO]?) (h1 : ∀ e ∈ es, H'[e.w]? = H[e.w]?) : Opts H' iO o es r :=
  ⟨h0.trans O.row, O.own, fun i e he => ⟨(h1 e (List.mem_of_getElem? he)).trans (O.at_ i e he).1, (O.at_ i e he).2⟩, O.ne⟩
/-- A row that came out, in a stretch of windows. -/
structure RowIn (H : List SB) (x : RE) (lo hi : Nat) (X : Except Int (List PI)) : Prop where
  at_ : x.at_ H
  i : lo ≤ x.iO ∧ x.iO < hi
  w : ∀ e ∈ x.es, lo ≤ e.w ∧ e.w < hi
  pi : x.es.map PE.pi = parL X
theorem RowIn.keep {H H' : List SB} {x : RE} {lo hi : Nat} {X : Except Int (List PI)} (R : RowIn H x lo hi X) (h : ∀ k, lo ≤ k → k < hi → H'[k]? = H[k]?) : RowIn H' x lo hi X :=
  ⟨R.at_.keep (h _ R.i.1 R.i.2) fun e he => h _ (R.w e he).1 (R.w e he).2, R.i, R.w, R.pi⟩
theorem RowIn.app {H : List SB} {x : RE} {lo hi : Nat} {X : Except Int (List PI)} (R : RowIn H x lo hi X) (t : List SB) : RowIn (H ++ t) x lo hi X := ⟨R.at_.app t, R.i, R.w, R.pi⟩
theorem call_rowX {P : Program} {xn : XN} {f : FuncId} {args : List SV} (args0 : List SV) {dst : Option Tmp} {k : List KI} {nm : NB} {tm : List (Nat × SV)} {hp : List SB} {Q : XE → St → Prop} {X : Except Int (List PI)}
    (s : Spec P f args0 [] (resP X)) (ha : frA true (fun _ => true) (renF [] hp.length) 0 hp args args0)
    (hk : ∀ (t : List SB) (x : RE), RowIn (hp ++ t) x hp.length (hp ++ t).length X → xn k ⟨nm, put dst (.tup [(false, [x.sc]), (false, [i64 (parE X)])]) tm, hp ++ t⟩ Q) : CallGoal P xn f args dst k ⟨nm, tm, hp⟩ Q :=
  call_opts args0 s ha fun t o es r O hw hpi => hk t ⟨hp.length, o, es, r⟩ ⟨O, ⟨Nat.le_refl _, lt_of O.row⟩, fun e he => ⟨Nat.le_of_lt (hw e he), by
    obtain ⟨i, hi⟩ := List.mem_iff_getElem?.1 he
    exact lt_of (O.at_ i e hi).1⟩, hpi⟩

abbrev lps (D : List (List UInt8)) : List PT4 := D.map fun d => (d, [71, 72], d.length + 2)
theorem lps_bytes (D : List (List UInt8)) : bytesP (lps D) = D := by rw [bytesP, lps, List.map_map]; exact List.map_id' _
theorem lps_len (D : List (List UInt8)) : lenP (lps D) = (D.map List.length).sum := by rw [lenP, lps, List.map_map]; rfl
theorem frL_lps {h : List SB} : ∀ {k : Nat} {D : List (List UInt8)} {Z : List SC}, (∀ (i : Nat) (d : List UInt8), D[i]? = some d → h[k + i]? = some (wL d)) → frL (fun _ => true) h ((lps D).map partO) (cellsL k D ++ Z)
  | _, [], _, _ => trivial
  | k, d :: D, Z, H => by
    refine ⟨?_, frL_lps fun i e he => by rw [show k + 1 + i = k + (i + 1) by omega]; exact H (i + 1) e (by simpa using he)⟩
    exact frO_win (H 0 d rfl) rfl rfl rfl
theorem LentP.fz {r : Nat → Nat} {n : Nat} {H : List SB} {b : Nat} {D : List (List UInt8)} (L : LentP H b D) : frV true (fun _ => true) r n H (.c (.sl b 0 D.length (D.length + 1))) (.c (partsV (lps D) [] (D.length + 1))) := by
  have := fzO_rows (r := r) (n := n) (o := 0) (m := D.length) (c := D.length + 1) (rows := (lps D).map partO ++ []) L.row rfl (by rw [List.append_nil, List.drop_zero]; exact frL_lps L.at_)
  show frV true (fun _ => true) r n H _ (.c (.ro ((lps D).map partO ++ []) (lps D).length (D.length + 1)))
  rw [show (lps D).length = D.length from List.length_map ..]
  exact this
theorem RowIn.keepB {H H' : List SB} {x : RE} {lo hi : Nat} {X : Except Int (List PI)} (R : RowIn H x lo hi X) (h : KeepB tyO H H') : RowIn H' x lo hi X := ⟨Opts.keepB (fun t h => h) R.at_ h, R.i, R.w, R.pi⟩

/-! ### No two lists share a place -/
def NDw (l : List B5.OE) : Prop := l.Pairwise fun e f => e.w ≠ f.w
theorem NDw.get {l : List B5.OE} (h : NDw l) {i j : Nat} {e f : B5.OE} (hij : i ≠ j) (he : l[i]? = some e) (hf : l[j]? = some f) : e.w ≠ f.w := by
  obtain ⟨hi, rfl⟩ := List.getElem?_eq_some_iff.1 he
  obtain ⟨hj, rfl⟩ := List.getElem?_eq_some_iff.1 hf
  rw [NDw, List.pairwise_iff_getElem] at h
  rcases Nat.lt_or_gt_of_ne hij with hlt | hlt
  · exact h i j hi hj hlt
  · exact (h j i hj hi hlt).symm
abbrev dataR (x : RE) : List B5.OE := x.es.map fun e => (⟨e.w, e.d, e.sp, e.o⟩ : B5.OE)
theorem RowIn.nd {H : List SB} {x : RE} {lo hi : Nat} {X : Except Int (List PI)} (R : RowIn H x lo hi X) : NDw (dataR x) := by
  rw [NDw, List.pairwise_iff_getElem]
  intro i j hi hj hij
  rw [List.length_map] at hi hj
  rw [List.getElem_map, List.getElem_map]
  exact R.at_.ne i j _ _ (by omega) (List.getElem?_eq_getElem hi) (List.getElem?_eq_getElem hj)
theorem rows15_three {H : List SB} {a b c : RE} {m0 m1 m2 m3 : Nat} {X Y Z : Except Int (List PI)} (A : RowIn H a m0 m1 X) (B : RowIn H b m1 m2 Y) (C : RowIn H c m2 m3 Z)
    (ka : ∀ e ∈ a.es, e.d.length ≤ 140737488351232 ∧ -9223372036854775808 ≤ e.k ∧ e.k < 9223372036854775808) (kb : ∀ e ∈ b.es, e.d.length ≤ 140737488351232 ∧ -9223372036854775808 ≤ e.k ∧ e.k < 9223372036854775808) (kc : ∀ e ∈ c.es, e.d.length ≤ 140737488351232 ∧ -9223372036854775808 ≤ e.k ∧ e.k < 9223372036854775808)
    (la : a.es.length ≤ 64) (lb : b.es.length ≤ 64) (lc : c.es.length ≤ 64) : Rows15 H [a, b, c] := by
  have m : ∀ {i : Nat} {y : RE} {p : Nat → RE → Prop}, p 0 a → p 1 b → p 2 c → [a, b, c][i]? = some y → p i y := by
    intro i y p h1 h2 h3 h
    match i, h with
    | 0, h => cases h; exact h1
    | 1, h => cases h; exact h2
    | 2, h => cases h; exact h3
  have mm : ∀ {y : RE} {p : RE → Prop}, p a → p b → p c → y ∈ [a, b, c] → p y := by
    intro y p h1 h2 h3 h
    simp only [List.mem_cons, List.not_mem_nil, or_false] at h
    rcases h with rfl | rfl | rfl
    · exact h1
    · exact h2
    · exact h3
  have i1 := A.i; have i2 := B.i; have i3 := C.i
  refine ⟨fun i y => m (p := fun _ y => y.at_ H) A.at_ B.at_ C.at_, fun y hy => mm (p := fun y => ∀ e ∈ y.es, e.d.length ≤ 140737488351232 ∧ -9223372036854775808 ≤ e.k ∧ e.k < 9223372036854775808) ka kb kc hy, fun y hy => mm (p := fun y => y.es.length ≤ 64) la lb lc hy, by simp, fun i j y z hij hy hz => ?_, fun i j e f hij he hf => ?_⟩
  · match i, j, hy, hz with
    | 0, 0, _, _ => omega
    | 1, 1, _, _ => omega
    | 2, 2, _, _ => omega
    | 0, 1, hy, hz => cases hy; cases hz; omega
    | 1, 0, hy, hz => cases hy; cases hz; omega
    | 0, 2, hy, hz => cases hy; cases hz; omega
    | 2, 0, hy, hz => cases hy; cases hz; omega
    | 1, 2, hy, hz => cases hy; cases hz; omega
    | 2, 1, hy, hz => cases hy; cases hz; omega
  · have e1 : dataE [a, b, c] = dataR a ++ (dataR b ++ dataR c) := by simp [dataE]
    have wa : ∀ e ∈ dataR a, m0 ≤ e.w ∧ e.w < m1 := fun e he => by obtain ⟨p, hp, rfl⟩ := List.mem_map.1 he; exact A.w p hp
    have wb : ∀ e ∈ dataR b, m1 ≤ e.w ∧ e.w < m2 := fun e he => by obtain ⟨p, hp, rfl⟩ := List.mem_map.1 he; exact B.w p hp
    have wc : ∀ e ∈ dataR c, m2 ≤ e.w ∧ e.w < m3 := fun e he => by obtain ⟨p, hp, rfl⟩ := List.mem_map.1 he; exact C.w p hp
    have nd : NDw (dataR a ++ (dataR b ++ dataR c)) := by
      refine List.pairwise_append.2 ⟨A.nd, List.pairwise_append.2 ⟨B.nd, C.nd, fun e he f hf => ?_⟩, fun e he f hf => ?_⟩
      · have := wb e he; have := wc f hf; omega
      · have := wa e he
        rcases List.mem_append.1 hf with hf | hf
        · have := wb f hf; omega
        · have := wc f hf; omega
    rw [e1] at he hf
    exact nd.get hij he hf

theorem b15_none {H : List SB} {ib : Nat} (h : H[ib]? = some (B5.bookB nilS nilS nilS nilS)) : B15 H ib [] [] := ⟨nilS, nilS, .inl ⟨rfl, rfl, h⟩, .inl ⟨rfl, rfl⟩, .inl ⟨rfl, rfl⟩, rfl, fun i j n m c d e => nomatch e⟩

theorem optionParses_walk : ∀ css, RTyL (RTy T reachBytes DEPTH) [32, 32] css → Spec Try.prog 5 (svs T [32, 32] css) [] fun r _ => r = .c (.v (.bool true)) := by
  intro css h
  obtain ⟨x1, xs1, rfl, h1, g1⟩ := RTyL_cons h
  obtain ⟨x2, xs2, rfl, h2, g2⟩ := RTyL_cons g1
  obtain rfl := RTyL_nil g2
  obtain ⟨ps, rs, c, rfl, hps, hpn⟩ := RTy_parts (n := 5) h1
  obtain ⟨qs, rs', c', rfl, hqs, hqn⟩ := RTy_parts (n := 5) h2
  have e4 : ∀ (ps : List PT4) (rs : List RC) (c : Nat), svOf T 32 [.sl (ps.map partO ++ rs) ps.length c] = .c (partsV ps rs c) := fun _ _ _ => rfl
  simp only [svs, e4]
  clear h1 h2 g1 g2 h e4
  have by1 := beyond_spec ps rs c hps hpn
  have by2 := beyond_spec qs rs' c' hqs hqn
  refine spec_of_X cx_ok Try.func5 rfl (by kernel_rfl) (by kernel_rfl) (Nat.le_of_ble_eq_true rfl) 400 26 ?_
  simp (maxSteps := 4000000) only [Try.results5, XX, Nat.reduceBEq, Nat.reduceLT, Nat.reduceAdd, Nat.reduceMul, Nat.reduceSub, Nat.reduceLeDiff, Nat.reduceEqDiff, Int.reduceToNat, Int.reduceLT, Int.reduceLE, Int.reduceAdd, Int.reduceSub, Int.reduceEq, reduceIte, Nat.reduceBNe, Int.reducePow, Nat.reducePow, Int.reduceMul, Int.reduceNeg, isB_i, isB_b, isB_y, isBv_i, isBv_b, eqCells_t, TT]
  refine call_pureF [] (K := fun s => s = .c (bC true)) awake_spec trivial ?_
  rintro _ rfl
  simp (maxSteps := 4000000) only [Try.results5, XX, Nat.reduceBEq, Nat.reduceLT, Nat.reduceAdd, Nat.reduceMul, Nat.reduceSub, Nat.reduceLeDiff, Nat.reduceEqDiff, Int.reduceToNat, Int.reduceLT, Int.reduceLE, Int.reduceAdd, Int.reduceSub, Int.reduceEq, reduceIte, Nat.reduceBNe, Int.reducePow, Nat.reducePow, Int.reduceMul, Int.reduceNeg, isB_i, isB_b, isB_y, isBv_i, isBv_b, eqCells_t, TT]
  refine call_pureF [.c (partsV ps rs c)] by1 ⟨.inl ⟨rfl, rfl⟩, trivial⟩ ?_
  rintro _ rfl
  simp (maxSteps := 4000000) only [Try.results5, XX, Nat.reduceBEq, Nat.reduceLT, Nat.reduceAdd, Nat.reduceMul, Nat.reduceSub, Nat.reduceLeDiff, Nat.reduceEqDiff, Int.reduceToNat, Int.reduceLT, Int.reduceLE, Int.reduceAdd, Int.reduceSub, Int.reduceEq, reduceIte, Nat.reduceBNe, Int.reducePow, Nat.reducePow, Int.reduceMul, Int.reduceNeg, isB_i, isB_b, isB_y, isBv_i, isBv_b, eqCells_t, TT]
  refine call_pureF [.c (partsV qs rs' c')] by2 ⟨.inl ⟨rfl, rfl⟩, trivial⟩ ?_
  rintro _ rfl
  by_cases b1 : 2147483647 < lenP ps + ps.length
  · rw [decide_eq_true b1]
    simp (maxSteps := 4000000) only [Try.results5, XX, Nat.reduceBEq, Nat.reduceLT, Nat.reduceAdd, Nat.reduceMul, Nat.reduceSub, Nat.reduceLeDiff, Nat.reduceEqDiff, Int.reduceToNat, Int.reduceLT, Int.reduceLE, Int.reduceAdd, Int.reduceSub, Int.reduceEq, reduceIte, Nat.reduceBNe, Int.reducePow, Nat.reducePow, Int.reduceMul, Int.reduceNeg, isB_i, isB_b, isB_y, isBv_i, isBv_b, eqCells_t, TT]
  rw [decide_eq_false b1]
  by_cases b2 : 2147483647 < lenP qs + qs.length
  · rw [decide_eq_true b2]
    simp (maxSteps := 4000000) only [Try.results5, XX, Nat.reduceBEq, Nat.reduceLT, Nat.reduceAdd, Nat.reduceMul, Nat.reduceSub, Nat.reduceLeDiff, Nat.reduceEqDiff, Int.reduceToNat, Int.reduceLT, Int.reduceLE, Int.reduceAdd, Int.reduceSub, Int.reduceEq, reduceIte, Nat.reduceBNe, Int.reducePow, Nat.reducePow, Int.reduceMul, Int.reduceNeg, isB_i, isB_b, isB_y, isBv_i, isBv_b, eqCells_t, TT]
  rw [decide_eq_false b2]
  clear by1 by2
  obtain ⟨D, hD⟩ : ∃ D, bytesP ps = D := ⟨_, rfl⟩
  obtain ⟨E, hE⟩ : ∃ E, bytesP qs = E := ⟨_, rfl⟩
  have lD : D.length = ps.length := by rw [← hD]; exact List.length_map ..
  have lE : E.length = qs.length := by rw [← hE]; exact List.length_map ..
  have sD : (D.map List.length).sum = lenP ps := by rw [← hD]; exact sum_bytesP ps
  have sE : (E.map List.length).sum = lenP qs := by rw [← hE]; exact sum_bytesP qs
  have okL : ∀ (F : List (List UInt8)), (F.map List.length).sum ≤ 2147483647 → ∀ p ∈ lps F, p.ok := fun F hF p hp => by
    obtain ⟨d, hd, rfl⟩ := List.mem_map.1 hp
    obtain ⟨u, v, rfl⟩ := List.append_of_mem hd
    simp at hF
    exact ⟨by dsimp only; omega, by dsimp only; omega⟩
  have r1 := rparse_spec ps rs c hps (by omega) (by omega)
  have r2 := rparse_spec qs rs' c' hqs (by omega) (by omega)
  have p1 := parse_spec (lps D) [] (D.length + 1) (okL D (by omega)) (by rw [List.length_map]; omega) (by rw [lps_len]; omega)
  have p2 := parse_spec (lps E) [] (E.length + 1) (okL E (by omega)) (by rw [List.length_map]; omega) (by rw [lps_len]; omega)
  have t1 := lentP_spec ps rs c hps hpn
  have t2 := lentP_spec qs rs' c' hqs hqn
  rw [lps_bytes] at p1 p2
  rw [hD] at r1 t1
  rw [hE] at r2 t2
  obtain ⟨X, hX⟩ : ∃ X, parseA D [] = X := ⟨_, rfl⟩
  obtain ⟨Y, hY⟩ : ∃ Y, parseA E [] = Y := ⟨_, rfl⟩
  rw [hX] at r1 p1
  rw [hY] at r2 p2
  have gX := fun (es : List PE) (h : es.map PE.pi = parL X) => parL_ok (N := 2147483647) hX h (by omega)
  have gY := fun (es : List PE) (h : es.map PE.pi = parL Y) => parL_ok (N := 2147483647) hY h (by omega)
  simp (maxSteps := 4000000) only [Try.results5, XX, Nat.reduceBEq, Nat.reduceLT, Nat.reduceAdd, Nat.reduceMul, Nat.reduceSub, Nat.reduceLeDiff, Nat.reduceEqDiff, Int.reduceToNat, Int.reduceLT, Int.reduceLE, Int.reduceAdd, Int.reduceSub, Int.reduceEq, reduceIte, Nat.reduceBNe, Int.reducePow, Nat.reducePow, Int.reduceMul, Int.reduceNeg, isB_i, isB_b, isB_y, isBv_i, isBv_b, eqCells_t, TT]
  refine call_rowX [.c (partsV ps rs c)] r1 ⟨.inl ⟨rfl, rfl⟩, trivial⟩ ?_
  rintro t x0 R0
  refine gen_hp (fun H => RowIn H x0 0 H.length X) R0 ?_
  clear R0
  rintro H1 R0
  simp (maxSteps := 4000000) only [Try.results5, XX, Nat.reduceBEq, Nat.reduceLT, Nat.reduceAdd, Nat.reduceMul, Nat.reduceSub, Nat.reduceLeDiff, Nat.reduceEqDiff, Int.reduceToNat, Int.reduceLT, Int.reduceLE, Int.reduceAdd, Int.reduceSub, Int.reduceEq, reduceIte, Nat.reduceBNe, Int.reducePow, Nat.reducePow, Int.reduceMul, Int.reduceNeg, isB_i, isB_b, isB_y, isBv_i, isBv_b, eqCells_t, TT]
  refine call_rowX [.c (partsV qs rs' c')] r2 ⟨.inl ⟨rfl, rfl⟩, trivial⟩ ?_
  rintro t x1 R1
  refine gen_hp (fun H => RowIn H x0 0 H1.length X ∧ RowIn H x1 H1.length H.length Y) ⟨R0.app t, R1⟩ ?_
  clear R0 R1
  rintro H2 ⟨R0, R1⟩
  generalize H1.length = n1 at *
  simp (maxSteps := 4000000) only [Try.results5, XX, Nat.reduceBEq, Nat.reduceLT, Nat.reduceAdd, Nat.reduceMul, Nat.reduceSub, Nat.reduceLeDiff, Nat.reduceEqDiff, Int.reduceToNat, Int.reduceLT, Int.reduceLE, Int.reduceAdd, Int.reduceSub, Int.reduceEq, reduceIte, Nat.reduceBNe, Int.reducePow, Nat.reducePow, Int.reduceMul, Int.reduceNeg, isB_i, isB_b, isB_y, isBv_i, isBv_b, eqCells_t, TT]
  refine call_lentP [.c (partsV ps rs c)] t1 ⟨.inl ⟨rfl, rfl⟩, trivial⟩ ?_
  rintro t lt1 L1
  refine gen_hp (fun H => RowIn H x0 0 n1 X ∧ RowIn H x1 n1 H2.length Y ∧ LentP H H2.length D ∧ H.length = H2.length + (D.length + 2)) ⟨R0.app t, R1.app t, L1, by rw [List.length_append, lt1]⟩ ?_
  clear R0 R1 L1
  rintro H3 ⟨R0, R1, L1, n3⟩
  generalize H2.length = n2 at *
  simp (maxSteps := 4000000) only [Try.results5, XX, Nat.reduceBEq, Nat.reduceLT, Nat.reduceAdd, Nat.reduceMul, Nat.reduceSub, Nat.reduceLeDiff, Nat.reduceEqDiff, Int.reduceToNat, Int.reduceLT, Int.reduceLE, Int.reduceAdd, Int.reduceSub, Int.reduceEq, reduceIte, Nat.reduceBNe, Int.reducePow, Nat.reducePow, Int.reduceMul, Int.reduceNeg, isB_i, isB_b, isB_y, isBv_i, isBv_b, eqCells_t, TT]
  refine call_lentP [.c (partsV qs rs' c')] t2 ⟨.inl ⟨rfl, rfl⟩, trivial⟩ ?_
  rintro t lt2 L2
  refine gen_hp (fun H => RowIn H x0 0 n1 X ∧ RowIn H x1 n1 n2 Y ∧ LentP H n2 D ∧ LentP H H3.length E ∧ H.length = H3.length + (E.length + 2)) ⟨R0.app t, R1.app t, L1.app t, L2, by rw [List.length_append, lt2]⟩ ?_
  clear R0 R1 L1 L2
  rintro H4 ⟨R0, R1, L1, L2, n4⟩
  generalize H3.length = m3 at *
  simp (maxSteps := 4000000) only [Try.results5, XX, Nat.reduceBEq, Nat.reduceLT, Nat.reduceAdd, Nat.reduceMul, Nat.reduceSub, Nat.reduceLeDiff, Nat.reduceEqDiff, Int.reduceToNat, Int.reduceLT, Int.reduceLE, Int.reduceAdd, Int.reduceSub, Int.reduceEq, reduceIte, Nat.reduceBNe, Int.reducePow, Nat.reducePow, Int.reduceMul, Int.reduceNeg, isB_i, isB_b, isB_y, isBv_i, isBv_b, eqCells_t, TT]
  refine call_rowX [.c (partsV (lps D) [] (D.length + 1))] p1 ⟨L1.fz, trivial⟩ ?_
  rintro t xa RA
  refine gen_hp (fun H => RowIn H x0 0 n1 X ∧ RowIn H x1 n1 n2 Y ∧ LentP H n2 D ∧ LentP H m3 E ∧ RowIn H xa H4.length H.length X) ⟨R0.app t, R1.app t, L1.app t, L2.app t, RA⟩ ?_
  clear R0 R1 L1 L2 RA
  rintro H5 ⟨R0, R1, L1, L2, RA⟩
  generalize H4.length = m4 at *
  simp (maxSteps := 4000000) only [Try.results5, XX, Nat.reduceBEq, Nat.reduceLT, Nat.reduceAdd, Nat.reduceMul, Nat.reduceSub, Nat.reduceLeDiff, Nat.reduceEqDiff, Int.reduceToNat, Int.reduceLT, Int.reduceLE, Int.reduceAdd, Int.reduceSub, Int.reduceEq, reduceIte, Nat.reduceBNe, Int.reducePow, Nat.reducePow, Int.reduceMul, Int.reduceNeg, isB_i, isB_b, isB_y, isBv_i, isBv_b, eqCells_t, TT]
  refine call_rowX [.c (partsV (lps E) [] (E.length + 1))] p2 ⟨L2.fz, trivial⟩ ?_
  rintro t xb RB
  refine gen_hp (fun H => RowIn H x0 0 n1 X ∧ RowIn H x1 n1 n2 Y ∧ LentP H n2 D ∧ LentP H m3 E ∧ RowIn H xa m4 H5.length X ∧ RowIn H xb H5.length H.length Y) ⟨R0.app t, R1.app t, L1.app t, L2.app t, RA.app t, RB⟩ ?_
  clear R0 R1 L1 L2 RA RB
  rintro H6 ⟨R0, R1, L1, L2, RA, RB⟩
  generalize H5.length = m5 at *
  simp (maxSteps := 4000000) only [Try.results5, XX, Nat.reduceBEq, Nat.reduceLT, Nat.reduceAdd, Nat.reduceMul, Nat.reduceSub, Nat.reduceLeDiff, Nat.reduceEqDiff, Int.reduceToNat, Int.reduceLT, Int.reduceLE, Int.reduceAdd, Int.reduceSub, Int.reduceEq, reduceIte, Nat.reduceBNe, Int.reducePow, Nat.reducePow, Int.reduceMul, Int.reduceNeg, isB_i, isB_b, isB_y, isBv_i, isBv_b, eqCells_t, TT]
  refine call_rowX [.c (partsV (lps D) [] (D.length + 1))] p1 ⟨L1.fz, trivial⟩ ?_
  rintro t xc RC
  refine gen_hp (fun H => RowIn H x0 0 n1 X ∧ RowIn H x1 n1 n2 Y ∧ LentP H n2 D ∧ LentP H m3 E ∧ RowIn H xa m4 m5 X ∧ RowIn H xb m5 H6.length Y ∧ RowIn H xc H6.length H.length X) ⟨R0.app t, R1.app t, L1.app t, L2.app t, RA.app t, RB.app t, RC⟩ ?_
  clear R0 R1 L1 L2 RA RB RC
  rintro H7 ⟨R0, R1, L1, L2, RA, RB, RC⟩
  generalize H6.length = m6 at *
  have r4 := RA.i
  have r5 := RB.i
  have r6 := RC.i
  simp (maxSteps := 4000000) only [Try.results5, XX, Nat.reduceBEq, Nat.reduceLT, Nat.reduceAdd, Nat.reduceMul, Nat.reduceSub, Nat.reduceLeDiff, Nat.reduceEqDiff, Int.reduceToNat, Int.reduceLT, Int.reduceLE, Int.reduceAdd, Int.reduceSub, Int.reduceEq, reduceIte, Nat.reduceBNe, Int.reducePow, Nat.reducePow, Int.reduceMul, Int.reduceNeg, isB_i, isB_b, isB_y, isBv_i, isBv_b, eqCells_t, TT]
  refine call_is (asLentP_spec H7 n2 D L1 ps rs c hD hps hpn) ?_
  rintro _ H8 ⟨rfl, n8, k8⟩
  have R0' := R0.keep fun k _ hk => k8 k (by have := R1.i; omega)
  have R1' := R1.keep fun k _ hk => k8 k (by omega)
  have L2' := L2.mono fun k hk _ => k8 k (by omega)
  have RA' := RA.keep fun k hk _ => k8 k (by omega)
  have RB' := RB.keep fun k hk _ => k8 k (by omega)
  have RC' := RC.keep fun k hk _ => k8 k (by omega)
  clear R0 R1 L1 L2 RA RB RC k8
  simp (maxSteps := 4000000) only [Try.results5, XX, Nat.reduceBEq, Nat.reduceLT, Nat.reduceAdd, Nat.reduceMul, Nat.reduceSub, Nat.reduceLeDiff, Nat.reduceEqDiff, Int.reduceToNat, Int.reduceLT, Int.reduceLE, Int.reduceAdd, Int.reduceSub, Int.reduceEq, reduceIte, Nat.reduceBNe, Int.reducePow, Nat.reducePow, Int.reduceMul, Int.reduceNeg, isB_i, isB_b, isB_y, isBv_i, isBv_b, eqCells_t, TT]
  refine call_is (asLentP_spec H8 m3 E L2' qs rs' c' hE hqs hqn) ?_
  rintro _ H9 ⟨rfl, n9, k9⟩
  have R0 := R0'.keep fun k _ hk => k9 k (by have := R1'.i; omega)
  have R1 := R1'.keep fun k _ hk => k9 k (by omega)
  have RA := RA'.keep fun k hk _ => k9 k (by omega)
  have RB := RB'.keep fun k hk _ => k9 k (by omega)
  have RC := RC'.keep fun k hk _ => k9 k (by omega)
  clear R0' R1' L2' RA' RB' RC' k9
  simp (maxSteps := 4000000) only [Try.results5, XX, Nat.reduceBEq, Nat.reduceLT, Nat.reduceAdd, Nat.reduceMul, Nat.reduceSub, Nat.reduceLeDiff, Nat.reduceEqDiff, Int.reduceToNat, Int.reduceLT, Int.reduceLE, Int.reduceAdd, Int.reduceSub, Int.reduceEq, reduceIte, Nat.reduceBNe, Int.reducePow, Nat.reducePow, Int.reduceMul, Int.reduceNeg, isB_i, isB_b, isB_y, isBv_i, isBv_b, eqCells_t, TT]
  have qa := gX xa.es RA.pi
  have qb := gY xb.es RB.pi
  have qc := gX xc.es RC.pi
  have q0 := gX x0.es R0.pi
  have q1 := gY x1.es R1.pi
  have kk : ∀ (es : List PE), (∀ e ∈ es, e.d.length ≤ 2147483647 ∧ 0 < e.k ∧ e.k < 255) → ∀ e ∈ es, e.d.length ≤ 140737488351232 ∧ -9223372036854775808 ≤ e.k ∧ e.k < 9223372036854775808 := fun es h e he => by
    have := h e he
    exact ⟨by omega, by omega, by omega⟩
  have dX : decide (parE X = parE X) = true := by simp
  have dY : decide (parE Y = parE Y) = true := by simp
  refine call_same (xs := xa.es.map PE.oi) (sp := []) (ys := x0.es.map PE.oi) (sp' := []) (c := xa.es.length + xa.r) (c' := x0.es.length + x0.r) (RA.at_.oks (kk _ qa.1)) (R0.at_.oks (kk _ q0.1)) (by have := qa.2.1; omega) (by have := q0.2.1; omega) RA.at_.fz R0.at_.fz ?_
  rw [decide_eq_true (qa.2.2.trans q0.2.2.symm)]
  simp (maxSteps := 4000000) only [Try.results5, XX, Nat.reduceBEq, Nat.reduceLT, Nat.reduceAdd, Nat.reduceMul, Nat.reduceSub, Nat.reduceLeDiff, Nat.reduceEqDiff, Int.reduceToNat, Int.reduceLT, Int.reduceLE, Int.reduceAdd, Int.reduceSub, Int.reduceEq, reduceIte, Nat.reduceBNe, Int.reducePow, Nat.reducePow, Int.reduceMul, Int.reduceNeg, isB_i, isB_b, isB_y, isBv_i, isBv_b, eqCells_t, TT]
  refine call_same (xs := xb.es.map PE.oi) (sp := []) (ys := x1.es.map PE.oi) (sp' := []) (c := xb.es.length + xb.r) (c' := x1.es.length + x1.r) (RB.at_.oks (kk _ qb.1)) (R1.at_.oks (kk _ q1.1)) (by have := qb.2.1; omega) (by have := q1.2.1; omega) RB.at_.fz R1.at_.fz ?_
  rw [decide_eq_true (qb.2.2.trans q1.2.2.symm)]
  simp (maxSteps := 4000000) only [Try.results5, XX, Nat.reduceBEq, Nat.reduceLT, Nat.reduceAdd, Nat.reduceMul, Nat.reduceSub, Nat.reduceLeDiff, Nat.reduceEqDiff, Int.reduceToNat, Int.reduceLT, Int.reduceLE, Int.reduceAdd, Int.reduceSub, Int.reduceEq, reduceIte, Nat.reduceBNe, Int.reducePow, Nat.reducePow, Int.reduceMul, Int.reduceNeg, isB_i, isB_b, isB_y, isBv_i, isBv_b, eqCells_t, TT]
  refine call_same (xs := xc.es.map PE.oi) (sp := []) (ys := x0.es.map PE.oi) (sp' := []) (c := xc.es.length + xc.r) (c' := x0.es.length + x0.r) (RC.at_.oks (kk _ qc.1)) (R0.at_.oks (kk _ q0.1)) (by have := qc.2.1; omega) (by have := q0.2.1; omega) RC.at_.fz R0.at_.fz ?_
  rw [decide_eq_true (qc.2.2.trans q0.2.2.symm)]
  simp (maxSteps := 4000000) only [Try.results5, dX, dY, XX, Nat.reduceBEq, Nat.reduceLT, Nat.reduceAdd, Nat.reduceMul, Nat.reduceSub, Nat.reduceLeDiff, Nat.reduceEqDiff, Int.reduceToNat, Int.reduceLT, Int.reduceLE, Int.reduceAdd, Int.reduceSub, Int.reduceEq, reduceIte, Nat.reduceBNe, Int.reducePow, Nat.reducePow, Int.reduceMul, Int.reduceNeg, isB_i, isB_b, isB_y, isBv_i, isBv_b, eqCells_t, TT]
  have hbk : (H9 ++ [B5.bookB nilS nilS nilS nilS])[H9.length]? = some (B5.bookB nilS nilS nilS nilS) := by rw [List.getElem?_append_right (Nat.le_refl _), Nat.sub_self]; rfl
  have la : xa.es.length ≤ 64 := by have := qa.2.1; rwa [List.length_map] at this
  have lb : xb.es.length ≤ 64 := by have := qb.2.1; rwa [List.length_map] at this
  have lc : xc.es.length ≤ 64 := by have := qc.2.1; rwa [List.length_map] at this
  have SA := RA.app [B5.bookB nilS nilS nilS nilS]
  have SB' := RB.app [B5.bookB nilS nilS nilS nilS]
  have SC' := RC.app [B5.bookB nilS nilS nilS nilS]
  refine call_is (take15_spec (H9 ++ [B5.bookB nilS nilS nilS nilS]) H9.length [] [] xa (b15_none hbk) SA.at_ (kk _ qa.1) (by omega) (by simp) (by simp [dataE])) ?_
  rintro _ F1 ⟨rfl, ya, B1, Oa, ha, K1⟩
  simp (maxSteps := 4000000) only [Try.results5, XX, Nat.reduceBEq, Nat.reduceLT, Nat.reduceAdd, Nat.reduceMul, Nat.reduceSub, Nat.reduceLeDiff, Nat.reduceEqDiff, Int.reduceToNat, Int.reduceLT, Int.reduceLE, Int.reduceAdd, Int.reduceSub, Int.reduceEq, reduceIte, Nat.reduceBNe, Int.reducePow, Nat.reducePow, Int.reduceMul, Int.reduceNeg, isB_i, isB_b, isB_y, isBv_i, isBv_b, eqCells_t, TT]
  refine call_is (take15_spec F1 H9.length [xa] [ya] xb B1 (SB'.keepB K1).at_ (kk _ qb.1) (by omega) (by simp) (by simp [dataE]; omega)) ?_
  rintro _ F2 ⟨rfl, yb, B2, Ob, hb, K2⟩
  simp (maxSteps := 4000000) only [Try.results5, XX, Nat.reduceBEq, Nat.reduceLT, Nat.reduceAdd, Nat.reduceMul, Nat.reduceSub, Nat.reduceLeDiff, Nat.reduceEqDiff, Int.reduceToNat, Int.reduceLT, Int.reduceLE, Int.reduceAdd, Int.reduceSub, Int.reduceEq, reduceIte, Nat.reduceBNe, Int.reducePow, Nat.reducePow, Int.reduceMul, Int.reduceNeg, isB_i, isB_b, isB_y, isBv_i, isBv_b, eqCells_t, TT]
  refine call_is (take15_spec F2 H9.length [xa, xb] [ya, yb] xc B2 ((SC'.keepB K1).keepB K2).at_ (kk _ qc.1) (by omega) (by simp) (by simp [dataE]; omega)) ?_
  rintro _ F3 ⟨rfl, yc, B3, Oc, hc, K3⟩
  simp (maxSteps := 4000000) only [Try.results5, XX, Nat.reduceBEq, Nat.reduceLT, Nat.reduceAdd, Nat.reduceMul, Nat.reduceSub, Nat.reduceLeDiff, Nat.reduceEqDiff, Int.reduceToNat, Int.reduceLT, Int.reduceLE, Int.reduceAdd, Int.reduceSub, Int.reduceEq, reduceIte, Nat.reduceBNe, Int.reducePow, Nat.reducePow, Int.reduceMul, Int.reduceNeg, isB_i, isB_b, isB_y, isBv_i, isBv_b, eqCells_t, TT]
  have Oa' := Opts.keepB (fun t h => h) (Opts.keepB (fun t h => h) Oa K2) K3
  have Ob' := Opts.keepB (fun t h => h) Ob K3
  refine call_is (owned15_spec F3 H9.length [xa, xb, xc] [ya, yb, yc] B3 (by simp) (rows15_three (((SA.keepB K1).keepB K2).keepB K3) (((SB'.keepB K1).keepB K2).keepB K3) (((SC'.keepB K1).keepB K2).keepB K3) (kk _ qa.1) (kk _ qb.1) (kk _ qc.1) la lb lc) (fun i z hz => by
    match i, hz with
    | 0, hz => cases hz; exact Oa'
    | 1, hz => cases hz; exact Ob'
    | 2, hz => cases hz; exact Oc) (fun i x z hx hz => by
    match i, hx, hz with
    | 0, hx, hz => cases hx; cases hz; exact ha
    | 1, hx, hz => cases hx; cases hz; exact hb
    | 2, hx, hz => cases hx; cases hz; exact hc)) ?_
  rintro _ _ rfl
  simp (maxSteps := 4000000) only [Try.results5, XX, Nat.reduceBEq, Nat.reduceLT, Nat.reduceAdd, Nat.reduceMul, Nat.reduceSub, Nat.reduceLeDiff, Nat.reduceEqDiff, Int.reduceToNat, Int.reduceLT, Int.reduceLE, Int.reduceAdd, Int.reduceSub, Int.reduceEq, reduceIte, Nat.reduceBNe, Int.reducePow, Nat.reducePow, Int.reduceMul, Int.reduceNeg, isB_i, isB_b, isB_y, isBv_i, isBv_b, eqCells_t, TT]
end Go.Proofs.Ytflccffjfnfoiaa.Sx
