/- The symbolic executor, at work: options as bytes, as a law. No condition. -/
import Derived.Test.YtflccffjfnfoiaaOpN
import Derived.Test.YtflccffjfnfoiaaOpO
import Derived.Test.YtflccffjfnfoiaaOpE
namespace Go.Proofs.Ytflccffjfnfoiaa.Sx
open Go
set_option linter.unusedSimpArgs false
set_option linter.unusedVariables false
set_option maxRecDepth 10000
set_option maxHeartbeats 2000000

theorem tot_size : ∀ xs : List OI, totO xs ≤ rcSizeL (osR xs)
  | [] => by simp [totO]
  | x :: xs => by
    have ih := tot_size xs
    have h := length_le_rcSizeL (bsR (x.d ++ x.sp))
    have e : rcSizeL (osR (x :: xs)) = rcSizeL x.rc + rcSizeL (osR xs) := by
      show rcSizeL ((x.rc :: xs.map OI.rc).flatten) = _
      rw [List.flatten_cons, rcSizeL_append]
    rw [e]
    simp only [totO, List.map_cons, List.sum_cons, rcSizeL, rcSize, List.length_map, List.length_append] at ih h ⊢
    omega
theorem tot_size_app (xs sp : List OI) : totO xs ≤ rcSizeL (osR (xs ++ sp)) := by
  have h := tot_size (xs ++ sp)
  rw [totO_app] at h
  omega
/-- Rows that were lent are rows that may be. -/
theorem lent_ok {es : List PE} {xs : List OI} (hpi : es.map PE.pi = piL xs) (hok : ∀ x ∈ xs, x.ok) : (∀ x ∈ es.map PE.oi, x.ok) ∧ piL (es.map PE.oi) = piL xs ∧ es.length = xs.length := by
  refine ⟨fun x hx => ?_, by rw [← hpi, piL, List.map_map]; rfl, by have := congrArg List.length hpi; simpa using this⟩
  simp only [List.mem_map] at hx
  obtain ⟨e, he, rfl⟩ := hx
  have : e.pi ∈ piL xs := by rw [← hpi]; exact List.mem_map_of_mem he
  simp only [piL, List.mem_map] at this
  obtain ⟨y, hy, hye⟩ := this
  simp only [OI.pi, PE.pi, Prod.mk.injEq] at hye
  obtain ⟨q1, q2, q3⟩ := hok y hy
  exact ⟨Nat.le_add_right _ _, by show e.d.length ≤ _; rw [← hye.2]; exact q2, by show _ ≤ e.k ∧ e.k < _; rw [← hye.1]; exact q3⟩
theorem LentO.lt {H : List SB} {iO : Nat} {es : List PE} (L : LentO H iO es) {e : PE} (he : e ∈ es) : e.w < H.length := by
  obtain ⟨i, hi⟩ := List.mem_iff_getElem?.1 he
  exact lt_of (L.at_ i e hi).1
/-- What was lent stands, where nothing of it was written. -/
theorem LentO.keep {H H' : List SB} {iO : Nat} {es : List PE} (L : LentO H iO es) (h0 : H'[iO]? = H[iO]?) (h1 : ∀ e ∈ es, H'[e.w]? = H[e.w]?) : LentO H' iO es :=
  ⟨h0.trans L.row, fun i e he => ⟨(h1 e (List.mem_of_getElem? he)).trans (L.at_ i e he).1, (L.at_ i e he).2⟩, L.ne, L.sp⟩
theorem packF_le {xs : List OI} (room : Int) : (packF xs room).1.length ≤ szO xs + 1 := by
  unfold packF
  split
  · exact Nat.zero_le _
  · split
    · exact Nat.zero_le _
    · split
      · exact Nat.zero_le _
      · simp only [List.length_append, encAll_len, List.length_cons, List.length_nil]; omega

theorem optionPacks_walk : ∀ css, RTyL (RTy T reachBytes DEPTH) [24, 24, 3] css → (css.map rcSizeL).sum ≤ 1048576 → Spec Try.prog 4 (svs T [24, 24, 3] css) [] fun r _ => r = .c (.v (.bool true)) := by
  intro css h hM
  obtain ⟨x1, xs1, rfl, h1, g1⟩ := RTyL_cons h
  obtain ⟨x2, xs2, rfl, h2, g2⟩ := RTyL_cons g1
  obtain ⟨x3, xs3, rfl, h3, g3⟩ := RTyL_cons g2
  obtain rfl := RTyL_nil g3
  obtain ⟨xs, sp, c, rfl, hok, hn⟩ := RTy_opts (n := 3) h1
  obtain ⟨ys, sq, c', rfl, hoy, hny⟩ := RTy_opts (n := 3) h2
  obtain ⟨room, rfl, hroom⟩ := RTy_int T_3 h3
  have t1 := tot_size_app xs sp
  have t2 := tot_size_app ys sq
  simp only [List.map_cons, List.map_nil, List.sum_cons, List.sum_nil, rcSizeL, rcSize] at hM
  have tx : totO xs ≤ 1048576 := by omega
  have ty : totO ys ≤ 1048576 := by omega
  have zx := szO_le xs
  have zy := szO_le ys
  have lx := packF_le (xs := xs) room
  have ly := packF_le (xs := ys) room
  have e1 : ∀ a : Int, svOf T 3 [.v (.int .i64 a)] = .c (i64 a) := fun _ => rfl
  have e3 : ∀ (xs sp : List OI) (c : Nat), svOf T 24 [.sl (osR (xs ++ sp)) xs.length c] = .c (roO xs sp c) := fun _ _ _ => rfl
  simp only [svs, e1, e3]
  clear h1 h2 h3 g1 g2 g3 h e1 e3 hM t1 t2
  have r1 := rpack_spec xs sp c hok (by omega) room
  have r2 := rpack_spec ys sq c' hoy (by omega) room
  have l1 := lentO_spec xs sp c hok hn
  have l2 := lentO_spec ys sq c' hoy hny
  refine spec_of_X cx_ok Try.func4 rfl (by kernel_rfl) (by kernel_rfl) (Nat.le_of_ble_eq_true rfl) 400 23 ?_
  simp (maxSteps := 4000000) only [Try.results4, XX, Nat.reduceBEq, Nat.reduceLT, Nat.reduceAdd, Nat.reduceMul, Nat.reduceSub, Nat.reduceLeDiff, Nat.reduceEqDiff, Int.reduceToNat, Int.reduceLT, Int.reduceLE, Int.reduceAdd, Int.reduceSub, Int.reduceEq, reduceIte, Nat.reduceBNe, Int.reducePow, Nat.reducePow, Int.reduceMul, Int.reduceNeg, isB_i, isB_b, isB_y, isBv_i, isBv_b, eqCells_t, TT]
  refine call_pureF [] (K := fun s => s = .c (bC true)) awake_spec trivial ?_
  rintro _ rfl
  simp (maxSteps := 4000000) only [Try.results4, XX, Nat.reduceBEq, Nat.reduceLT, Nat.reduceAdd, Nat.reduceMul, Nat.reduceSub, Nat.reduceLeDiff, Nat.reduceEqDiff, Int.reduceToNat, Int.reduceLT, Int.reduceLE, Int.reduceAdd, Int.reduceSub, Int.reduceEq, reduceIte, Nat.reduceBNe, Int.reducePow, Nat.reducePow, Int.reduceMul, Int.reduceNeg, isB_i, isB_b, isB_y, isBv_i, isBv_b, eqCells_t, TT]
  refine call_fz [.c (roO xs sp c), .c (i64 room)] r1 (fun t h' h => resB_noRo h) ⟨.inl ⟨rfl, rfl⟩, .inl ⟨rfl, rfl⟩, trivial⟩ ?_
  rintro _ _ ⟨z0, o0, rfl, rfl, ho0⟩
  simp (maxSteps := 4000000) only [Try.results4, ids_bsC, ren_bsC, noRo_bsC, plain_bsC, lt_bsC, ids_byte, ren_byte, noRo_byte, plain_byte, lt_byte, XX, Nat.reduceBEq, Nat.reduceLT, Nat.reduceAdd, Nat.reduceMul, Nat.reduceSub, Nat.reduceLeDiff, Nat.reduceEqDiff, Int.reduceToNat, Int.reduceLT, Int.reduceLE, Int.reduceAdd, Int.reduceSub, Int.reduceEq, reduceIte, Nat.reduceBNe, Int.reducePow, Nat.reducePow, Int.reduceMul, Int.reduceNeg, isB_i, isB_b, isB_y, isBv_i, isBv_b, eqCells_t, TT]
  refine call_fz [.c (roO ys sq c'), .c (i64 room)] r2 (fun t h' h => resB_noRo h) ⟨.inl ⟨rfl, rfl⟩, .inl ⟨rfl, rfl⟩, trivial⟩ ?_
  rintro _ _ ⟨z1, o1, rfl, rfl, ho1⟩
  simp (maxSteps := 4000000) only [Try.results4, ids_bsC, ren_bsC, noRo_bsC, plain_bsC, lt_bsC, ids_byte, ren_byte, noRo_byte, plain_byte, lt_byte, XX, Nat.reduceBEq, Nat.reduceLT, Nat.reduceAdd, Nat.reduceMul, Nat.reduceSub, Nat.reduceLeDiff, Nat.reduceEqDiff, Int.reduceToNat, Int.reduceLT, Int.reduceLE, Int.reduceAdd, Int.reduceSub, Int.reduceEq, reduceIte, Nat.reduceBNe, Int.reducePow, Nat.reducePow, Int.reduceMul, Int.reduceNeg, isB_i, isB_b, isB_y, isBv_i, isBv_b, eqCells_t, TT]
  refine call_lentO [.c (roO xs sp c)] l1 ⟨.inl ⟨rfl, rfl⟩, trivial⟩ ?_
  rintro t es L hw hpi
  obtain ⟨hoe, hpe, hle⟩ := lent_ok hpi hok
  refine gen_hp (fun H => H[0]? = some (wB o0 ((packF xs room).1 ++ z0)) ∧ H[1]? = some (wB o1 ((packF ys room).1 ++ z1)) ∧ LentO H 2 es ∧ 2 < H.length) ⟨rfl, rfl, L, lt_of L.row⟩ ?_
  clear L
  rintro H ⟨w0, w1, LH, lH⟩
  simp (maxSteps := 4000000) only [Try.results4, List.length_cons, List.length_nil, Nat.reduceAdd, XX, Nat.reduceBEq, Nat.reduceLT, Nat.reduceAdd, Nat.reduceMul, Nat.reduceSub, Nat.reduceLeDiff, Nat.reduceEqDiff, Int.reduceToNat, Int.reduceLT, Int.reduceLE, Int.reduceAdd, Int.reduceSub, Int.reduceEq, reduceIte, Nat.reduceBNe, Int.reducePow, Nat.reducePow, Int.reduceMul, Int.reduceNeg, isB_i, isB_b, isB_y, isBv_i, isBv_b, eqCells_t, TT]
  refine call_lentO [.c (roO ys sq c')] l2 ⟨.inl ⟨rfl, rfl⟩, trivial⟩ ?_
  rintro t' fs L' hw' hpi'
  obtain ⟨hof, hpf, hlf⟩ := lent_ok hpi' hoy
  have ew : ∀ e ∈ es, 2 < e.w ∧ e.w < H.length := fun e he => ⟨hw e he, LH.lt he⟩
  refine gen_hp (fun G => G[0]? = some (wB o0 ((packF xs room).1 ++ z0)) ∧ G[1]? = some (wB o1 ((packF ys room).1 ++ z1)) ∧ LentO G 2 es ∧ LentO G H.length fs ∧ H.length < G.length) ⟨(List.getElem?_append_left (lt_of w0)).trans w0, (List.getElem?_append_left (lt_of w1)).trans w1, LH.app _, L', lt_of L'.row⟩ ?_
  clear L' LH
  rintro G ⟨v0, v1, L1, L2, lG⟩
  generalize H.length = n at *
  have p1 := pack_spec (es.map PE.oi) [] (es.length + 2) hoe (by rw [totO_pi hpe]; omega) room
  have p2 := pack_spec (fs.map PE.oi) [] (fs.length + 2) hof (by rw [totO_pi hpf]; omega) room
  rw [packF_pi hpe] at p1
  rw [packF_pi hpf] at p2
  generalize (packF xs room).1 = A at *
  generalize (packF xs room).2 = ea at *
  generalize (packF ys room).1 = B at *
  generalize (packF ys room).2 = eb at *
  simp (maxSteps := 4000000) only [Try.results4, List.length_cons, List.length_nil, Nat.reduceAdd, XX, Nat.reduceBEq, Nat.reduceLT, Nat.reduceAdd, Nat.reduceMul, Nat.reduceSub, Nat.reduceLeDiff, Nat.reduceEqDiff, Int.reduceToNat, Int.reduceLT, Int.reduceLE, Int.reduceAdd, Int.reduceSub, Int.reduceEq, reduceIte, Nat.reduceBNe, Int.reducePow, Nat.reducePow, Int.reduceMul, Int.reduceNeg, isB_i, isB_b, isB_y, isBv_i, isBv_b, eqCells_t, TT]
  refine call_fz [.c (roO (es.map PE.oi) [] (es.length + 2)), .c (i64 room)] p1 (fun t h' h => resB_noRo h) ⟨L1.fz, .inl ⟨rfl, rfl⟩, trivial⟩ ?_
  rintro _ _ ⟨z2, o2, rfl, rfl, ho2⟩
  simp (maxSteps := 4000000) only [Try.results4, ids_bsC, ren_bsC, noRo_bsC, plain_bsC, lt_bsC, ids_byte, ren_byte, noRo_byte, plain_byte, lt_byte, XX, Nat.reduceBEq, Nat.reduceLT, Nat.reduceAdd, Nat.reduceMul, Nat.reduceSub, Nat.reduceLeDiff, Nat.reduceEqDiff, Int.reduceToNat, Int.reduceLT, Int.reduceLE, Int.reduceAdd, Int.reduceSub, Int.reduceEq, reduceIte, Nat.reduceBNe, Int.reducePow, Nat.reducePow, Int.reduceMul, Int.reduceNeg, isB_i, isB_b, isB_y, isBv_i, isBv_b, eqCells_t, TT]
  refine call_fz [.c (roO (fs.map PE.oi) [] (fs.length + 2)), .c (i64 room)] p2 (fun t h' h => resB_noRo h) ⟨(L2.app _).fz, .inl ⟨rfl, rfl⟩, trivial⟩ ?_
  rintro _ _ ⟨z3, o3, rfl, rfl, ho3⟩
  simp (maxSteps := 4000000) only [Try.results4, ids_bsC, ren_bsC, noRo_bsC, plain_bsC, lt_bsC, ids_byte, ren_byte, noRo_byte, plain_byte, lt_byte, XX, Nat.reduceBEq, Nat.reduceLT, Nat.reduceAdd, Nat.reduceMul, Nat.reduceSub, Nat.reduceLeDiff, Nat.reduceEqDiff, Int.reduceToNat, Int.reduceLT, Int.reduceLE, Int.reduceAdd, Int.reduceSub, Int.reduceEq, reduceIte, Nat.reduceBNe, Int.reducePow, Nat.reducePow, Int.reduceMul, Int.reduceNeg, isB_i, isB_b, isB_y, isBv_i, isBv_b, eqCells_t, TT]
  refine call_fz [.c (roO (es.map PE.oi) [] (es.length + 2)), .c (i64 room)] p1 (fun t h' h => resB_noRo h) ⟨((L1.app _).app _).fz, .inl ⟨rfl, rfl⟩, trivial⟩ ?_
  rintro _ _ ⟨z4, o4, rfl, rfl, ho4⟩
  simp (maxSteps := 4000000) only [Try.results4, ids_bsC, ren_bsC, noRo_bsC, plain_bsC, lt_bsC, ids_byte, ren_byte, noRo_byte, plain_byte, lt_byte, XX, Nat.reduceBEq, Nat.reduceLT, Nat.reduceAdd, Nat.reduceMul, Nat.reduceSub, Nat.reduceLeDiff, Nat.reduceEqDiff, Int.reduceToNat, Int.reduceLT, Int.reduceLE, Int.reduceAdd, Int.reduceSub, Int.reduceEq, reduceIte, Nat.reduceBNe, Int.reducePow, Nat.reducePow, Int.reduceMul, Int.reduceNeg, isB_i, isB_b, isB_y, isBv_i, isBv_b, eqCells_t, TT]
  have lk : ∀ k, k < G.length → (G ++ [wB o2 (A ++ z2)] ++ [wB o3 (B ++ z3)] ++ [wB o4 (A ++ z4)])[k]? = G[k]? := fun k hk => by rw [List.append_assoc, List.append_assoc, List.getElem?_append_left hk]
  have wA : (G ++ [wB o2 (A ++ z2)] ++ [wB o3 (B ++ z3)] ++ [wB o4 (A ++ z4)])[G.length]? = some (wB o2 (A ++ z2)) := by rw [List.append_assoc, List.append_assoc, List.getElem?_append_right (Nat.le_refl _), Nat.sub_self]; rfl
  have wC : (G ++ [wB o2 (A ++ z2)] ++ [wB o3 (B ++ z3)] ++ [wB o4 (A ++ z4)])[G.length + 1]? = some (wB o3 (B ++ z3)) := by rw [List.append_assoc, List.append_assoc, List.getElem?_append_right (by omega), Nat.add_sub_cancel_left]; rfl
  have wD : (G ++ [wB o2 (A ++ z2)] ++ [wB o3 (B ++ z3)] ++ [wB o4 (A ++ z4)])[G.length + 2]? = some (wB o4 (A ++ z4)) := by rw [List.append_assoc, List.append_assoc, List.getElem?_append_right (by omega), Nat.add_sub_cancel_left]; rfl
  have fw : ∀ e ∈ fs, n < e.w ∧ e.w < G.length := fun e he => ⟨hw' e he, L2.lt he⟩
  have le1 : (G ++ [wB o2 (A ++ z2)]).length = G.length + 1 := by simp
  have le2 : (G ++ [wB o2 (A ++ z2)] ++ [wB o3 (B ++ z3)]).length = G.length + 2 := by simp
  have LK1 := ((L1.app [wB o2 (A ++ z2)]).app [wB o3 (B ++ z3)]).app [wB o4 (A ++ z4)]
  have LK2 := ((L2.app [wB o2 (A ++ z2)]).app [wB o3 (B ++ z3)]).app [wB o4 (A ++ z4)]
  refine call_is (asLentO_spec _ 2 es LK1 xs sp c hpi hok hn) ?_
  rintro _ H' ⟨rfl, hl', hk'⟩
  have LH' : LentO H' n fs := LK2.keep (hk' n (by omega) fun e he => by have := ew e he; omega) fun f hf => hk' f.w (by have := fw f hf; omega) fun e he => by have := fw f hf; have := ew e he; omega
  have k' : ∀ k, (k < 2 ∨ G.length ≤ k) → H'[k]? = (G ++ [wB o2 (A ++ z2)] ++ [wB o3 (B ++ z3)] ++ [wB o4 (A ++ z4)])[k]? := fun k hk => hk' k (by omega) fun e he => by have := ew e he; omega
  simp (maxSteps := 4000000) only [Try.results4, XX, Nat.reduceBEq, Nat.reduceLT, Nat.reduceAdd, Nat.reduceMul, Nat.reduceSub, Nat.reduceLeDiff, Nat.reduceEqDiff, Int.reduceToNat, Int.reduceLT, Int.reduceLE, Int.reduceAdd, Int.reduceSub, Int.reduceEq, reduceIte, Nat.reduceBNe, Int.reducePow, Nat.reducePow, Int.reduceMul, Int.reduceNeg, isB_i, isB_b, isB_y, isBv_i, isBv_b, eqCells_t, TT]
  refine call_is (asLentO_spec H' n fs LH' ys sq c' hpi' hoy hny) ?_
  rintro _ H2 ⟨rfl, hl2, hk2⟩
  have k2 : ∀ k, (k < 2 ∨ G.length ≤ k) → H2[k]? = (G ++ [wB o2 (A ++ z2)] ++ [wB o3 (B ++ z3)] ++ [wB o4 (A ++ z4)])[k]? := fun k hk => (hk2 k (by omega) fun e he => by have := fw e he; omega).trans (k' k hk)
  have u0 : H2[0]? = some (wB o0 (A ++ z0)) := (k2 0 (by omega)).trans ((lk 0 (by omega)).trans v0)
  have u1 : H2[1]? = some (wB o1 (B ++ z1)) := (k2 1 (by omega)).trans ((lk 1 (by omega)).trans v1)
  have u2 : H2[G.length]? = some (wB o2 (A ++ z2)) := (k2 _ (by omega)).trans wA
  have u3 : H2[G.length + 1]? = some (wB o3 (B ++ z3)) := (k2 _ (by omega)).trans wC
  have u4 : H2[G.length + 2]? = some (wB o4 (A ++ z4)) := (k2 _ (by omega)).trans wD
  simp only [le1, le2]
  clear hk' k' hk2 k2 lk wA wC wD LK1 LK2 LH' L1 L2
  generalize G.length = N at *
  have tk : ∀ a b : List UInt8, (bsC (a ++ b)).take a.length = bsC a := fun a b => by rw [bs_take, List.take_left' rfl]
  have m0 := lt_of u0
  have m1 := lt_of u1
  have m2 := lt_of u2
  have m3 := lt_of u3
  have m4 := lt_of u4
  have q : ∀ a b : List UInt8, a.length ≤ (bsC (a ++ b)).length ∧ ∀ c ∈ bsC a, isByte c = true := fun a b => ⟨by simp, isByte_bsC a⟩
  have da : decide (ea = ea) = true := by simp
  have db : decide (eb = eb) = true := by simp
  simp (maxSteps := 4000000) only [Try.results4, ids_bsC, ren_bsC, noRo_bsC, plain_bsC, lt_bsC, ids_byte, ren_byte, noRo_byte, plain_byte, lt_byte, u0, u1, u2, u3, u4, m0, m1, m2, m3, m4, tk, strOf_bsC, str_eq, da, db, XX, Nat.reduceBEq, Nat.reduceLT, Nat.reduceAdd, Nat.reduceMul, Nat.reduceSub, Nat.reduceLeDiff, Nat.reduceEqDiff, Int.reduceToNat, Int.reduceLT, Int.reduceLE, Int.reduceAdd, Int.reduceSub, Int.reduceEq, reduceIte, Nat.reduceBNe, Int.reducePow, Nat.reducePow, Int.reduceMul, Int.reduceNeg, isB_i, isB_b, isB_y, isBv_i, isBv_b, eqCells_t, TT]
  refine ⟨q _ _, q _ _, q _ _, q _ _, q _ _, q _ _, ?_⟩
  have wb : (H2 ++ [bookB nilC nilC])[H2.length]? = some (bookB nilC nilC) := by rw [List.getElem?_append_right (Nat.le_refl _), Nat.sub_self]; rfl
  have y2 : (H2 ++ [bookB nilC nilC])[N]? = some (wB o2 (A ++ z2)) := by rw [List.getElem?_append_left m2]; exact u2
  have y3 : (H2 ++ [bookB nilC nilC])[N + 1]? = some (wB o3 (B ++ z3)) := by rw [List.getElem?_append_left m3]; exact u3
  have y4 : (H2 ++ [bookB nilC nilC])[N + 2]? = some (wB o4 (A ++ z4)) := by rw [List.getElem?_append_left m4]; exact u4
  have lb := lt_of wb
  refine call_is (take0_spec _ H2.length N A z2 o2 _ (by omega) wb y2) ?_
  rintro _ h1 ⟨rfl, iL, cL, iW, cW, B1, b1, l1, w1'⟩
  simp (maxSteps := 4000000) only [Try.results4, XX, Nat.reduceBEq, Nat.reduceLT, Nat.reduceAdd, Nat.reduceMul, Nat.reduceSub, Nat.reduceLeDiff, Nat.reduceEqDiff, Int.reduceToNat, Int.reduceLT, Int.reduceLE, Int.reduceAdd, Int.reduceSub, Int.reduceEq, reduceIte, Nat.reduceBNe, Int.reducePow, Nat.reducePow, Int.reduceMul, Int.reduceNeg, isB_i, isB_b, isB_y, isBv_i, isBv_b, eqCells_t, TT]
  refine call_is (take_spec h1 H2.length (N + 1) _ _ _ _ _ _ B z3 o3 _ (by omega) B1 (by simp) ((b1.2 (N + 1) (lt_of y3) (by omega)).trans y3)) ?_
  rintro _ h2 ⟨rfl, iL2, cL2, iW2, cW2, B2, b2, l2', w2'⟩
  simp (maxSteps := 4000000) only [Try.results4, XX, Nat.reduceBEq, Nat.reduceLT, Nat.reduceAdd, Nat.reduceMul, Nat.reduceSub, Nat.reduceLeDiff, Nat.reduceEqDiff, Int.reduceToNat, Int.reduceLT, Int.reduceLE, Int.reduceAdd, Int.reduceSub, Int.reduceEq, reduceIte, Nat.reduceBNe, Int.reducePow, Nat.reducePow, Int.reduceMul, Int.reduceNeg, isB_i, isB_b, isB_y, isBv_i, isBv_b, eqCells_t, TT]
  refine call_is (take_spec h2 H2.length (N + 2) _ _ _ _ _ _ A z4 o4 _ (by omega) B2 (by simp) (((b2.2 (N + 2) (Nat.lt_of_lt_of_le (lt_of y4) b1.1) (by have q1 := Nat.lt_of_lt_of_le (lt_of y4) l1; have q2 := Nat.lt_of_lt_of_le (lt_of y4) w1'; rintro (h | h | h) <;> omega)).trans (b1.2 (N + 2) (lt_of y4) (by omega))).trans y4)) ?_
  rintro _ h3 ⟨rfl, iL3, cL3, iW3, cW3, B3, b3, l3', w3'⟩
  simp (maxSteps := 4000000) only [Try.results4, XX, Nat.reduceBEq, Nat.reduceLT, Nat.reduceAdd, Nat.reduceMul, Nat.reduceSub, Nat.reduceLeDiff, Nat.reduceEqDiff, Int.reduceToNat, Int.reduceLT, Int.reduceLE, Int.reduceAdd, Int.reduceSub, Int.reduceEq, reduceIte, Nat.reduceBNe, Int.reducePow, Nat.reducePow, Int.reduceMul, Int.reduceNeg, isB_i, isB_b, isB_y, isBv_i, isBv_b, eqCells_t, TT]
  refine call_is (owned_spec h3 H2.length [⟨N, A, z2, o2⟩, ⟨N + 1, B, z3, o3⟩, ⟨N + 2, A, z4, o4⟩] iL3 cL3 iW3 cW3 B3 (owns3 lb b1 l1 w1' b2 l2' w2' b3 y2 y3 y4 (by omega) (by omega) (by omega) ho2 ho3 ho4 (by omega) (by omega) (by omega) (by omega) (by omega) (by omega)) (by simp)) ?_
  rintro _ _ rfl
  simp (maxSteps := 4000000) only [Try.results4, XX, Nat.reduceBEq, Nat.reduceLT, Nat.reduceAdd, Nat.reduceMul, Nat.reduceSub, Nat.reduceLeDiff, Nat.reduceEqDiff, Int.reduceToNat, Int.reduceLT, Int.reduceLE, Int.reduceAdd, Int.reduceSub, Int.reduceEq, reduceIte, Nat.reduceBNe, Int.reducePow, Nat.reducePow, Int.reduceMul, Int.reduceNeg, isB_i, isB_b, isB_y, isBv_i, isBv_b, eqCells_t, TT]
end Go.Proofs.Ytflccffjfnfoiaa.Sx
