/- The symbolic executor, at work: options made, as a law. No condition. -/
import Derived.Test.YtflccffjfnfoiaaOpVX
namespace Go.Proofs.Ytflccffjfnfoiaa.Sx
open Go
set_option linter.unusedSimpArgs false
set_option linter.unusedVariables false
set_option maxRecDepth 10000
set_option maxHeartbeats 2000000

theorem opts4 {H : List SB} {iO a : Nat} {k : Int} {A B : List UInt8} (h0 : H[a]? = some (wB true A)) (h1 : H[a + 1]? = some (wB true B)) (h2 : H[a + 2]? = some (wB true A)) (h3 : H[a + 3]? = some (wB true B))
    (hr : H[iO]? = some (optB true [i64 k, slB a A [], i64 k, slB (a + 1) B [], i64 k, slB (a + 2) A [], i64 k, slB (a + 3) B []])) : Opts H iO true [⟨k, A, a, [], true⟩, ⟨k, B, a + 1, [], true⟩, ⟨k, A, a + 2, [], true⟩, ⟨k, B, a + 3, [], true⟩] 0 := by
  refine ⟨hr, fun _ => rfl, fun i e he => ?_, fun i j e f hij he hf => ?_⟩
  · match i, he with
    | 0, he => cases he; exact ⟨by rw [List.append_nil]; exact h0, fun _ => rfl⟩
    | 1, he => cases he; exact ⟨by rw [List.append_nil]; exact h1, fun _ => rfl⟩
    | 2, he => cases he; exact ⟨by rw [List.append_nil]; exact h2, fun _ => rfl⟩
    | 3, he => cases he; exact ⟨by rw [List.append_nil]; exact h3, fun _ => rfl⟩
  · have key : ∀ (i : Nat) (e : PE), ([⟨k, A, a, [], true⟩, ⟨k, B, a + 1, [], true⟩, ⟨k, A, a + 2, [], true⟩, ⟨k, B, a + 3, [], true⟩] : List PE)[i]? = some e → e.w = a + i := fun i e he => by
      match i, he with
      | 0, he => cases he; rfl
      | 1, he => cases he; rfl
      | 2, he => cases he; rfl
      | 3, he => cases he; rfl
    rw [key i e he, key j f hf]; omega
theorem b15_nil {H : List SB} {ib : Nat} (h : H[ib]? = some (B5.bookB nilS nilS nilS nilS)) : B15 H ib [] [] := ⟨nilS, nilS, .inl ⟨rfl, rfl, h⟩, .inl ⟨rfl, rfl⟩, .inl ⟨rfl, rfl⟩, rfl, fun i j n m c d e => nomatch e⟩
theorem rows15_one {H : List SB} {x : RE} (O : x.at_ H) (hok : ∀ e ∈ x.es, e.d.length ≤ 140737488351232 ∧ -9223372036854775808 ≤ e.k ∧ e.k < 9223372036854775808) (hl : x.es.length ≤ 64) : Rows15 H [x] := by
  have one : ∀ {i : Nat} {y : RE}, [x][i]? = some y → i = 0 ∧ y = x := fun {i y} h => by
    match i, h with
    | 0, h => cases h; exact ⟨rfl, rfl⟩
  refine ⟨fun i y h => by obtain ⟨_, rfl⟩ := one h; exact O, fun y hy => by obtain rfl := List.mem_singleton.1 hy; exact hok, fun y hy => by obtain rfl := List.mem_singleton.1 hy; exact hl, by simp, fun i j y z hij hy hz => by have := (one hy).1; have := (one hz).1; omega, fun i j e f hij he hf => ?_⟩
  have e1 : dataE [x] = x.es.map fun e => (⟨e.w, e.d, e.sp, e.o⟩ : B5.OE) := by simp [dataE]
  rw [e1, List.getElem?_map] at he hf
  obtain ⟨p, hp, rfl⟩ := Option.map_eq_some_iff.1 he
  obtain ⟨q, hq, rfl⟩ := Option.map_eq_some_iff.1 hf
  exact O.ne i j p q hij hp hq
theorem RTy_u32 {B n : Nat} {x : List RC} (h : RTy T B (n + 1) 51 x) : ∃ z : Nat, x = [.v (.int .u32 z)] ∧ z < 4294967296 := by
  obtain ⟨z, rfl, h1, h2⟩ := RTy_int T_51 h
  simp [IntKind.min, IntKind.max, IntKind.bits, IntKind.signed] at h1 h2
  exact ⟨z.toNat, by rw [Int.toNat_of_nonneg h1], by omega⟩

theorem optionMakes_walk : ∀ css, RTyL (RTy T reachBytes DEPTH) [3, 51, 3] css → Spec Try.prog 7 (svs T [3, 51, 3] css) [] fun r _ => r = .c (.v (.bool true)) := by
  intro css h
  obtain ⟨x1, xs1, rfl, h1, g1⟩ := RTyL_cons h
  obtain ⟨x2, xs2, rfl, h2, g2⟩ := RTyL_cons g1
  obtain ⟨x3, xs3, rfl, h3, g3⟩ := RTyL_cons g2
  obtain rfl := RTyL_nil g3
  obtain ⟨k, rfl, hk1, hk2⟩ := RTy_int T_3 h1
  obtain ⟨n, rfl, hn⟩ := RTy_u32 h2
  obtain ⟨s, rfl, hs⟩ := RTy_int T_3 h3
  simp [IntKind.min, IntKind.max, IntKind.bits, IntKind.signed] at hk1 hk2
  have e1 : ∀ a : Int, svOf T 3 [.v (.int .i64 a)] = .c (i64 a) := fun _ => rfl
  have e2 : ∀ a : Nat, svOf T 51 [.v (.int .u32 a)] = .c (i32 a) := fun _ => rfl
  simp only [svs, e1, e2]
  clear h1 h2 h3 g1 g2 g3 h e1 e2 hs
  have m1 := numbered_spec k n hn
  have m2 := byte_spec k s
  have m3 := rnumbered_spec k n hn
  have m4 := rbyte_spec k s
  obtain ⟨A, hA⟩ : ∃ A, A = be4 n := ⟨_, rfl⟩
  obtain ⟨B, hB⟩ : ∃ B, B = [UInt8.ofInt s] := ⟨_, rfl⟩
  have lA : A.length = 4 := by rw [hA]; rfl
  have lB : B.length = 1 := by rw [hB]; rfl
  rw [← hA] at m1 m3
  rw [← hB] at m2 m4
  refine spec_of_X cx_ok Try.func7 rfl (by kernel_rfl) (by kernel_rfl) (Nat.le_of_ble_eq_true rfl) 400 12 ?_
  simp (maxSteps := 4000000) only [Try.results7, XX, Nat.reduceBEq, Nat.reduceLT, Nat.reduceAdd, Nat.reduceMul, Nat.reduceSub, Nat.reduceLeDiff, Nat.reduceEqDiff, Int.reduceToNat, Int.reduceLT, Int.reduceLE, Int.reduceAdd, Int.reduceSub, Int.reduceEq, reduceIte, Nat.reduceBNe, Int.reducePow, Nat.reducePow, Int.reduceMul, Int.reduceNeg, isB_i, isB_b, isB_y, isBv_i, isBv_b, eqCells_t, TT]
  refine call_pureF [] (K := fun s => s = .c (bC true)) awake_spec trivial ?_
  rintro _ rfl
  simp (maxSteps := 4000000) only [Try.results7, XX, Nat.reduceBEq, Nat.reduceLT, Nat.reduceAdd, Nat.reduceMul, Nat.reduceSub, Nat.reduceLeDiff, Nat.reduceEqDiff, Int.reduceToNat, Int.reduceLT, Int.reduceLE, Int.reduceAdd, Int.reduceSub, Int.reduceEq, reduceIte, Nat.reduceBNe, Int.reducePow, Nat.reducePow, Int.reduceMul, Int.reduceNeg, isB_i, isB_b, isB_y, isBv_i, isBv_b, eqCells_t, TT]
  refine call_fz [.c (i64 k), .c (i32 n)] m1 (fun t h' h => resI_noRo h) ⟨.inl ⟨rfl, rfl⟩, .inl ⟨rfl, rfl⟩, trivial⟩ ?_
  rintro _ _ ⟨rfl, rfl⟩
  simp (maxSteps := 4000000) only [Try.results7, ids_bsC, ren_bsC, noRo_bsC, plain_bsC, lt_bsC, ids_byte, ren_byte, noRo_byte, plain_byte, lt_byte, XX, Nat.reduceBEq, Nat.reduceLT, Nat.reduceAdd, Nat.reduceMul, Nat.reduceSub, Nat.reduceLeDiff, Nat.reduceEqDiff, Int.reduceToNat, Int.reduceLT, Int.reduceLE, Int.reduceAdd, Int.reduceSub, Int.reduceEq, reduceIte, Nat.reduceBNe, Int.reducePow, Nat.reducePow, Int.reduceMul, Int.reduceNeg, isB_i, isB_b, isB_y, isBv_i, isBv_b, eqCells_t, TT]
  refine call_fz [.c (i64 k), .c (i64 s)] m2 (fun t h' h => resI_noRo h) ⟨.inl ⟨rfl, rfl⟩, .inl ⟨rfl, rfl⟩, trivial⟩ ?_
  rintro _ _ ⟨rfl, rfl⟩
  simp (maxSteps := 4000000) only [Try.results7, ids_bsC, ren_bsC, noRo_bsC, plain_bsC, lt_bsC, ids_byte, ren_byte, noRo_byte, plain_byte, lt_byte, XX, Nat.reduceBEq, Nat.reduceLT, Nat.reduceAdd, Nat.reduceMul, Nat.reduceSub, Nat.reduceLeDiff, Nat.reduceEqDiff, Int.reduceToNat, Int.reduceLT, Int.reduceLE, Int.reduceAdd, Int.reduceSub, Int.reduceEq, reduceIte, Nat.reduceBNe, Int.reducePow, Nat.reducePow, Int.reduceMul, Int.reduceNeg, isB_i, isB_b, isB_y, isBv_i, isBv_b, eqCells_t, TT]
  refine call_fz [.c (i64 k), .c (i32 n)] m1 (fun t h' h => resI_noRo h) ⟨.inl ⟨rfl, rfl⟩, .inl ⟨rfl, rfl⟩, trivial⟩ ?_
  rintro _ _ ⟨rfl, rfl⟩
  simp (maxSteps := 4000000) only [Try.results7, ids_bsC, ren_bsC, noRo_bsC, plain_bsC, lt_bsC, ids_byte, ren_byte, noRo_byte, plain_byte, lt_byte, XX, Nat.reduceBEq, Nat.reduceLT, Nat.reduceAdd, Nat.reduceMul, Nat.reduceSub, Nat.reduceLeDiff, Nat.reduceEqDiff, Int.reduceToNat, Int.reduceLT, Int.reduceLE, Int.reduceAdd, Int.reduceSub, Int.reduceEq, reduceIte, Nat.reduceBNe, Int.reducePow, Nat.reducePow, Int.reduceMul, Int.reduceNeg, isB_i, isB_b, isB_y, isBv_i, isBv_b, eqCells_t, TT]
  refine call_fz [.c (i64 k), .c (i64 s)] m2 (fun t h' h => resI_noRo h) ⟨.inl ⟨rfl, rfl⟩, .inl ⟨rfl, rfl⟩, trivial⟩ ?_
  rintro _ _ ⟨rfl, rfl⟩
  simp (maxSteps := 4000000) only [Try.results7, ids_bsC, ren_bsC, noRo_bsC, plain_bsC, lt_bsC, ids_byte, ren_byte, noRo_byte, plain_byte, lt_byte, List.flatten_cons, List.flatten_nil, List.cons_append, List.nil_append, List.append_nil, List.replicate_succ, List.replicate_zero, List.drop_succ_cons, List.drop_zero, List.length_cons, List.length_nil, Nat.reduceAdd, Nat.reduceLeDiff, reduceIte, setR, List.set_cons_zero, List.set_cons_succ, XX, Nat.reduceBEq, Nat.reduceLT, Nat.reduceAdd, Nat.reduceMul, Nat.reduceSub, Nat.reduceLeDiff, Nat.reduceEqDiff, Int.reduceToNat, Int.reduceLT, Int.reduceLE, Int.reduceAdd, Int.reduceSub, Int.reduceEq, reduceIte, Nat.reduceBNe, Int.reducePow, Nat.reducePow, Int.reduceMul, Int.reduceNeg, isB_i, isB_b, isB_y, isBv_i, isBv_b, eqCells_t, TT]
  refine call_fz [.c (i64 k), .c (i32 n)] m3 (fun t h' h => resI_noRo h) ⟨.inl ⟨rfl, rfl⟩, .inl ⟨rfl, rfl⟩, trivial⟩ ?_
  rintro _ _ ⟨rfl, rfl⟩
  simp (maxSteps := 4000000) only [Try.results7, ids_bsC, ren_bsC, noRo_bsC, plain_bsC, lt_bsC, ids_byte, ren_byte, noRo_byte, plain_byte, lt_byte, XX, Nat.reduceBEq, Nat.reduceLT, Nat.reduceAdd, Nat.reduceMul, Nat.reduceSub, Nat.reduceLeDiff, Nat.reduceEqDiff, Int.reduceToNat, Int.reduceLT, Int.reduceLE, Int.reduceAdd, Int.reduceSub, Int.reduceEq, reduceIte, Nat.reduceBNe, Int.reducePow, Nat.reducePow, Int.reduceMul, Int.reduceNeg, isB_i, isB_b, isB_y, isBv_i, isBv_b, eqCells_t, TT]
  refine call_fz [.c (i64 k), .c (i64 s)] m4 (fun t h' h => resI_noRo h) ⟨.inl ⟨rfl, rfl⟩, .inl ⟨rfl, rfl⟩, trivial⟩ ?_
  rintro _ _ ⟨rfl, rfl⟩
  simp (maxSteps := 4000000) only [Try.results7, ids_bsC, ren_bsC, noRo_bsC, plain_bsC, lt_bsC, ids_byte, ren_byte, noRo_byte, plain_byte, lt_byte, XX, Nat.reduceBEq, Nat.reduceLT, Nat.reduceAdd, Nat.reduceMul, Nat.reduceSub, Nat.reduceLeDiff, Nat.reduceEqDiff, Int.reduceToNat, Int.reduceLT, Int.reduceLE, Int.reduceAdd, Int.reduceSub, Int.reduceEq, reduceIte, Nat.reduceBNe, Int.reducePow, Nat.reducePow, Int.reduceMul, Int.reduceNeg, isB_i, isB_b, isB_y, isBv_i, isBv_b, eqCells_t, TT]
  refine call_fz [.c (i64 k), .c (i32 n)] m3 (fun t h' h => resI_noRo h) ⟨.inl ⟨rfl, rfl⟩, .inl ⟨rfl, rfl⟩, trivial⟩ ?_
  rintro _ _ ⟨rfl, rfl⟩
  simp (maxSteps := 4000000) only [Try.results7, ids_bsC, ren_bsC, noRo_bsC, plain_bsC, lt_bsC, ids_byte, ren_byte, noRo_byte, plain_byte, lt_byte, XX, Nat.reduceBEq, Nat.reduceLT, Nat.reduceAdd, Nat.reduceMul, Nat.reduceSub, Nat.reduceLeDiff, Nat.reduceEqDiff, Int.reduceToNat, Int.reduceLT, Int.reduceLE, Int.reduceAdd, Int.reduceSub, Int.reduceEq, reduceIte, Nat.reduceBNe, Int.reducePow, Nat.reducePow, Int.reduceMul, Int.reduceNeg, isB_i, isB_b, isB_y, isBv_i, isBv_b, eqCells_t, TT]
  refine call_fz [.c (i64 k), .c (i64 s)] m4 (fun t h' h => resI_noRo h) ⟨.inl ⟨rfl, rfl⟩, .inl ⟨rfl, rfl⟩, trivial⟩ ?_
  rintro _ _ ⟨rfl, rfl⟩
  simp (maxSteps := 4000000) only [Try.results7, ids_bsC, ren_bsC, noRo_bsC, plain_bsC, lt_bsC, ids_byte, ren_byte, noRo_byte, plain_byte, lt_byte, List.flatten_cons, List.flatten_nil, List.cons_append, List.nil_append, List.append_nil, List.replicate_succ, List.replicate_zero, List.drop_succ_cons, List.drop_zero, List.length_cons, List.length_nil, Nat.reduceAdd, Nat.reduceLeDiff, reduceIte, setR, List.set_cons_zero, List.set_cons_succ, XX, Nat.reduceBEq, Nat.reduceLT, Nat.reduceAdd, Nat.reduceMul, Nat.reduceSub, Nat.reduceLeDiff, Nat.reduceEqDiff, Int.reduceToNat, Int.reduceLT, Int.reduceLE, Int.reduceAdd, Int.reduceSub, Int.reduceEq, reduceIte, Nat.reduceBNe, Int.reducePow, Nat.reducePow, Int.reduceMul, Int.reduceNeg, isB_i, isB_b, isB_y, isBv_i, isBv_b, eqCells_t, TT]
  refine gen_call (fun H => Opts H 4 true [⟨k, A, 0, [], true⟩, ⟨k, B, 1, [], true⟩, ⟨k, A, 2, [], true⟩, ⟨k, B, 3, [], true⟩] 0 ∧ Opts H 9 true [⟨k, A, 5, [], true⟩, ⟨k, B, 6, [], true⟩, ⟨k, A, 7, [], true⟩, ⟨k, B, 8, [], true⟩] 0) ⟨opts4 (a := 0) rfl rfl rfl rfl rfl, opts4 (a := 5) rfl rfl rfl rfl rfl⟩ ?_
  rintro H ⟨O1, O2⟩
  have ok : ∀ (a : Nat), ∀ e ∈ ([⟨k, A, a, [], true⟩, ⟨k, B, a + 1, [], true⟩, ⟨k, A, a + 2, [], true⟩, ⟨k, B, a + 3, [], true⟩] : List PE), e.d.length ≤ 140737488351232 ∧ -9223372036854775808 ≤ e.k ∧ e.k < 9223372036854775808 := fun a e he => by
    simp only [List.mem_cons, List.not_mem_nil, or_false] at he
    rcases he with rfl | rfl | rfl | rfl <;> exact ⟨by dsimp only; omega, by dsimp only; omega, by dsimp only; omega⟩
  obtain ⟨es, hes⟩ : ∃ es : List PE, es = [⟨k, A, 0, [], true⟩, ⟨k, B, 1, [], true⟩, ⟨k, A, 2, [], true⟩, ⟨k, B, 3, [], true⟩] := ⟨_, rfl⟩
  obtain ⟨fs, hfs⟩ : ∃ fs : List PE, fs = [⟨k, A, 5, [], true⟩, ⟨k, B, 6, [], true⟩, ⟨k, A, 7, [], true⟩, ⟨k, B, 8, [], true⟩] := ⟨_, rfl⟩
  have k1 : ∀ e ∈ es, e.d.length ≤ 140737488351232 ∧ -9223372036854775808 ≤ e.k ∧ e.k < 9223372036854775808 := by rw [hes]; exact ok 0
  have k2 : ∀ e ∈ fs, e.d.length ≤ 140737488351232 ∧ -9223372036854775808 ≤ e.k ∧ e.k < 9223372036854775808 := by rw [hfs]; exact ok 5
  have les : es.length = 4 := by rw [hes]; rfl
  have lfs : fs.length = 4 := by rw [hfs]; rfl
  have hsame : piL (es.map PE.oi) = piL (fs.map PE.oi) := by rw [hes, hfs]; rfl
  rw [← hes] at O1
  rw [← hfs] at O2
  have a1 : (SC.sl 4 0 4 4) = .sl 4 0 es.length (es.length + 0) := by rw [les]
  have a2 : (SC.sl 9 0 4 4) = .sl 9 0 fs.length (fs.length + 0) := by rw [lfs]
  rw [a1, a2]
  refine call_same (xs := es.map PE.oi) (sp := []) (ys := fs.map PE.oi) (sp' := []) (c := es.length + 0) (c' := fs.length + 0) (O1.oks k1) (O2.oks k2) (by rw [List.length_map]; omega) (by rw [List.length_map]; omega) O1.fz O2.fz ?_
  rw [decide_eq_true hsame]
  clear hes hfs a1 a2 hsame ok
  simp (maxSteps := 4000000) only [Try.results7, XX, Nat.reduceBEq, Nat.reduceLT, Nat.reduceAdd, Nat.reduceMul, Nat.reduceSub, Nat.reduceLeDiff, Nat.reduceEqDiff, Int.reduceToNat, Int.reduceLT, Int.reduceLE, Int.reduceAdd, Int.reduceSub, Int.reduceEq, reduceIte, Nat.reduceBNe, Int.reducePow, Nat.reducePow, Int.reduceMul, Int.reduceNeg, isB_i, isB_b, isB_y, isBv_i, isBv_b, eqCells_t, TT]
  have hbk : (H ++ [B5.bookB nilS nilS nilS nilS])[H.length]? = some (B5.bookB nilS nilS nilS nilS) := by rw [List.getElem?_append_right (Nat.le_refl _), Nat.sub_self]; rfl
  have O3 := O1.app [B5.bookB nilS nilS nilS nilS]
  refine call_is (take15_spec (H ++ [B5.bookB nilS nilS nilS nilS]) H.length [] [] ⟨4, true, es, 0⟩ (b15_nil hbk) O3 k1 (by show es.length ≤ _; omega) (by simp) (by simp [dataE])) ?_
  rintro _ H2 ⟨rfl, y, BB, Oy, hy, KH⟩
  simp (maxSteps := 4000000) only [Try.results7, XX, Nat.reduceBEq, Nat.reduceLT, Nat.reduceAdd, Nat.reduceMul, Nat.reduceSub, Nat.reduceLeDiff, Nat.reduceEqDiff, Int.reduceToNat, Int.reduceLT, Int.reduceLE, Int.reduceAdd, Int.reduceSub, Int.reduceEq, reduceIte, Nat.reduceBNe, Int.reducePow, Nat.reducePow, Int.reduceMul, Int.reduceNeg, isB_i, isB_b, isB_y, isBv_i, isBv_b, eqCells_t, TT]
  refine call_is (owned15_spec H2 H.length [⟨4, true, es, 0⟩] [y] BB (by simp) (rows15_one (O3.keepB (fun t h => h) KH) k1 (by show es.length ≤ _; omega)) (fun i z hz => by match i, hz with | 0, hz => cases hz; exact Oy) (fun i x z hx hz => by match i, hx, hz with | 0, hx, hz => cases hx; cases hz; exact hy)) ?_
  rintro _ _ rfl
  simp (maxSteps := 4000000) only [Try.results7, XX, Nat.reduceBEq, Nat.reduceLT, Nat.reduceAdd, Nat.reduceMul, Nat.reduceSub, Nat.reduceLeDiff, Nat.reduceEqDiff, Int.reduceToNat, Int.reduceLT, Int.reduceLE, Int.reduceAdd, Int.reduceSub, Int.reduceEq, reduceIte, Nat.reduceBNe, Int.reducePow, Nat.reducePow, Int.reduceMul, Int.reduceNeg, isB_i, isB_b, isB_y, isBv_i, isBv_b, eqCells_t, TT]
end Go.Proofs.Ytflccffjfnfoiaa.Sx
