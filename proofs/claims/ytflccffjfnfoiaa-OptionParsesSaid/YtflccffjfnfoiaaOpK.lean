/- The symbolic executor, at work: the chapter's first examples; the numbers. No condition. -/
import Derived.Test.YtflccffjfnfoiaaOpJ
import Derived.Test.YtflccffjfnfoiaaOw
namespace Go.Proofs.Ytflccffjfnfoiaa.Sx
open Go
set_option linter.unusedSimpArgs false
set_option linter.unusedVariables false
set_option maxRecDepth 10000
set_option maxHeartbeats 2000000

theorem resB_noRo {l : List UInt8} {e : Int} {t : SV} {h' : List SB} (h : resB l e t h') : t.noRo = true ∧ (h'.all fun b => b.cells.all SC.noRo) = true := by
  obtain ⟨sp, o, rfl, rfl, _⟩ := h
  exact ⟨rfl, by simp only [XX, Nat.reduceBEq, Nat.reduceLT, Nat.reduceAdd, Nat.reduceMul, Nat.reduceSub, Nat.reduceLeDiff, Nat.reduceEqDiff, Int.reduceToNat, Int.reduceLT, Int.reduceLE, Int.reduceAdd, Int.reduceSub, Int.reduceEq, reduceIte, Nat.reduceBNe, Int.reducePow, Nat.reducePow, Int.reduceMul, Int.reduceNeg, isB_i, isB_b, isB_y, isBv_i, isBv_b, eqCells_t, TT, ids_bsC, ren_bsC, noRo_bsC, plain_bsC, lt_bsC, ids_byte, ren_byte, noRo_byte, plain_byte, lt_byte]⟩
theorem Opts.oks {H : List SB} {iO : Nat} {o : Bool} {es : List PE} {r : Nat} (O : Opts H iO o es r) (h : ∀ e ∈ es, e.d.length ≤ 140737488351232 ∧ -9223372036854775808 ≤ e.k ∧ e.k < 9223372036854775808) : ∀ x ∈ es.map PE.oi, x.ok := by
  intro x hx
  simp only [List.mem_map] at hx
  obtain ⟨e, he, rfl⟩ := hx
  exact ⟨Nat.le_add_right _ _, (h e he).1, (h e he).2⟩

/-- From here on, some of the windows are known. -/
theorem gen_hp {xn : XN} {k : List KI} {nm : NB} {tm : List (Nat × SV)} {hp : List SB} {Q : XE → St → Prop} (P : List SB → Prop) (h0 : P hp) (h : ∀ H, P H → xn k ⟨nm, tm, H⟩ Q) : xn k ⟨nm, tm, hp⟩ Q := h hp h0
theorem two_pi {es : List PE} {a b : PI} (h : es.map PE.pi = [a, b]) : ∃ e1 e2, es = [e1, e2] ∧ e1.k = a.1 ∧ e1.d = a.2 ∧ e2.k = b.1 ∧ e2.d = b.2 := by
  obtain ⟨e1, r1, rfl, h1, h2⟩ := List.map_eq_cons_iff.1 h
  obtain ⟨e2, r2, rfl, h3, h4⟩ := List.map_eq_cons_iff.1 h2
  obtain rfl := List.map_eq_nil_iff.1 h4
  subst h1; subst h3
  exact ⟨e1, e2, rfl, rfl, rfl, rfl, rfl⟩
/-! ### Parts in memory -/
theorem frO_ro {h : List SB} {l sp : List UInt8} {c : Nat} : frR (fun _ => true) h (partO (l, sp, c)) (roB l sp c) := .inl rfl
theorem frO_win {h : List SB} {i o c m : Nat} {l sp : List UInt8} {b : SB} (hb : h[i]? = some b) (hv : b.void = false) (hc : b.cells.drop o = bsC (l ++ sp)) (hm : l.length = m) : frR (fun _ => true) h (partO (l, sp, c)) (.sl i o m c) := by
  subst hm
  refine .inr (.inr ⟨i, o, rfl, .inr ⟨rfl, b, hb, hv, ?_⟩⟩)
  have := frL_bs (ok := fun _ => true) (h := h) [] (l ++ sp)
  rw [List.append_nil] at this
  dsimp only
  rw [hc]; exact this
theorem fzO_rows {r : Nat → Nat} {n : Nat} {h : List SB} {i o m c : Nat} {rows : List RC} {b : SB} (hb : h[i]? = some b) (hv : b.void = false) (hL : frL (fun _ => true) h rows (b.cells.drop o)) : frV true (fun _ => true) r n h (.c (.sl i o m c)) (.c (.ro rows m c)) :=
  .inr (.inl ⟨_, _, rfl, rfl, .inr ⟨rfl, .inl ⟨_, _, _, rfl, .inr (.inr ⟨i, o, rfl, .inr ⟨rfl, b, hb, hv, hL⟩⟩)⟩⟩⟩)

theorem resI_noRo {k : Int} {d : List UInt8} {t : SV} {h' : List SB} (h : resI k d t h') : t.noRo = true ∧ (h'.all fun b => b.cells.all SC.noRo) = true := by
  obtain ⟨rfl, rfl⟩ := h
  exact ⟨rfl, by simp only [XX, Nat.reduceBEq, Nat.reduceLT, Nat.reduceAdd, Nat.reduceMul, Nat.reduceSub, Nat.reduceLeDiff, Nat.reduceEqDiff, Int.reduceToNat, Int.reduceLT, Int.reduceLE, Int.reduceAdd, Int.reduceSub, Int.reduceEq, reduceIte, Nat.reduceBNe, Int.reducePow, Nat.reducePow, Int.reduceMul, Int.reduceNeg, isB_i, isB_b, isB_y, isBv_i, isBv_b, eqCells_t, TT, ids_bsC, ren_bsC, noRo_bsC, plain_bsC, lt_bsC, ids_byte, ren_byte, noRo_byte, plain_byte, lt_byte]⟩
theorem setR {H X : List SB} {k : Nat} {x : SB} : (H ++ X).set (H.length + k) x = H ++ X.set k x := by
  rw [List.set_append_right _ _ (Nat.le_add_right ..), Nat.add_sub_cancel_left]
def esA : List PE := [⟨53, [1], 0, [], true⟩, ⟨50, [10, 0, 0, 5], 1, [], true⟩]
theorem esA_opts (T : List SB) : Opts ([wB true [1], wB true [10, 0, 0, 5], optB true [i64 53, .sl 0 0 1 1, i64 50, .sl 1 0 4 4]] ++ T) 2 true esA 0 := by
  refine ⟨rfl, fun _ => rfl, fun i e he => ?_, fun i j e f hij he hf => ?_⟩
  · match i, he with
    | 0, he => cases he; exact ⟨rfl, fun _ => rfl⟩
    | 1, he => cases he; exact ⟨rfl, fun _ => rfl⟩
  · match i, j, he, hf with
    | 0, 0, _, _ => exact absurd rfl hij
    | 1, 1, _, _ => exact absurd rfl hij
    | 0, 1, he, hf => cases he; cases hf; decide
    | 1, 0, he, hf => cases he; cases hf; decide
def xsA : List OI := [⟨53, [1], [], 1⟩, ⟨50, [10, 0, 0, 5], [], 4⟩]
theorem xsA_ok : ∀ x ∈ xsA, x.ok := by
  intro x hx
  simp only [xsA, List.mem_cons, List.not_mem_nil, or_false] at hx
  rcases hx with rfl | rfl <;> exact ⟨by decide, by decide, by decide⟩
theorem xsA_good : ¬ Bad xsA := by
  rintro ⟨i, x, hx, hb⟩
  match i, hx with
  | 0, hx =>
    cases hx
    rcases hb with h | h | ⟨y, hy, _⟩
    · exact absurd h (by decide)
    · exact absurd h (by decide)
    · cases hy
  | 1, hx =>
    cases hx
    rcases hb with h | h | ⟨y, hy, h⟩
    · exact absurd h (by decide)
    · exact absurd h (by decide)
    · simp [xsA] at hy
      subst hy
      exact absurd h (by decide)
  | i + 2, hx => exact absurd hx (by simp [xsA])
theorem packA10 : packF xsA 10 = ([53, 1, 1, 50, 4, 10, 0, 0, 5, 255], 0) := by
  unfold packF
  rw [if_neg xsA_good, if_neg (by decide), if_neg (by decide)]
  rfl
theorem packA9 : packF xsA 9 = ([], 2) := by
  unfold packF
  rw [if_neg xsA_good, if_neg (by decide), if_pos (by decide)]
theorem parA : parseA [[53, 1, 1, 7, 1, 97, 255], [7, 1, 98]] [] = .ok [(53, [1]), (7, [97, 98])] := by
  have a1 : parse1 [53, 1, 1, 7, 1, 97, 255] [] = .ok [(53, [1]), (7, [97])] := by
    rw [parse1_put (by decide) (by decide) (by decide) (by decide)]
    show parse1 [7, 1, 97, 255] [(53, [1])] = _
    rw [parse1_put (by decide) (by decide) (by decide) (by decide)]
    show parse1 [255] [(53, [1]), (7, [97])] = _
    rw [parse1_end]
  have a2 : parse1 [7, 1, 98] [(53, [1]), (7, [97])] = .ok [(53, [1]), (7, [97, 98])] := by
    rw [parse1_put (by decide) (by decide) (by decide) (by decide)]
    show parse1 [] [(53, [1]), (7, [97, 98])] = _
    rw [parse1_nil]
  rw [parseA, a1]
  show parseA [[7, 1, 98]] _ = _
  rw [parseA, a2]
  rfl

theorem awake_spec : Spec cx.P 10 [] [] fun s _ => s.plain = true ∧ s = .c (bC true) := by
  have p10 := pack_spec xsA [] 2 xsA_ok (by decide) 10
  have p9 := pack_spec xsA [] 2 xsA_ok (by decide) 9
  rw [packA10] at p10
  rw [packA9] at p9
  have pp := parse_spec [([53, 1, 1, 7, 1, 97, 255], [], 7), ([7, 1, 98], [], 3)] [] 2 (by intro p hp; simp only [List.mem_cons, List.not_mem_nil, or_false] at hp; rcases hp with rfl | rfl <;> exact ⟨by decide, by decide⟩) (by decide) (by decide)
  rw [show bytesP [([53, 1, 1, 7, 1, 97, 255], [], 7), ([7, 1, 98], [], 3)] = [[53, 1, 1, 7, 1, 97, 255], [7, 1, 98]] from rfl, parA] at pp
  have l10 : ([53, 1, 1, 50, 4, 10, 0, 0, 5, 255] : List UInt8).length = 10 := rfl
  dsimp only at p10 p9
  obtain ⟨L, hL⟩ : ∃ L, L = ([53, 1, 1, 50, 4, 10, 0, 0, 5, 255] : List UInt8) := ⟨_, rfl⟩
  rw [← hL] at p10 l10
  refine spec_of_X cx_ok Try.func10 rfl (by kernel_rfl) (by kernel_rfl) (Nat.le_of_ble_eq_true rfl) 400 16 ?_
  simp (maxSteps := 4000000) only [Try.results10, XX, Nat.reduceBEq, Nat.reduceLT, Nat.reduceAdd, Nat.reduceMul, Nat.reduceSub, Nat.reduceLeDiff, Nat.reduceEqDiff, Int.reduceToNat, Int.reduceLT, Int.reduceLE, Int.reduceAdd, Int.reduceSub, Int.reduceEq, reduceIte, Nat.reduceBNe, Int.reducePow, Nat.reducePow, Int.reduceMul, Int.reduceNeg, isB_i, isB_b, isB_y, isBv_i, isBv_b, eqCells_t, TT]
  have r1 : (List.replicate 1 [SC.v (.int .u8 0)]).flatten = [SC.v (.int .u8 0)] := rfl
  have r3 : (List.replicate 3 [SC.v (.int .u8 0)]).flatten = List.replicate 3 (SC.v (.int .u8 0)) := rfl
  have r4 : (List.replicate 4 [SC.v (.int .u8 0)]).flatten = List.replicate 4 (SC.v (.int .u8 0)) := rfl
  have r7 : (List.replicate 7 [SC.v (.int .u8 0)]).flatten = List.replicate 7 (SC.v (.int .u8 0)) := rfl
  have r2 : (List.replicate 2 [SC.v (.int .i64 0), SC.v (.slice none 0 0)]).flatten = [SC.v (.int .i64 0), SC.v (.slice none 0 0), SC.v (.int .i64 0), SC.v (.slice none 0 0)] := rfl
  have r5 : (List.replicate 2 [SC.v (.slice none 0 0)]).flatten = [SC.v (.slice none 0 0), SC.v (.slice none 0 0)] := rfl
  simp (maxSteps := 4000000) only [Try.results10, List.flatten_cons, List.flatten_nil, List.cons_append, List.nil_append, List.append_nil, List.replicate_succ, List.replicate_zero, List.drop_succ_cons, List.drop_zero, List.length_cons, List.length_nil, Nat.reduceAdd, Nat.reduceLeDiff, reduceIte, XX, Nat.reduceBEq, Nat.reduceLT, Nat.reduceAdd, Nat.reduceMul, Nat.reduceSub, Nat.reduceLeDiff, Nat.reduceEqDiff, Int.reduceToNat, Int.reduceLT, Int.reduceLE, Int.reduceAdd, Int.reduceSub, Int.reduceEq, reduceIte, Nat.reduceBNe, Int.reducePow, Nat.reducePow, Int.reduceMul, Int.reduceNeg, isB_i, isB_b, isB_y, isBv_i, isBv_b, eqCells_t, TT]
  refine call_fz [.c (roO xsA [] 2), .c (i64 10)] p10 (fun t h' h => resB_noRo h) ⟨(esA_opts []).fz, .inl ⟨rfl, rfl⟩, trivial⟩ ?_
  rintro _ _ ⟨sp1, o1, rfl, rfl, ho1⟩
  obtain rfl := ho1 (by omega)
  simp (maxSteps := 4000000) only [Try.results10, ids_bsC, ren_bsC, noRo_bsC, plain_bsC, lt_bsC, ids_byte, ren_byte, noRo_byte, plain_byte, lt_byte, XX, Nat.reduceBEq, Nat.reduceLT, Nat.reduceAdd, Nat.reduceMul, Nat.reduceSub, Nat.reduceLeDiff, Nat.reduceEqDiff, Int.reduceToNat, Int.reduceLT, Int.reduceLE, Int.reduceAdd, Int.reduceSub, Int.reduceEq, reduceIte, Nat.reduceBNe, Int.reducePow, Nat.reducePow, Int.reduceMul, Int.reduceNeg, isB_i, isB_b, isB_y, isBv_i, isBv_b, eqCells_t, TT]
  refine call_fz [.c (roO xsA [] 2), .c (i64 9)] p9 (fun t h' h => resB_noRo h) ⟨(esA_opts [_]).fz, .inl ⟨rfl, rfl⟩, trivial⟩ ?_
  rintro _ _ ⟨sp2, o2, rfl, rfl, ho2⟩
  simp (maxSteps := 4000000) only [Try.results10, ids_bsC, ren_bsC, noRo_bsC, plain_bsC, lt_bsC, ids_byte, ren_byte, noRo_byte, plain_byte, lt_byte, List.flatten_cons, List.flatten_nil, List.cons_append, List.nil_append, List.append_nil, List.replicate_succ, List.replicate_zero, List.drop_succ_cons, List.drop_zero, List.length_cons, List.length_nil, Nat.reduceAdd, Nat.reduceLeDiff, reduceIte, XX, Nat.reduceBEq, Nat.reduceLT, Nat.reduceAdd, Nat.reduceMul, Nat.reduceSub, Nat.reduceLeDiff, Nat.reduceEqDiff, Int.reduceToNat, Int.reduceLT, Int.reduceLE, Int.reduceAdd, Int.reduceSub, Int.reduceEq, reduceIte, Nat.reduceBNe, Int.reducePow, Nat.reducePow, Int.reduceMul, Int.reduceNeg, isB_i, isB_b, isB_y, isBv_i, isBv_b, eqCells_t, TT]
  refine call_opts [.c (partsV [([53, 1, 1, 7, 1, 97, 255], [], 7), ([7, 1, 98], [], 3)] [] 2)] pp ⟨fzO_rows rfl rfl ⟨frO_win rfl rfl rfl rfl, frO_win rfl rfl rfl rfl, trivial⟩, trivial⟩ ?_
  rintro t o es r O hw hpi
  have O0 := esA_opts ([wB true (L ++ sp1), wB o2 ([] ++ sp2), wB true [53, 1, 1, 7, 1, 97, 255], wB true [7, 1, 98], ⟨true, 25, [.sl 5 0 7 7, .sl 6 0 3 3]⟩] ++ t)
  have hb3 : (([wB true [1], wB true [10, 0, 0, 5], optB true [i64 53, .sl 0 0 1 1, i64 50, .sl 1 0 4 4]] ++ ([wB true (L ++ sp1), wB o2 ([] ++ sp2), wB true [53, 1, 1, 7, 1, 97, 255], wB true [7, 1, 98], ⟨true, 25, [.sl 5 0 7 7, .sl 6 0 3 3]⟩] ++ t)) : List SB)[3]? = some (wB true (L ++ sp1)) := rfl
  obtain ⟨e1, e2, rfl, k1, d1, k2, d2⟩ := two_pi hpi
  have hok := O.oks (by intro e he; simp only [List.mem_cons, List.not_mem_nil, or_false] at he; rcases he with rfl | rfl; exact ⟨by rw [d1]; decide, by rw [k1]; decide⟩; exact ⟨by rw [d2]; decide, by rw [k2]; decide⟩)
  refine gen_hp (fun H => Opts H 2 true esA 0 ∧ H[3]? = some (wB true (L ++ sp1)) ∧ Opts H 8 o [e1, e2] r) ⟨O0, hb3, O⟩ ?_
  rintro H ⟨O0, hb3, O⟩
  have lb3 := lt_of hb3
  have ff : findO ([e1, e2].map PE.oi) 7 = some e2.oi := by
    simp [findO, PE.oi, k1, k2]
  have fd : findD ([e1, e2].map PE.oi) 7 = [97, 98] := by unfold findD; rw [ff]; exact d2
  have pf := find_spec ([e1, e2].map PE.oi) [] (2 + r) hok (by simp) 7
  rw [ff, fd] at pf
  have n1 := number_spec xsA [] 2 xsA_ok (by decide) 50
  have n2 := small_spec xsA [] 2 xsA_ok (by decide) 53
  rw [show numO xsA 50 = (167772165, true) from rfl] at n1
  rw [show smallO xsA 53 = (1, true) from rfl] at n2
  dsimp only [Option.isSome] at pf n1 n2
  obtain ⟨D, hD⟩ : ∃ D, D = ([97, 98] : List UInt8) := ⟨_, rfl⟩
  have lD : D.length = 2 := by rw [hD]; rfl
  rw [← hD] at pf
  have m1 := numbered_spec 51 3600 (by decide)
  have m2 := byte_spec 53 261
  simp (maxSteps := 4000000) only [Try.results10, parE, List.length_cons, List.length_nil, Nat.reduceAdd, XX, Nat.reduceBEq, Nat.reduceLT, Nat.reduceAdd, Nat.reduceMul, Nat.reduceSub, Nat.reduceLeDiff, Nat.reduceEqDiff, Int.reduceToNat, Int.reduceLT, Int.reduceLE, Int.reduceAdd, Int.reduceSub, Int.reduceEq, reduceIte, Nat.reduceBNe, Int.reducePow, Nat.reducePow, Int.reduceMul, Int.reduceNeg, isB_i, isB_b, isB_y, isBv_i, isBv_b, eqCells_t, TT]
  refine call_fz [.c (roO ([e1, e2].map PE.oi) [] (2 + r)), .c (i64 7)] pf (fun t h' h => resSB_noRo h) ⟨O.fz, .inl ⟨rfl, rfl⟩, trivial⟩ ?_
  rintro _ _ ⟨sp3, o3, rfl, rfl, ho3⟩
  obtain rfl := ho3 (by omega)
  have tD : (bsC (D ++ sp3)).take D.length = bsC D := by rw [bs_take, List.take_left' rfl]
  have tL : (bsC (L ++ sp1)).take L.length = bsC L := by rw [bs_take, List.take_left' rfl]
  simp (maxSteps := 4000000) only [Try.results10, ids_bsC, ren_bsC, noRo_bsC, plain_bsC, lt_bsC, ids_byte, ren_byte, noRo_byte, plain_byte, lt_byte, XX, Nat.reduceBEq, Nat.reduceLT, Nat.reduceAdd, Nat.reduceMul, Nat.reduceSub, Nat.reduceLeDiff, Nat.reduceEqDiff, Int.reduceToNat, Int.reduceLT, Int.reduceLE, Int.reduceAdd, Int.reduceSub, Int.reduceEq, reduceIte, Nat.reduceBNe, Int.reducePow, Nat.reducePow, Int.reduceMul, Int.reduceNeg, isB_i, isB_b, isB_y, isBv_i, isBv_b, eqCells_t, TT]
  refine call_pureF [.c (roO xsA [] 2), .c (i64 50)] n1 ⟨(O0.app _).fz, .inl ⟨rfl, rfl⟩, trivial⟩ ?_
  rintro _ rfl
  simp (maxSteps := 4000000) only [Try.results10, ids_bsC, ren_bsC, noRo_bsC, plain_bsC, lt_bsC, ids_byte, ren_byte, noRo_byte, plain_byte, lt_byte, XX, Nat.reduceBEq, Nat.reduceLT, Nat.reduceAdd, Nat.reduceMul, Nat.reduceSub, Nat.reduceLeDiff, Nat.reduceEqDiff, Int.reduceToNat, Int.reduceLT, Int.reduceLE, Int.reduceAdd, Int.reduceSub, Int.reduceEq, reduceIte, Nat.reduceBNe, Int.reducePow, Nat.reducePow, Int.reduceMul, Int.reduceNeg, isB_i, isB_b, isB_y, isBv_i, isBv_b, eqCells_t, TT]
  refine call_pureF [.c (roO xsA [] 2), .c (i64 53)] n2 ⟨(O0.app _).fz, .inl ⟨rfl, rfl⟩, trivial⟩ ?_
  rintro _ rfl
  simp (maxSteps := 4000000) only [Try.results10, ids_bsC, ren_bsC, noRo_bsC, plain_bsC, lt_bsC, ids_byte, ren_byte, noRo_byte, plain_byte, lt_byte, XX, Nat.reduceBEq, Nat.reduceLT, Nat.reduceAdd, Nat.reduceMul, Nat.reduceSub, Nat.reduceLeDiff, Nat.reduceEqDiff, Int.reduceToNat, Int.reduceLT, Int.reduceLE, Int.reduceAdd, Int.reduceSub, Int.reduceEq, reduceIte, Nat.reduceBNe, Int.reducePow, Nat.reducePow, Int.reduceMul, Int.reduceNeg, isB_i, isB_b, isB_y, isBv_i, isBv_b, eqCells_t, TT]
  have lb3' : 3 < (H ++ [wB true (D ++ sp3)]).length := by simp; omega
  refine call_fz [.c (i64 51), .c (i32 (3600 : Nat))] m1 (fun t h' h => resI_noRo h) ⟨.inl ⟨rfl, rfl⟩, .inl ⟨rfl, rfl⟩, trivial⟩ ?_
  rintro _ _ ⟨rfl, rfl⟩
  obtain ⟨N1, hN1⟩ : ∃ N, N = be4 3600 := ⟨_, rfl⟩
  have lN1 : N1.length = 4 := by rw [hN1]; rfl
  rw [← hN1]
  have e31 : H.length + 3 + 1 = H.length + 4 := rfl
  simp (maxSteps := 4000000) only [Try.results10, ids_bsC, ren_bsC, noRo_bsC, plain_bsC, lt_bsC, ids_byte, ren_byte, noRo_byte, plain_byte, lt_byte, lN1, setR, List.set_cons_zero, List.set_cons_succ, List.append_assoc, List.getElem?_append_left, List.getElem?_append_right, List.length_append, List.length_set, List.set_append_left, gset, List.getElem?_set_ne, Nat.add_sub_cancel_left, Nat.sub_self, Nat.le_refl, Nat.le_add_right, List.replicate_one, List.flatten_cons, List.flatten_nil, rep_flat, XX, Nat.reduceBEq, Nat.reduceLT, Nat.reduceAdd, Nat.reduceMul, Nat.reduceSub, Nat.reduceLeDiff, Nat.reduceEqDiff, Int.reduceToNat, Int.reduceLT, Int.reduceLE, Int.reduceAdd, Int.reduceSub, Int.reduceEq, reduceIte, Nat.reduceBNe, Int.reducePow, Nat.reducePow, Int.reduceMul, Int.reduceNeg, isB_i, isB_b, isB_y, isBv_i, isBv_b, eqCells_t, TT]
  refine call_fz [.c (i64 53), .c (i64 261)] m2 (fun t h' h => resI_noRo h) ⟨.inl ⟨rfl, rfl⟩, .inl ⟨rfl, rfl⟩, trivial⟩ ?_
  rintro _ _ ⟨rfl, rfl⟩
  obtain ⟨N2, hN2⟩ : ∃ N, N = [UInt8.ofInt 261] := ⟨_, rfl⟩
  have lN2 : N2.length = 1 := by rw [hN2]; rfl
  rw [← hN2]
  have tN1 : (bsC N1).take 4 = bsC N1 := by rw [bs_take, List.take_of_length_le (by omega)]
  have tN2 : (bsC N2).take 1 = bsC N2 := by rw [bs_take, List.take_of_length_le (by omega)]
  simp (maxSteps := 4000000) only [Try.results10, ids_bsC, ren_bsC, noRo_bsC, plain_bsC, lt_bsC, ids_byte, ren_byte, noRo_byte, plain_byte, lt_byte, lN2, tN1, tN2, tL, tD, hb3, lb3, strOf_bsC, e31, setR, List.set_cons_zero, List.set_cons_succ, List.append_assoc, List.getElem?_append_left, List.getElem?_append_right, List.length_append, List.length_set, List.set_append_left, gset, List.getElem?_set_ne, Nat.add_sub_cancel_left, Nat.sub_self, Nat.le_refl, Nat.le_add_right, List.replicate_one, List.flatten_cons, List.flatten_nil, rep_flat, XX, Nat.reduceBEq, Nat.reduceLT, Nat.reduceAdd, Nat.reduceMul, Nat.reduceSub, Nat.reduceLeDiff, Nat.reduceEqDiff, Int.reduceToNat, Int.reduceLT, Int.reduceLE, Int.reduceAdd, Int.reduceSub, Int.reduceEq, reduceIte, Nat.reduceBNe, Int.reducePow, Nat.reducePow, Int.reduceMul, Int.reduceNeg, isB_i, isB_b, isB_y, isBv_i, isBv_b, eqCells_t, TT]
  refine ⟨⟨by simp, isByte_bsC L⟩, fun _ => ⟨by simp, isByte_bsC D⟩, fun _ => ⟨by rw [bsC_len]; omega, isByte_bsC N1⟩, fun _ => ⟨by rw [bsC_len]; omega, isByte_bsC N2⟩, ?_⟩
  have z1 : ((⟨L.toArray⟩ : ByteArray).toList == (⟨#[53, 1, 1, 50, 4, 10, 0, 0, 5, 255]⟩ : ByteArray).toList) = true := by rw [str_eq, hL]; rfl
  have z2 : ((⟨D.toArray⟩ : ByteArray).toList == (⟨#[97, 98]⟩ : ByteArray).toList) = true := by rw [str_eq, hD]; rfl
  have z3 : ((⟨N1.toArray⟩ : ByteArray).toList == (⟨#[0, 0, 14, 16]⟩ : ByteArray).toList) = true := by rw [str_eq, hN1]; rfl
  have z4 : ((⟨N2.toArray⟩ : ByteArray).toList == (⟨#[5]⟩ : ByteArray).toList) = true := by rw [str_eq, hN2]; rfl
  rw [z1, z2, z3, z4]
  rfl

/-! ### The numbers -/
def codesA : List Int := [0, 1, 3, 50, 51, 52, 53, 54, 55, 58, 59, 61, 67, 255]
def typesA : List Int := [1, 2, 3, 4, 5, 6, 7, 8]
def intsC (l : List Int) : List SC := l.map fun x => i64 x
theorem intsC_at {l : List Int} {i : Nat} (h : i < l.length) : (intsC l).getD i .any = i64 (l.getD i 0) := by
  unfold intsC
  rw [List.getD_eq_getElem?_getD, List.getElem?_map, List.getElem?_eq_getElem h, List.getD_eq_getElem?_getD, List.getElem?_eq_getElem h]; rfl
theorem intsC_len (l : List Int) : (intsC l).length = l.length := by simp [intsC]
theorem typesA_at : ∀ i : Nat, i < 8 → typesA.getD i 0 = ((i + 1 : Nat) : Int) := by decide
theorem binS_anyL {d : TD} {sz : List Bool} {fl : Bool} {op : BinOp} {y : SC} : binS d sz fl op (.c .any) (.c y) = .bad := rfl
theorem names_spec : Spec cx.P 3 [] [] fun s _ => s.plain = true ∧ s = .c (bC true) := by
  refine spec_of_X cx_ok Try.func3 rfl (by kernel_rfl) (by kernel_rfl) (Nat.le_of_ble_eq_true rfl) 400 6 ?_
  simp (maxSteps := 4000000) only [Try.results3, XX, Nat.reduceBEq, Nat.reduceLT, Nat.reduceAdd, Nat.reduceMul, Nat.reduceSub, Nat.reduceLeDiff, Nat.reduceEqDiff, Int.reduceToNat, Int.reduceLT, Int.reduceLE, Int.reduceAdd, Int.reduceSub, Int.reduceEq, reduceIte, Nat.reduceBNe, Int.reducePow, Nat.reducePow, Int.reduceMul, Int.reduceNeg, isB_i, isB_b, isB_y, isBv_i, isBv_b, eqCells_t, TT]
  refine call_pureF [] (K := fun s => s = .c (bC true)) awake_spec trivial ?_
  rintro _ rfl
  simp (maxSteps := 4000000) only [Try.results3, List.flatten_cons, List.flatten_nil, List.cons_append, List.nil_append, List.append_nil, List.replicate_succ, List.replicate_zero, List.drop_succ_cons, List.drop_zero, List.length_cons, List.length_nil, Nat.reduceAdd, Nat.reduceLeDiff, reduceIte, XX, Nat.reduceBEq, Nat.reduceLT, Nat.reduceAdd, Nat.reduceMul, Nat.reduceSub, Nat.reduceLeDiff, Nat.reduceEqDiff, Int.reduceToNat, Int.reduceLT, Int.reduceLE, Int.reduceAdd, Int.reduceSub, Int.reduceEq, reduceIte, Nat.reduceBNe, Int.reducePow, Nat.reducePow, Int.reduceMul, Int.reduceNeg, isB_i, isB_b, isB_y, isBv_i, isBv_b, eqCells_t, TT]
  refine loop_any cx_ok 400 (fun μ σ => ∃ i : Nat, μ = 14 - i ∧ i ≤ 14 ∧
      σ = ⟨⟨6, 0⟩, [(1, .c (bC true)), (2, .c (.sl 0 0 14 14)), (3, .c (.sl 1 0 14 14)), (4, .c (.sl 2 0 8 8)), (5, .c (i64 i))], [⟨true, 3, intsC codesA⟩, ⟨true, 3, intsC codesA⟩, ⟨true, 3, intsC typesA⟩]⟩) 14
    ⟨⟨6, 0⟩, [(1, .c (bC true)), (2, .c (.sl 0 0 14 14)), (3, .c (.sl 1 0 14 14)), (4, .c (.sl 2 0 8 8)), (5, .c (i64 (0 : Nat)))], [⟨true, 3, intsC codesA⟩, ⟨true, 3, intsC codesA⟩, ⟨true, 3, intsC typesA⟩]⟩ ⟨0, rfl, Nat.zero_le _, rfl⟩ (.inl ⟨rfl, rfl, rfl, rfl, rfl, rfl, rfl, trivial⟩) ?_
  rintro μ σ ⟨i, rfl, hi, rfl⟩
  by_cases hlt : i < 14
  · have hd : decide ((i : Int) < 14) = true := by simp only [decide_eq_true_eq]; omega
    have e3 : IntKind.i64.wrap ((i : Int) + 1) = ((i + 1 : Nat) : Int) := by rw [w64] <;> omega
    have g1 := intsC_at (l := codesA) (i := i) hlt
    have lc := intsC_len codesA
    have lt := intsC_len typesA
    have lc' : codesA.length = 14 := rfl
    have lt' : typesA.length = 8 := rfl
    by_cases h8 : i < 8
    · have d8 : decide ((i : Int) < 8) = true := by simp only [decide_eq_true_eq]; omega
      have g2 := intsC_at (l := typesA) (i := i) h8
      rw [typesA_at i h8] at g2
      simp (maxSteps := 4000000) only [Try.results3, hd, XX, Nat.reduceBEq, Nat.reduceLT, Nat.reduceAdd, Nat.reduceMul, Nat.reduceSub, Nat.reduceLeDiff, Nat.reduceEqDiff, Int.reduceToNat, Int.reduceLT, Int.reduceLE, Int.reduceAdd, Int.reduceSub, Int.reduceEq, reduceIte, Nat.reduceBNe, Int.reducePow, Nat.reducePow, Int.reduceMul, Int.reduceNeg, isB_i, isB_b, isB_y, isBv_i, isBv_b, eqCells_t, TT]
      refine draw_of cx_ok (by kernel_rfl) 400 [0, 1, 2] [(0, true), (1, true), (2, true), (3, true), (4, true), (5, true), (6, true), (7, true), (8, true), (9, true), (10, true), (11, true), (12, true), (13, true), (14, true), (15, true), (16, true), (17, true), (18, true), (19, true), (20, true), (21, true)] (by kernel_rfl) rfl ?_
      simp (maxSteps := 4000000) only [Try.results3, g1, g2, d8, e3, XX, Nat.reduceBEq, Nat.reduceLT, Nat.reduceAdd, Nat.reduceMul, Nat.reduceSub, Nat.reduceLeDiff, Nat.reduceEqDiff, Int.reduceToNat, Int.reduceLT, Int.reduceLE, Int.reduceAdd, Int.reduceSub, Int.reduceEq, reduceIte, Nat.reduceBNe, Int.reducePow, Nat.reducePow, Int.reduceMul, Int.reduceNeg, isB_i, isB_b, isB_y, isBv_i, isBv_b, eqCells_t, TT]
      exact ⟨by omega, by omega, by omega, by omega, by omega, by omega, 14 - (i + 1), by omega, _, ⟨i + 1, rfl, by omega, rfl⟩, .inl ⟨rfl, rfl, rfl, rfl, rfl, rfl, rfl, trivial⟩⟩
    · have d8 : decide ((i : Int) < 8) = false := by simp only [decide_eq_false_iff_not]; omega
      have g2 : (intsC typesA).getD i .any = .any := by
        rw [List.getD_eq_getElem?_getD, List.getElem?_eq_none (by rw [lt, lt']; omega)]; rfl
      simp (maxSteps := 4000000) only [Try.results3, hd, XX, Nat.reduceBEq, Nat.reduceLT, Nat.reduceAdd, Nat.reduceMul, Nat.reduceSub, Nat.reduceLeDiff, Nat.reduceEqDiff, Int.reduceToNat, Int.reduceLT, Int.reduceLE, Int.reduceAdd, Int.reduceSub, Int.reduceEq, reduceIte, Nat.reduceBNe, Int.reducePow, Nat.reducePow, Int.reduceMul, Int.reduceNeg, isB_i, isB_b, isB_y, isBv_i, isBv_b, eqCells_t, TT]
      refine draw_of cx_ok (by kernel_rfl) 400 [0, 1, 2] [(0, true), (1, true), (2, true), (3, true), (4, true), (5, true), (6, true), (7, true), (8, true), (9, true), (10, true), (11, true), (12, true), (13, true), (14, true), (15, true), (16, true), (17, true), (18, true), (19, true), (20, true), (21, true)] (by kernel_rfl) rfl ?_
      simp (maxSteps := 4000000) only [Try.results3, g1, g2, d8, e3, binS_anyL, XX, Nat.reduceBEq, Nat.reduceLT, Nat.reduceAdd, Nat.reduceMul, Nat.reduceSub, Nat.reduceLeDiff, Nat.reduceEqDiff, Int.reduceToNat, Int.reduceLT, Int.reduceLE, Int.reduceAdd, Int.reduceSub, Int.reduceEq, reduceIte, Nat.reduceBNe, Int.reducePow, Nat.reducePow, Int.reduceMul, Int.reduceNeg, isB_i, isB_b, isB_y, isBv_i, isBv_b, eqCells_t, TT]
      exact ⟨by omega, by omega, by omega, by omega, 14 - (i + 1), by omega, _, ⟨i + 1, rfl, by omega, rfl⟩, .inl ⟨rfl, rfl, rfl, rfl, rfl, rfl, rfl, trivial⟩⟩
  obtain rfl : i = 14 := by omega
  simp (maxSteps := 4000000) only [Try.results3, XX, Nat.reduceBEq, Nat.reduceLT, Nat.reduceAdd, Nat.reduceMul, Nat.reduceSub, Nat.reduceLeDiff, Nat.reduceEqDiff, Int.reduceToNat, Int.reduceLT, Int.reduceLE, Int.reduceAdd, Int.reduceSub, Int.reduceEq, reduceIte, Nat.reduceBNe, Int.reducePow, Nat.reducePow, Int.reduceMul, Int.reduceNeg, isB_i, isB_b, isB_y, isBv_i, isBv_b, eqCells_t, TT]
end Go.Proofs.Ytflccffjfnfoiaa.Sx
