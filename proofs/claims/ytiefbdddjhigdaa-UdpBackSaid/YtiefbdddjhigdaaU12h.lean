/- The symbolic executor, at work: the laws of datagrams. No condition. -/
import Derived.Test.YtiefbdddjhigdaaU12g
import Derived.Test.YtiefbdddjhigdaaArg
import Derived.Test.YtiefbdddjhigdaaOw
namespace Go.Proofs.Ytiefbdddjhigdaa.Sx
open Go
set_option linter.unusedSimpArgs false
set_option linter.unusedVariables false
set_option maxRecDepth 10000
set_option maxHeartbeats 2000000

theorem udp_fz {r : Nat → Nat} {n : Nat} {h : List SB} {ok : Nat → Bool} {fz : Bool} {a b : Int} {x y : SC} (hx : frC fz ok r n h x y) : frV fz ok r n h (.agg (udpC a b x)) (.agg (udpC a b y)) :=
  .inr (.inr ⟨_, _, rfl, rfl, .inl ⟨rfl, rfl⟩, .inl ⟨rfl, rfl⟩, hx, trivial⟩)
/-- A window, or none, is read alone. -/
theorem fz_any {r : Nat → Nat} {n : Nat} {h : List SB} {i : Nat} {l sp : List UInt8} {o : Bool} (hb : h[i]? = some (wB o (l ++ sp))) (ho : 0 < l.length + sp.length → o = true) : frC true (fun _ => true) r n h (slB i l sp) (roB l sp (l.length + sp.length)) := by
  by_cases hp : 0 < l.length + sp.length
  · have := ho hp
    subst this
    exact fz_sl hb rfl rfl
  · have h1 : l = [] := List.eq_nil_of_length_eq_zero (by omega)
    have h2 : sp = [] := List.eq_nil_of_length_eq_zero (by omega)
    subst h1; subst h2
    exact .inr ⟨rfl, .inl ⟨_, _, _, rfl, .inr (.inr ⟨i, 0, rfl, .inl ⟨rfl, rfl⟩⟩)⟩⟩

theorem resB_noRo {l : List UInt8} {e : Int} {t : SV} {h' : List SB} (h : resB l e t h') : t.noRo = true ∧ (h'.all fun b => b.cells.all SC.noRo) = true := by
  obtain ⟨sp, o, rfl, rfl, _⟩ := h
  exact ⟨rfl, by simp only [XX, Nat.reduceBEq, Nat.reduceLT, Nat.reduceAdd, Nat.reduceMul, Nat.reduceSub, Nat.reduceLeDiff, Nat.reduceEqDiff, Int.reduceToNat, Int.reduceLT, Int.reduceLE, Int.reduceAdd, Int.reduceSub, Int.reduceEq, reduceIte, Nat.reduceBNe, Int.reducePow, Nat.reducePow, Int.reduceMul, Int.reduceNeg, isB_i, isB_b, isB_y, isBv_i, isBv_b, eqCells_t, TT, ids_bsC, ren_bsC, noRo_bsC, plain_bsC, lt_bsC, ids_byte, ren_byte, noRo_byte, plain_byte, lt_byte]⟩

theorem awake_spec : Spec cx.P 7 [] [] fun s _ => s.plain = true ∧ s = .c (bC true) := by
  have e1 := fun sp c => uencAll_spec 167772162 167772161 68 67 [97, 98] sp c (by omega) (by omega)
  rw [show uencR 167772162 167772161 68 67 [97, 98] = ([0, 68, 0, 67, 0, 10, 137, 238, 97, 98], 0) from rfl] at e1
  have d1 := fun sp c h => udec_spec 167772162 167772161 [0, 68, 0, 67, 0, 10, 137, 238, 97, 98] sp c (by omega) (by omega) h (by simp)
  have d2 := fun sp c h => udec_spec 167772162 167772163 [0, 68, 0, 67, 0, 10, 137, 238, 97, 98] sp c (by omega) (by omega) h (by simp)
  have d3 := fun sp c h => udec_spec 167772162 167772161 [0, 68, 0, 67, 0, 10, 137] sp c (by omega) (by omega) h (by simp)
  rw [show udecR 167772162 167772161 [0, 68, 0, 67, 0, 10, 137, 238, 97, 98] = (68, 67, [97, 98], 0) from rfl] at d1
  rw [show udecR 167772162 167772163 [0, 68, 0, 67, 0, 10, 137, 238, 97, 98] = (0, 0, [], 93) from rfl] at d2
  rw [show udecR 167772162 167772161 [0, 68, 0, 67, 0, 10, 137] = (0, 0, [], 5) from rfl] at d3
  refine spec_of_X cx_ok Try.func7 rfl (by kernel_rfl) (by kernel_rfl) (Nat.le_of_ble_eq_true rfl) 400 11 ?_
  simp (maxSteps := 4000000) only [Try.results7, XX, Nat.reduceBEq, Nat.reduceLT, Nat.reduceAdd, Nat.reduceMul, Nat.reduceSub, Nat.reduceLeDiff, Nat.reduceEqDiff, Int.reduceToNat, Int.reduceLT, Int.reduceLE, Int.reduceAdd, Int.reduceSub, Int.reduceEq, reduceIte, Nat.reduceBNe, Int.reducePow, Nat.reducePow, Int.reduceMul, Int.reduceNeg, isB_i, isB_b, isB_y, isBv_i, isBv_b, eqCells_t, TT]
  simp only [List.replicate_succ, List.replicate_zero, List.flatten_cons, List.flatten_nil, List.cons_append, List.nil_append, List.drop_succ_cons, List.drop_zero, List.length_cons, List.length_nil, Nat.reduceAdd, Nat.reduceLeDiff, reduceIte]
  simp (maxSteps := 4000000) only [Try.results7, XX, Nat.reduceBEq, Nat.reduceLT, Nat.reduceAdd, Nat.reduceMul, Nat.reduceSub, Nat.reduceLeDiff, Nat.reduceEqDiff, Int.reduceToNat, Int.reduceLT, Int.reduceLE, Int.reduceAdd, Int.reduceSub, Int.reduceEq, reduceIte, Nat.reduceBNe, Int.reducePow, Nat.reducePow, Int.reduceMul, Int.reduceNeg, isB_i, isB_b, isB_y, isBv_i, isBv_b, eqCells_t, TT]
  refine call_fz [.c (i32 (167772162 : Nat)), .c (i32 (167772161 : Nat)), .agg (udpC 68 67 (roB [97, 98] [] 2))] (e1 [] 2) (fun t h' h => resB_noRo h) ⟨.inl ⟨rfl, rfl⟩, .inl ⟨rfl, rfl⟩, udp_fz (fz_sl rfl rfl rfl), trivial⟩ ?_
  rintro _ _ ⟨z, o, rfl, rfl, ho⟩
  generalize hLL : [(0 : UInt8), 68, 0, 67, 0, 10, 137, 238, 97, 98] = L at *
  have hl : L.length = 10 := by rw [← hLL]; rfl
  dsimp only at ho ⊢
  obtain rfl := ho (by omega)
  have tk : (bsC (L ++ z)).take L.length = bsC L := by rw [bs_take, List.take_left' rfl]
  have s1 : ((⟨L.toArray⟩ : ByteArray).toList == (⟨#[0, 68, 0, 67, 0, 10, 137, 238, 97, 98]⟩ : ByteArray).toList) = true := by rw [← hLL, str_eq]; rfl
  simp (maxSteps := 4000000) only [Try.results7, ids_bsC, ren_bsC, noRo_bsC, plain_bsC, lt_bsC, ids_byte, ren_byte, noRo_byte, plain_byte, lt_byte, tk, strOf_bsC, s1, XX, Nat.reduceBEq, Nat.reduceLT, Nat.reduceAdd, Nat.reduceMul, Nat.reduceSub, Nat.reduceLeDiff, Nat.reduceEqDiff, Int.reduceToNat, Int.reduceLT, Int.reduceLE, Int.reduceAdd, Int.reduceSub, Int.reduceEq, reduceIte, Nat.reduceBNe, Int.reducePow, Nat.reducePow, Int.reduceMul, Int.reduceNeg, isB_i, isB_b, isB_y, isBv_i, isBv_b, eqCells_t, TT]
  refine ⟨⟨by simp, isByte_bsC L⟩, ?_⟩
  refine call_fz [.c (i32 (167772162 : Nat)), .c (i32 (167772161 : Nat)), .c (roB L z (L.length + z.length))] (d1 z _ (by omega)) (fun t h' h => resU_noRo h) ⟨.inl ⟨rfl, rfl⟩, .inl ⟨rfl, rfl⟩, fz_c (fz_sl rfl rfl rfl), trivial⟩ ?_
  rintro _ _ ⟨z1, o1, rfl, rfl, ho1⟩
  dsimp only at ho1 ⊢
  obtain rfl := ho1 (by simp; omega)
  simp (maxSteps := 4000000) only [Try.results7, ids_bsC, ren_bsC, noRo_bsC, plain_bsC, lt_bsC, ids_byte, ren_byte, noRo_byte, plain_byte, lt_byte, XX, Nat.reduceBEq, Nat.reduceLT, Nat.reduceAdd, Nat.reduceMul, Nat.reduceSub, Nat.reduceLeDiff, Nat.reduceEqDiff, Int.reduceToNat, Int.reduceLT, Int.reduceLE, Int.reduceAdd, Int.reduceSub, Int.reduceEq, reduceIte, Nat.reduceBNe, Int.reducePow, Nat.reducePow, Int.reduceMul, Int.reduceNeg, isB_i, isB_b, isB_y, isBv_i, isBv_b, eqCells_t, TT]
  refine call_fz [.c (i32 (167772162 : Nat)), .c (i32 (167772163 : Nat)), .c (roB L z (L.length + z.length))] (d2 z _ (by omega)) (fun t h' h => resU_noRo h) ⟨.inl ⟨rfl, rfl⟩, .inl ⟨rfl, rfl⟩, fz_c (fz_sl rfl rfl rfl), trivial⟩ ?_
  rintro _ _ ⟨z2, o2, rfl, rfl, ho2⟩
  dsimp only at ho2 ⊢
  simp (maxSteps := 4000000) only [Try.results7, ids_bsC, ren_bsC, noRo_bsC, plain_bsC, lt_bsC, ids_byte, ren_byte, noRo_byte, plain_byte, lt_byte, XX, Nat.reduceBEq, Nat.reduceLT, Nat.reduceAdd, Nat.reduceMul, Nat.reduceSub, Nat.reduceLeDiff, Nat.reduceEqDiff, Int.reduceToNat, Int.reduceLT, Int.reduceLE, Int.reduceAdd, Int.reduceSub, Int.reduceEq, reduceIte, Nat.reduceBNe, Int.reducePow, Nat.reducePow, Int.reduceMul, Int.reduceNeg, isB_i, isB_b, isB_y, isBv_i, isBv_b, eqCells_t, TT]
  refine ⟨by omega, ?_⟩
  refine call_fz [.c (i32 (167772162 : Nat)), .c (i32 (167772161 : Nat)), .c (roB [0, 68, 0, 67, 0, 10, 137] (L.drop 7 ++ z) (L.length + z.length))] (d3 _ _ (by simp; omega)) (fun t h' h => resU_noRo h) ⟨.inl ⟨rfl, rfl⟩, .inl ⟨rfl, rfl⟩, fz_c (fz_sl' rfl rfl rfl (by rw [← hLL]; rfl)), trivial⟩ ?_
  rintro _ _ ⟨z3, o3, rfl, rfl, ho3⟩
  dsimp only at ho3 ⊢
  simp (maxSteps := 4000000) only [Try.results7, ids_bsC, ren_bsC, noRo_bsC, plain_bsC, lt_bsC, ids_byte, ren_byte, noRo_byte, plain_byte, lt_byte, XX, Nat.reduceBEq, Nat.reduceLT, Nat.reduceAdd, Nat.reduceMul, Nat.reduceSub, Nat.reduceLeDiff, Nat.reduceEqDiff, Int.reduceToNat, Int.reduceLT, Int.reduceLE, Int.reduceAdd, Int.reduceSub, Int.reduceEq, reduceIte, Nat.reduceBNe, Int.reducePow, Nat.reducePow, Int.reduceMul, Int.reduceNeg, isB_i, isB_b, isB_y, isBv_i, isBv_b, eqCells_t, TT]
  refine call_plain (uencZ_spec 1 2 68 0 (by omega) (by omega) noC rfl) rfl ?_
  rintro _ rfl
  have w : strOf [byteC 97, byteC 98] = ⟨[97, 98].toArray⟩ := strOf_bsC [97, 98]
  have s2 : ((⟨[(97 : UInt8), 98].toArray⟩ : ByteArray).toList == (⟨#[97, 98]⟩ : ByteArray).toList) = true := by rw [str_eq]; rfl
  simp (maxSteps := 4000000) only [Try.results7, w, s2, isByte_byteC, List.mem_cons, List.not_mem_nil, forall_eq_or_imp, XX, Nat.reduceBEq, Nat.reduceLT, Nat.reduceAdd, Nat.reduceMul, Nat.reduceSub, Nat.reduceLeDiff, Nat.reduceEqDiff, Int.reduceToNat, Int.reduceLT, Int.reduceLE, Int.reduceAdd, Int.reduceSub, Int.reduceEq, reduceIte, Nat.reduceBNe, Int.reducePow, Nat.reducePow, Int.reduceMul, Int.reduceNeg, isB_i, isB_b, isB_y, isBv_i, isBv_b, eqCells_t, TT]
  intro a h
  subst h
  exact isByte_byteC 98

theorem RTy_u32 {B n : Nat} {x : List RC} (h : RTy T B (n + 1) 23 x) : ∃ z : Nat, x = [.v (.int .u32 z)] ∧ z < 4294967296 := by
  obtain ⟨z, rfl, h1, h2⟩ := RTy_int T_23 h
  simp [IntKind.min, IntKind.max, IntKind.bits, IntKind.signed] at h1 h2
  exact ⟨z.toNat, by rw [Int.toNat_of_nonneg h1], by omega⟩

theorem RTy_udp {B n : Nat} {x : List RC} (h : RTy T B (n + 3) 26 x) : ∃ (a b : Int) (l sp : List UInt8) (c : Nat), svOf T 26 x = .agg (udpC a b (roB l sp c)) ∧ l.length ≤ c ∧ c = l.length + sp.length ∧ c ≤ maxLen ∧ c ≤ B := by
  obtain ⟨parts, rfl, g⟩ := RTy_struct T_26 h
  obtain ⟨x1, xs1, rfl, h1, g1⟩ := RTyL_cons g
  obtain ⟨x2, xs2, rfl, h2, g2⟩ := RTyL_cons g1
  obtain ⟨x3, xs3, rfl, h3, g3⟩ := RTyL_cons g2
  obtain rfl := RTyL_nil g3
  obtain ⟨a, rfl, ha⟩ := RTy_int T_3 h1
  obtain ⟨b, rfl, hb⟩ := RTy_int T_3 h2
  obtain ⟨l, sp, c, rfl, hl⟩ := RTy_bytes h3
  exact ⟨a, b, l, sp, c, rfl, hl⟩

theorem udpNames_walk : ∀ css, RTyL (RTy T reachBytes DEPTH) [] css → Spec Try.prog 3 (svs T [] css) [] fun r _ => r = .c (.v (.bool true)) := by
  intro css h
  obtain rfl := RTyL_nil h
  simp only [svs]
  refine spec_of_X cx_ok Try.func3 rfl (by kernel_rfl) (by kernel_rfl) (Nat.le_of_ble_eq_true rfl) 400 2 ?_
  simp (maxSteps := 4000000) only [Try.results3, XX, Nat.reduceBEq, Nat.reduceLT, Nat.reduceAdd, Nat.reduceMul, Nat.reduceSub, Nat.reduceLeDiff, Nat.reduceEqDiff, Int.reduceToNat, Int.reduceLT, Int.reduceLE, Int.reduceAdd, Int.reduceSub, Int.reduceEq, reduceIte, Nat.reduceBNe, Int.reducePow, Nat.reducePow, Int.reduceMul, Int.reduceNeg, isB_i, isB_b, isB_y, isBv_i, isBv_b, eqCells_t, TT]
  refine call_plain (awake_spec) rfl ?_
  rintro _ rfl
  simp (maxSteps := 4000000) only [Try.results3, XX, Nat.reduceBEq, Nat.reduceLT, Nat.reduceAdd, Nat.reduceMul, Nat.reduceSub, Nat.reduceLeDiff, Nat.reduceEqDiff, Int.reduceToNat, Int.reduceLT, Int.reduceLE, Int.reduceAdd, Int.reduceSub, Int.reduceEq, reduceIte, Nat.reduceBNe, Int.reducePow, Nat.reducePow, Int.reduceMul, Int.reduceNeg, isB_i, isB_b, isB_y, isBv_i, isBv_b, eqCells_t, TT]

theorem lent_noRo {l : List UInt8} {n c : Nat} {t : SV} {h' : List SB} (h : t = .c (.sl 0 0 n c) ∧ h' = [wB true l]) : t.noRo = true ∧ (h'.all fun b => b.cells.all SC.noRo) = true := by
  obtain ⟨rfl, rfl⟩ := h
  exact ⟨rfl, by simp only [XX, Nat.reduceBEq, Nat.reduceLT, Nat.reduceAdd, Nat.reduceMul, Nat.reduceSub, Nat.reduceLeDiff, Nat.reduceEqDiff, Int.reduceToNat, Int.reduceLT, Int.reduceLE, Int.reduceAdd, Int.reduceSub, Int.reduceEq, reduceIte, Nat.reduceBNe, Int.reducePow, Nat.reducePow, Int.reduceMul, Int.reduceNeg, isB_i, isB_b, isB_y, isBv_i, isBv_b, eqCells_t, TT, ids_bsC, ren_bsC, noRo_bsC, plain_bsC, lt_bsC, ids_byte, ren_byte, noRo_byte, plain_byte, lt_byte]⟩

theorem udpEncodes_walk : ∀ css, RTyL (RTy T reachBytes DEPTH) [23, 23, 26, 26] css → Spec Try.prog 4 (svs T [23, 23, 26, 26] css) [] fun r _ => r = .c (.v (.bool true)) := by
  intro css h
  obtain ⟨x1, xs1, rfl, h1, g1⟩ := RTyL_cons h
  obtain ⟨x2, xs2, rfl, h2, g2⟩ := RTyL_cons g1
  obtain ⟨x3, xs3, rfl, h3, g3⟩ := RTyL_cons g2
  obtain ⟨x4, xs4, rfl, h4, g4⟩ := RTyL_cons g3
  obtain rfl := RTyL_nil g4
  obtain ⟨src, rfl, hsrc⟩ := RTy_u32 h1
  obtain ⟨dst, rfl, hdst⟩ := RTy_u32 h2
  obtain ⟨a, b, l, sp, c, e3, hl1, hl2, hl3, hl4⟩ := RTy_udp h3
  obtain ⟨a', b', l', sp', c', e4, hl1', hl2', hl3', hl4'⟩ := RTy_udp h4
  have e1 : svOf T 23 [.v (.int .u32 src)] = .c (i32 src) := rfl
  have e2 : svOf T 23 [.v (.int .u32 dst)] = .c (i32 dst) := rfl
  simp only [svs, e1, e2, e3, e4]
  clear h1 h2 h3 h4 g1 g2 g3 g4 h e1 e2 e3 e4
  unfold reachBytes at hl4 hl4'
  refine spec_of_X cx_ok Try.func4 rfl (by kernel_rfl) (by kernel_rfl) (Nat.le_of_ble_eq_true rfl) 400 25 ?_
  simp (maxSteps := 4000000) only [Try.results4, XX, Nat.reduceBEq, Nat.reduceLT, Nat.reduceAdd, Nat.reduceMul, Nat.reduceSub, Nat.reduceLeDiff, Nat.reduceEqDiff, Int.reduceToNat, Int.reduceLT, Int.reduceLE, Int.reduceAdd, Int.reduceSub, Int.reduceEq, reduceIte, Nat.reduceBNe, Int.reducePow, Nat.reducePow, Int.reduceMul, Int.reduceNeg, isB_i, isB_b, isB_y, isBv_i, isBv_b, eqCells_t, TT]
  refine call_plain (awake_spec) rfl ?_
  rintro _ rfl
  simp (maxSteps := 4000000) only [Try.results4, XX, Nat.reduceBEq, Nat.reduceLT, Nat.reduceAdd, Nat.reduceMul, Nat.reduceSub, Nat.reduceLeDiff, Nat.reduceEqDiff, Int.reduceToNat, Int.reduceLT, Int.reduceLE, Int.reduceAdd, Int.reduceSub, Int.reduceEq, reduceIte, Nat.reduceBNe, Int.reducePow, Nat.reducePow, Int.reduceMul, Int.reduceNeg, isB_i, isB_b, isB_y, isBv_i, isBv_b, eqCells_t, TT]
  have hF := ruencAll_spec src dst a b l sp c hsrc hdst
  have hG := ruencAll_spec dst src a' b' l' sp' c' hdst hsrc
  have hA := fun x y => uencAll_spec src dst a b l x y hsrc hdst
  have hB := fun x y => uencAll_spec dst src a' b' l' x y hdst hsrc
  have n1 := uencR_len src dst a b l
  have n2 := uencR_len dst src a' b' l'
  generalize (uencR src dst a b l).1 = L at *
  generalize (uencR src dst a b l).2 = E at *
  generalize (uencR dst src a' b' l').1 = L' at *
  generalize (uencR dst src a' b' l').2 = E' at *
  refine call_fz [.c (i32 src), .c (i32 dst), .agg (udpC a b (roB l sp c))] hF (fun t h' h => resB_noRo h) ⟨.inl ⟨rfl, rfl⟩, .inl ⟨rfl, rfl⟩, .inl ⟨rfl, rfl⟩, trivial⟩ ?_
  rintro _ _ ⟨z1, o1, rfl, rfl, ho1⟩
  simp (maxSteps := 4000000) only [Try.results4, ids_bsC, ren_bsC, noRo_bsC, plain_bsC, lt_bsC, ids_byte, ren_byte, noRo_byte, plain_byte, lt_byte, XX, Nat.reduceBEq, Nat.reduceLT, Nat.reduceAdd, Nat.reduceMul, Nat.reduceSub, Nat.reduceLeDiff, Nat.reduceEqDiff, Int.reduceToNat, Int.reduceLT, Int.reduceLE, Int.reduceAdd, Int.reduceSub, Int.reduceEq, reduceIte, Nat.reduceBNe, Int.reducePow, Nat.reducePow, Int.reduceMul, Int.reduceNeg, isB_i, isB_b, isB_y, isBv_i, isBv_b, eqCells_t, TT]
  refine call_fz [.c (i32 dst), .c (i32 src), .agg (udpC a' b' (roB l' sp' c'))] hG (fun t h' h => resB_noRo h) ⟨.inl ⟨rfl, rfl⟩, .inl ⟨rfl, rfl⟩, .inl ⟨rfl, rfl⟩, trivial⟩ ?_
  rintro _ _ ⟨z2, o2, rfl, rfl, ho2⟩
  simp (maxSteps := 4000000) only [Try.results4, ids_bsC, ren_bsC, noRo_bsC, plain_bsC, lt_bsC, ids_byte, ren_byte, noRo_byte, plain_byte, lt_byte, XX, Nat.reduceBEq, Nat.reduceLT, Nat.reduceAdd, Nat.reduceMul, Nat.reduceSub, Nat.reduceLeDiff, Nat.reduceEqDiff, Int.reduceToNat, Int.reduceLT, Int.reduceLE, Int.reduceAdd, Int.reduceSub, Int.reduceEq, reduceIte, Nat.reduceBNe, Int.reducePow, Nat.reducePow, Int.reduceMul, Int.reduceNeg, isB_i, isB_b, isB_y, isBv_i, isBv_b, eqCells_t, TT]
  refine call_fz [.c (roB l sp c)] (lent_spec l sp c (by omega)) (fun t h' h => lent_noRo h) ⟨.inl ⟨rfl, rfl⟩, trivial⟩ ?_
  rintro _ _ ⟨rfl, rfl⟩
  simp (maxSteps := 4000000) only [Try.results4, ids_bsC, ren_bsC, noRo_bsC, plain_bsC, lt_bsC, ids_byte, ren_byte, noRo_byte, plain_byte, lt_byte, XX, Nat.reduceBEq, Nat.reduceLT, Nat.reduceAdd, Nat.reduceMul, Nat.reduceSub, Nat.reduceLeDiff, Nat.reduceEqDiff, Int.reduceToNat, Int.reduceLT, Int.reduceLE, Int.reduceAdd, Int.reduceSub, Int.reduceEq, reduceIte, Nat.reduceBNe, Int.reducePow, Nat.reducePow, Int.reduceMul, Int.reduceNeg, isB_i, isB_b, isB_y, isBv_i, isBv_b, eqCells_t, TT]
  refine call_fz [.c (roB l' sp' c')] (lent_spec l' sp' c' (by omega)) (fun t h' h => lent_noRo h) ⟨.inl ⟨rfl, rfl⟩, trivial⟩ ?_
  rintro _ _ ⟨rfl, rfl⟩
  simp (maxSteps := 4000000) only [Try.results4, ids_bsC, ren_bsC, noRo_bsC, plain_bsC, lt_bsC, ids_byte, ren_byte, noRo_byte, plain_byte, lt_byte, XX, Nat.reduceBEq, Nat.reduceLT, Nat.reduceAdd, Nat.reduceMul, Nat.reduceSub, Nat.reduceLeDiff, Nat.reduceEqDiff, Int.reduceToNat, Int.reduceLT, Int.reduceLE, Int.reduceAdd, Int.reduceSub, Int.reduceEq, reduceIte, Nat.reduceBNe, Int.reducePow, Nat.reducePow, Int.reduceMul, Int.reduceNeg, isB_i, isB_b, isB_y, isBv_i, isBv_b, eqCells_t, TT]
  have hx : ∀ {r : Nat → Nat} {n : Nat} {h : List SB} {i : Nat}, h[i]? = some (wB true (l ++ [71, 72])) → frC true (fun _ => true) r n h (.sl i 0 l.length (l.length + 2)) (roB l [71, 72] (l.length + 2)) := fun hb => fz_sl hb rfl rfl
  have hy : ∀ {r : Nat → Nat} {n : Nat} {h : List SB} {i : Nat}, h[i]? = some (wB true (l' ++ [71, 72])) → frC true (fun _ => true) r n h (.sl i 0 l'.length (l'.length + 2)) (roB l' [71, 72] (l'.length + 2)) := fun hb => fz_sl hb rfl rfl
  refine call_fz [.c (i32 src), .c (i32 dst), .agg (udpC a b (roB l [71, 72] (l.length + 2)))] (hA _ _) (fun t h' h => resB_noRo h) ⟨.inl ⟨rfl, rfl⟩, .inl ⟨rfl, rfl⟩, udp_fz (hx rfl), trivial⟩ ?_
  rintro _ _ ⟨z3, o3, rfl, rfl, ho3⟩
  simp (maxSteps := 4000000) only [Try.results4, ids_bsC, ren_bsC, noRo_bsC, plain_bsC, lt_bsC, ids_byte, ren_byte, noRo_byte, plain_byte, lt_byte, XX, Nat.reduceBEq, Nat.reduceLT, Nat.reduceAdd, Nat.reduceMul, Nat.reduceSub, Nat.reduceLeDiff, Nat.reduceEqDiff, Int.reduceToNat, Int.reduceLT, Int.reduceLE, Int.reduceAdd, Int.reduceSub, Int.reduceEq, reduceIte, Nat.reduceBNe, Int.reducePow, Nat.reducePow, Int.reduceMul, Int.reduceNeg, isB_i, isB_b, isB_y, isBv_i, isBv_b, eqCells_t, TT]
  refine call_fz [.c (i32 dst), .c (i32 src), .agg (udpC a' b' (roB l' [71, 72] (l'.length + 2)))] (hB _ _) (fun t h' h => resB_noRo h) ⟨.inl ⟨rfl, rfl⟩, .inl ⟨rfl, rfl⟩, udp_fz (hy rfl), trivial⟩ ?_
  rintro _ _ ⟨z4, o4, rfl, rfl, ho4⟩
  simp (maxSteps := 4000000) only [Try.results4, ids_bsC, ren_bsC, noRo_bsC, plain_bsC, lt_bsC, ids_byte, ren_byte, noRo_byte, plain_byte, lt_byte, XX, Nat.reduceBEq, Nat.reduceLT, Nat.reduceAdd, Nat.reduceMul, Nat.reduceSub, Nat.reduceLeDiff, Nat.reduceEqDiff, Int.reduceToNat, Int.reduceLT, Int.reduceLE, Int.reduceAdd, Int.reduceSub, Int.reduceEq, reduceIte, Nat.reduceBNe, Int.reducePow, Nat.reducePow, Int.reduceMul, Int.reduceNeg, isB_i, isB_b, isB_y, isBv_i, isBv_b, eqCells_t, TT]
  refine call_fz [.c (i32 src), .c (i32 dst), .agg (udpC a b (roB l [71, 72] (l.length + 2)))] (hA _ _) (fun t h' h => resB_noRo h) ⟨.inl ⟨rfl, rfl⟩, .inl ⟨rfl, rfl⟩, udp_fz (hx rfl), trivial⟩ ?_
  rintro _ _ ⟨z5, o5, rfl, rfl, ho5⟩
  simp (maxSteps := 4000000) only [Try.results4, ids_bsC, ren_bsC, noRo_bsC, plain_bsC, lt_bsC, ids_byte, ren_byte, noRo_byte, plain_byte, lt_byte, XX, Nat.reduceBEq, Nat.reduceLT, Nat.reduceAdd, Nat.reduceMul, Nat.reduceSub, Nat.reduceLeDiff, Nat.reduceEqDiff, Int.reduceToNat, Int.reduceLT, Int.reduceLE, Int.reduceAdd, Int.reduceSub, Int.reduceEq, reduceIte, Nat.reduceBNe, Int.reducePow, Nat.reducePow, Int.reduceMul, Int.reduceNeg, isB_i, isB_b, isB_y, isBv_i, isBv_b, eqCells_t, TT]
  refine call_frame (asLent_spec l sp c (by omega)) [5] rfl rfl ?_ rfl ?_ ?_
  · simp only [XX, Nat.reduceBEq, Nat.reduceLT, Nat.reduceAdd, Nat.reduceMul, Nat.reduceSub, Nat.reduceLeDiff, Nat.reduceEqDiff, Int.reduceToNat, Int.reduceLT, Int.reduceLE, Int.reduceAdd, Int.reduceSub, Int.reduceEq, reduceIte, Nat.reduceBNe, Int.reducePow, Nat.reducePow, Int.reduceMul, Int.reduceNeg, isB_i, isB_b, isB_y, isBv_i, isBv_b, eqCells_t, TT, preOk, ids_bsC, ren_bsC, noRo_bsC, plain_bsC, lt_bsC, ids_byte, ren_byte, noRo_byte, plain_byte, lt_byte]
  · simp only [XX, Nat.reduceBEq, Nat.reduceLT, Nat.reduceAdd, Nat.reduceMul, Nat.reduceSub, Nat.reduceLeDiff, Nat.reduceEqDiff, Int.reduceToNat, Int.reduceLT, Int.reduceLE, Int.reduceAdd, Int.reduceSub, Int.reduceEq, reduceIte, Nat.reduceBNe, Int.reducePow, Nat.reducePow, Int.reduceMul, Int.reduceNeg, isB_i, isB_b, isB_y, isBv_i, isBv_b, eqCells_t, TT, ids_bsC, ren_bsC, noRo_bsC, plain_bsC, lt_bsC, ids_byte, ren_byte, noRo_byte, plain_byte, lt_byte]
  rintro _ _ ⟨rfl, rfl⟩
  simp (maxSteps := 4000000) only [Try.results4, ids_bsC, ren_bsC, noRo_bsC, plain_bsC, lt_bsC, ids_byte, ren_byte, noRo_byte, plain_byte, lt_byte, XX, Nat.reduceBEq, Nat.reduceLT, Nat.reduceAdd, Nat.reduceMul, Nat.reduceSub, Nat.reduceLeDiff, Nat.reduceEqDiff, Int.reduceToNat, Int.reduceLT, Int.reduceLE, Int.reduceAdd, Int.reduceSub, Int.reduceEq, reduceIte, Nat.reduceBNe, Int.reducePow, Nat.reducePow, Int.reduceMul, Int.reduceNeg, isB_i, isB_b, isB_y, isBv_i, isBv_b, eqCells_t, TT]
  refine call_frame (asLent_spec l' sp' c' (by omega)) [7] rfl rfl ?_ rfl ?_ ?_
  · simp only [XX, Nat.reduceBEq, Nat.reduceLT, Nat.reduceAdd, Nat.reduceMul, Nat.reduceSub, Nat.reduceLeDiff, Nat.reduceEqDiff, Int.reduceToNat, Int.reduceLT, Int.reduceLE, Int.reduceAdd, Int.reduceSub, Int.reduceEq, reduceIte, Nat.reduceBNe, Int.reducePow, Nat.reducePow, Int.reduceMul, Int.reduceNeg, isB_i, isB_b, isB_y, isBv_i, isBv_b, eqCells_t, TT, preOk, ids_bsC, ren_bsC, noRo_bsC, plain_bsC, lt_bsC, ids_byte, ren_byte, noRo_byte, plain_byte, lt_byte]
  · simp only [XX, Nat.reduceBEq, Nat.reduceLT, Nat.reduceAdd, Nat.reduceMul, Nat.reduceSub, Nat.reduceLeDiff, Nat.reduceEqDiff, Int.reduceToNat, Int.reduceLT, Int.reduceLE, Int.reduceAdd, Int.reduceSub, Int.reduceEq, reduceIte, Nat.reduceBNe, Int.reducePow, Nat.reducePow, Int.reduceMul, Int.reduceNeg, isB_i, isB_b, isB_y, isBv_i, isBv_b, eqCells_t, TT, ids_bsC, ren_bsC, noRo_bsC, plain_bsC, lt_bsC, ids_byte, ren_byte, noRo_byte, plain_byte, lt_byte]
  rintro _ _ ⟨rfl, rfl⟩
  have tk : ∀ a b : List UInt8, (bsC (a ++ b)).take a.length = bsC a := fun a b => by rw [bs_take, List.take_left' rfl]
  simp (maxSteps := 4000000) only [Try.results4, ids_bsC, ren_bsC, noRo_bsC, plain_bsC, lt_bsC, ids_byte, ren_byte, noRo_byte, plain_byte, lt_byte, tk, strOf_bsC, str_eq, XX, Nat.reduceBEq, Nat.reduceLT, Nat.reduceAdd, Nat.reduceMul, Nat.reduceSub, Nat.reduceLeDiff, Nat.reduceEqDiff, Int.reduceToNat, Int.reduceLT, Int.reduceLE, Int.reduceAdd, Int.reduceSub, Int.reduceEq, reduceIte, Nat.reduceBNe, Int.reducePow, Nat.reducePow, Int.reduceMul, Int.reduceNeg, isB_i, isB_b, isB_y, isBv_i, isBv_b, eqCells_t, TT]
  have q : ∀ a b : List UInt8, a.length ≤ (bsC (a ++ b)).length ∧ ∀ c ∈ bsC a, isByte c = true := fun a b => ⟨by simp, isByte_bsC a⟩
  refine ⟨q _ _, q _ _, q _ _, q _ _, q _ _, q _ _, ?_⟩
  generalize hhp : ([_, _, _, _, _, _, _, _, _, _, _, _] : List SB) = hp
  have w1 : hp[8]? = some (wB o3 (L ++ z3)) := by rw [← hhp]; rfl
  have w2 : hp[9]? = some (wB o4 (L' ++ z4)) := by rw [← hhp]; rfl
  have w3 : hp[10]? = some (wB o5 (L ++ z5)) := by rw [← hhp]; rfl
  have wb : hp[11]? = some (bookB nilC nilC) := by rw [← hhp]; rfl
  clear hhp
  refine call_is (take0_spec hp 11 8 L z3 o3 _ (by omega) wb w1) ?_
  rintro _ h1 ⟨rfl, iL, cL, iW, cW, B1, b1, l1, m1⟩
  simp (maxSteps := 4000000) only [Try.results4, XX, Nat.reduceBEq, Nat.reduceLT, Nat.reduceAdd, Nat.reduceMul, Nat.reduceSub, Nat.reduceLeDiff, Nat.reduceEqDiff, Int.reduceToNat, Int.reduceLT, Int.reduceLE, Int.reduceAdd, Int.reduceSub, Int.reduceEq, reduceIte, Nat.reduceBNe, Int.reducePow, Nat.reducePow, Int.reduceMul, Int.reduceNeg, isB_i, isB_b, isB_y, isBv_i, isBv_b, eqCells_t, TT]
  have lt9 := lt_of w2
  have lt10 := lt_of w3
  refine call_is (take_spec h1 11 9 _ _ _ _ _ _ L' z4 o4 _ (by omega) B1 (by simp) ((b1.2 9 lt9 (by decide)).trans w2)) ?_
  rintro _ h2 ⟨rfl, iL2, cL2, iW2, cW2, B2, b2, l2, m2⟩
  simp (maxSteps := 4000000) only [Try.results4, XX, Nat.reduceBEq, Nat.reduceLT, Nat.reduceAdd, Nat.reduceMul, Nat.reduceSub, Nat.reduceLeDiff, Nat.reduceEqDiff, Int.reduceToNat, Int.reduceLT, Int.reduceLE, Int.reduceAdd, Int.reduceSub, Int.reduceEq, reduceIte, Nat.reduceBNe, Int.reducePow, Nat.reducePow, Int.reduceMul, Int.reduceNeg, isB_i, isB_b, isB_y, isBv_i, isBv_b, eqCells_t, TT]
  refine call_is (take_spec h2 11 10 _ _ _ _ _ _ L z5 o5 _ (by omega) B2 (by simp) (((b2.2 10 (by have := b1.1; omega) (by rintro (h | h | h) <;> omega)).trans (b1.2 10 lt10 (by decide))).trans w3)) ?_
  rintro _ h3 ⟨rfl, iL3, cL3, iW3, cW3, B3, b3, l3, m3⟩
  simp (maxSteps := 4000000) only [Try.results4, XX, Nat.reduceBEq, Nat.reduceLT, Nat.reduceAdd, Nat.reduceMul, Nat.reduceSub, Nat.reduceLeDiff, Nat.reduceEqDiff, Int.reduceToNat, Int.reduceLT, Int.reduceLE, Int.reduceAdd, Int.reduceSub, Int.reduceEq, reduceIte, Nat.reduceBNe, Int.reducePow, Nat.reducePow, Int.reduceMul, Int.reduceNeg, isB_i, isB_b, isB_y, isBv_i, isBv_b, eqCells_t, TT]
  refine call_is (owned_spec h3 11 [⟨8, L, z3, o3⟩, ⟨9, L', z4, o4⟩, ⟨10, L, z5, o5⟩] iL3 cL3 iW3 cW3 B3 (owns3 (lt_of wb) b1 l1 m1 b2 l2 m2 b3 w1 w2 w3 (by decide) (by decide) (by decide) ho3 ho4 ho5 (by omega) (by omega) (by omega) (by decide) (by decide) (by decide)) (by simp)) ?_
  rintro _ _ rfl
  simp (maxSteps := 4000000) only [Try.results4, XX, Nat.reduceBEq, Nat.reduceLT, Nat.reduceAdd, Nat.reduceMul, Nat.reduceSub, Nat.reduceLeDiff, Nat.reduceEqDiff, Int.reduceToNat, Int.reduceLT, Int.reduceLE, Int.reduceAdd, Int.reduceSub, Int.reduceEq, reduceIte, Nat.reduceBNe, Int.reducePow, Nat.reducePow, Int.reduceMul, Int.reduceNeg, isB_i, isB_b, isB_y, isBv_i, isBv_b, eqCells_t, TT]

end Go.Proofs.Ytiefbdddjhigdaa.Sx
