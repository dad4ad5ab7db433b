/- The symbolic executor, at work: the document's card, its calls, over any heap. No condition. -/
import Derived.Test.YtdfhmpheepobnaaC4g
import Derived.Test.YtdfhmpheepobnaaRs
namespace Go.Proofs.Ytdfhmpheepobnaa.Sx
open Go
set_option linter.unusedSimpArgs false
set_option linter.unusedVariables false
set_option maxRecDepth 10000
set_option maxHeartbeats 2000000

theorem dsC_split {l : List (Bool × SC)} {i : Nat} {q : Bool × SC} (h : l[i]? = some q) : dsC l = dsC (l.take i) ++ ([bC q.1, q.2] ++ dsC (l.drop (i + 1))) := by
  obtain ⟨h1, rfl⟩ := List.getElem?_eq_some_iff.1 h
  conv => lhs; rw [← List.take_append_drop i l, List.drop_eq_getElem_cons h1]
  rw [dsC_app]
  rfl
theorem dsC_tl {l : List (Bool × SC)} {i : Nat} {q : Bool × SC} (h : l[i]? = some q) : (dsC (l.take i)).length = i * 2 := by
  obtain ⟨h1, _⟩ := List.getElem?_eq_some_iff.1 h
  rw [dsC_len, List.length_take, Nat.min_eq_left (by omega)]
theorem dsC_0 {l : List (Bool × SC)} {i : Nat} {q : Bool × SC} (h : l[i]? = some q) : (dsC l).getD (i * 2) .any = bC q.1 := by
  rw [dsC_split h, List.getD_eq_getElem?_getD, List.getElem?_append_right (by rw [dsC_tl h]; omega), dsC_tl h, Nat.sub_self]
  rfl
theorem dsC_1 {l : List (Bool × SC)} {i : Nat} {q : Bool × SC} (h : l[i]? = some q) : (dsC l).getD (i * 2 + 1) .any = q.2 := by
  rw [dsC_split h, List.getD_eq_getElem?_getD, List.getElem?_append_right (by rw [dsC_tl h]; omega), dsC_tl h, show i * 2 + 1 - i * 2 = 1 by omega]
  rfl
theorem dsC_set {l : List (Bool × SC)} {i : Nat} {q : Bool × SC} (q' : Bool × SC) (h : l[i]? = some q) : (dsC l).take (i * 2) ++ [bC q'.1, q'.2] ++ (dsC l).drop (i * 2 + 2) = dsC (l.set i q') := by
  obtain ⟨h1, _⟩ := List.getElem?_eq_some_iff.1 h
  rw [List.set_eq_take_append_cons_drop, if_pos h1, dsC_app, dsC_split h, seg (x := [bC q.1, q.2]) (j := i * 2 + 2) (dsC_tl h) rfl]
  rfl

theorem fz_nil4 {ok : Nat → Bool} {r : Nat → Nat} {n : Nat} {h : List SB} {sp : List UInt8} : frC true ok r n h (.v (.slice none 0 0)) (roB [] sp 0) :=
  .inr ⟨rfl, .inl ⟨_, _, _, rfl, .inr (.inl ⟨rfl, rfl, rfl⟩)⟩⟩
theorem fz_any4 {r : Nat → Nat} {n : Nat} {h : List SB} {i : Nat} {l sp : List UInt8} {o : Bool} (hb : h[i]? = some (wB o (l ++ sp))) (ho : 0 < l.length + sp.length → o = true) : frC true (fun _ => true) r n h (slB i l sp) (roB l sp (l.length + sp.length)) := by
  by_cases h0 : 0 < l.length + sp.length
  · obtain rfl := ho h0
    exact fz_sl hb rfl rfl
  · exact .inr ⟨rfl, .inl ⟨_, _, _, rfl, .inr (.inr ⟨i, 0, rfl, .inl ⟨by omega, by omega⟩⟩)⟩⟩
/-- A slice of bytes in a heap, not in a window of 'S'. -/
def DX (S : Nat → Prop) (H : List SB) (x : SC) (d : List UInt8) : Prop := (x = .v (.slice none 0 0) ∧ d = []) ∨ ∃ w z o, x = slB w d z ∧ H[w]? = some (wB o (d ++ z)) ∧ (0 < d.length + z.length → o = true) ∧ ¬ S w
theorem DX.app {S : Nat → Prop} {H : List SB} {x : SC} {d : List UInt8} (h : DX S H x d) (X : List SB) : DX S (H ++ X) x d := by
  rcases h with h | ⟨w, z, o, h1, h2, h3⟩
  · exact .inl h
  · exact .inr ⟨w, z, o, h1, by rw [List.getElem?_append_left (lt_of h2)]; exact h2, h3⟩
theorem DX.grow {S S' : Nat → Prop} {H : List SB} {x : SC} {d : List UInt8} (h : DX S H x d) (hs : ∀ i, S' i → S i ∨ H.length ≤ i) : DX S' H x d := by
  rcases h with h | ⟨w, z, o, h1, h2, h3, h4⟩
  · exact .inl h
  · exact .inr ⟨w, z, o, h1, h2, h3, fun hw => by have := lt_of h2; rcases hs w hw with h | h; exact h4 h; omega⟩
theorem DX.fz {S : Nat → Prop} {H : List SB} {x : SC} {d : List UInt8} (h : DX S H x d) {r : Nat → Nat} {n : Nat} : ∃ sp c, d.length ≤ c ∧ frC true (fun _ => true) r n H x (roB d sp c) := by
  rcases h with ⟨rfl, rfl⟩ | ⟨w, z, o, rfl, h2, h3, _⟩
  · exact ⟨[], 0, Nat.le_refl _, fz_nil4⟩
  · exact ⟨z, d.length + z.length, by omega, fz_any4 h2 h3⟩

/-- The document's card in a heap. -/
structure RC4 (H : List SB) (c r t : Nat) (lr lt : List (Bool × SC)) (nr nt cr ct : Nat) (ar at' : Nat) (c1 c2 c3 : Int) : Prop where
  hc : H[c]? = some (rcB (.sl r 0 nr cr) (.sl t 0 nt ct) ar at' c1 c2 c3)
  hr : H[r]? = some (dB true lr)
  ht : H[t]? = some (dB true lt)
  ne : c ≠ r ∧ c ≠ t ∧ r ≠ t
  lr : nr ≤ lr.length
  lt : nt ≤ lt.length
  n1 : 0 < nr ∧ nr ≤ 64
  n2 : 0 < nt ∧ nt ≤ 64
  ar : ar < nr
  at' : at' < nt

theorem dropAt4 {l sp : List UInt8} {j : Nat} (h : j < l.length) : ∃ R, (bsR (l ++ sp)).drop j = .v (.int .u8 (l.getD j 0).toNat) :: R := by
  refine ⟨(bsR (l ++ sp)).drop (j + 1), ?_⟩
  rw [List.drop_eq_getElem_cons (by simp; omega)]
  simp only [List.getElem_map, byteR]
  rw [List.getElem_append_left (by omega), List.getD_eq_getElem?_getD, List.getElem?_eq_getElem (by omega)]
  rfl

theorem copied_raw (m sp : List UInt8) (c : Nat) (hl : m.length ≤ 140737488355328) : Spec cx.P 40 [.c (roB m sp c)] [] fun s h' => ∃ w z' o, s = .c (slB w m z') ∧ Buf h' w o m z' := by
  refine spec_of_X cx_ok Try.func40 rfl (by kernel_rfl) (by kernel_rfl) (Nat.le_of_ble_eq_true rfl) 400 5 ?_
  simp (maxSteps := 4000000) only [Try.results40, XX, Nat.reduceBEq, Nat.reduceLT, Nat.reduceAdd, Nat.reduceMul, Nat.reduceSub, Nat.reduceLeDiff, Nat.reduceEqDiff, Int.reduceToNat, Int.reduceLT, Int.reduceLE, Int.reduceAdd, Int.reduceSub, Int.reduceEq, reduceIte, Nat.reduceBNe, Int.reducePow, Nat.reducePow, Int.reduceMul, Int.reduceNeg, isB_i, isB_b, isB_y, isBv_i, isBv_b, eqCells_t, TT]
  refine loop_any cx_ok 400 (fun μ σ => ∃ (i : Nat) (H : List SB) (w : Nat) (o : Bool) (z' : List UInt8), μ = m.length - i ∧ i ≤ m.length ∧ Buf H w o (m.take i) z' ∧
      σ = ⟨⟨5, 0⟩, [(0, .c (roB m sp c)), (3, .c (.sl w 0 i (i + z'.length))), (4, .c (i64 i))], H⟩) m.length
    ⟨⟨5, 0⟩, [(0, .c (roB m sp c)), (3, .c (.sl 0 0 0 0)), (4, .c (i64 (0 : Nat)))], [wB false []]⟩ ⟨0, _, 0, false, [], rfl, Nat.zero_le _, by rw [List.take_zero]; exact ⟨rfl, fun h => absurd h (by simp)⟩, rfl⟩
    (.inr ⟨[none], rfl, rfl, by simp only [XX, Nat.reduceBEq, Nat.reduceLT, Nat.reduceAdd, Nat.reduceMul, Nat.reduceSub, Nat.reduceLeDiff, Nat.reduceEqDiff, Int.reduceToNat, Int.reduceLT, Int.reduceLE, Int.reduceAdd, Int.reduceSub, Int.reduceEq, reduceIte, Nat.reduceBNe, Int.reducePow, Nat.reducePow, Int.reduceMul, Int.reduceNeg, isB_i, isB_b, isB_y, isBv_i, isBv_b, eqCells_t, TT, List.map_nil], ⟨.inl ⟨rfl, rfl⟩, wk_nil, .inl ⟨rfl, rfl⟩, trivial⟩⟩) ?_
  rintro μ σ ⟨i, H, w, o, z', rfl, hi, B, rfl⟩
  by_cases hlt : i < m.length
  · have hd : decide ((i : Int) < (m.length : Int)) = true := by simp only [decide_eq_true_eq]; omega
    have e3 : IntKind.i64.wrap ((i : Int) + 1) = ((i + 1 : Nat) : Int) := by rw [w64] <;> omega
    obtain ⟨R, hR⟩ := dropAt4 (sp := sp) hlt
    have hb : SC.v (.int .u8 (m.getD i 0).toNat) = byteC (m.getD i 0) := rfl
    have hn : (m.take i).length = i := by simp; omega
    obtain ⟨LM, hLM⟩ : ∃ LM, LM = m.take i := ⟨_, rfl⟩
    rw [← hLM] at B hn
    simp (maxSteps := 4000000) only [Try.results40, hd, hR, hb, B.at_, lt_of B.at_, List.append_assoc, List.getElem?_append_left, List.getElem?_append_right, List.length_append, List.length_set, List.set_append_left, gset, List.getElem?_set_ne, Nat.add_sub_cancel_left, Nat.sub_self, Nat.le_refl, Nat.le_add_right, List.replicate_one, List.flatten_cons, List.flatten_nil, rep_flat, XX, Nat.reduceBEq, Nat.reduceLT, Nat.reduceAdd, Nat.reduceMul, Nat.reduceSub, Nat.reduceLeDiff, Nat.reduceEqDiff, Int.reduceToNat, Int.reduceLT, Int.reduceLE, Int.reduceAdd, Int.reduceSub, Int.reduceEq, reduceIte, Nat.reduceBNe, Int.reducePow, Nat.reducePow, Int.reduceMul, Int.reduceNeg, isB_i, isB_b, isB_y, isBv_i, isBv_b, eqCells_t, TT]
    refine ⟨⟨by omega, by omega⟩, by simp, ⟨⟨by omega, by unfold maxLen; omega, by simp; omega, fun h => ⟨B.own (by omega), by simp; omega⟩⟩, ?_⟩⟩
    refine xapp_one B hn rfl rfl fun H' w' z2 B' h1 h2 h3 => ?_
    simp (maxSteps := 4000000) only [Try.results40, e3, XX, Nat.reduceBEq, Nat.reduceLT, Nat.reduceAdd, Nat.reduceMul, Nat.reduceSub, Nat.reduceLeDiff, Nat.reduceEqDiff, Int.reduceToNat, Int.reduceLT, Int.reduceLE, Int.reduceAdd, Int.reduceSub, Int.reduceEq, reduceIte, Nat.reduceBNe, Int.reducePow, Nat.reducePow, Int.reduceMul, Int.reduceNeg, isB_i, isB_b, isB_y, isBv_i, isBv_b, eqCells_t, TT]
    have hL2 : LM ++ [m.getD i 0] = m.take (i + 1) := by rw [hLM, take_next m i hlt]
    have hn' : (m.take (i + 1)).length = i + 1 := by simp; omega
    rw [hL2] at B' ⊢
    refine ⟨m.length - (i + 1), by omega, _, ⟨i + 1, H', w', true, z2, rfl, by omega, B', rfl⟩, .inl ⟨rfl, rfl, rfl, ?_, rfl, trivial⟩⟩
    simp only [XX, Nat.reduceBEq, Nat.reduceLT, Nat.reduceAdd, Nat.reduceMul, Nat.reduceSub, Nat.reduceLeDiff, Nat.reduceEqDiff, Int.reduceToNat, Int.reduceLT, Int.reduceLE, Int.reduceAdd, Int.reduceSub, Int.reduceEq, reduceIte, Nat.reduceBNe, Int.reducePow, Nat.reducePow, Int.reduceMul, Int.reduceNeg, isB_i, isB_b, isB_y, isBv_i, isBv_b, eqCells_t, TT, slB, hn', Nat.add_assoc]
  obtain rfl : i = m.length := by omega
  have hd : decide ((m.length : Int) < (m.length : Int)) = false := by simp
  rw [List.take_length] at B
  simp (maxSteps := 4000000) only [Try.results40, hd, XX, Nat.reduceBEq, Nat.reduceLT, Nat.reduceAdd, Nat.reduceMul, Nat.reduceSub, Nat.reduceLeDiff, Nat.reduceEqDiff, Int.reduceToNat, Int.reduceLT, Int.reduceLE, Int.reduceAdd, Int.reduceSub, Int.reduceEq, reduceIte, Nat.reduceBNe, Int.reducePow, Nat.reducePow, Int.reduceMul, Int.reduceNeg, isB_i, isB_b, isB_y, isBv_i, isBv_b, eqCells_t, TT]
  exact ⟨w, z', o, by simp only [slB, List.length_append], B⟩

theorem copied_spec (l sp : List UInt8) (c : Nat) (hc : l.length ≤ c) (hl : l.length ≤ 140737488355328) : Spec cx.P 40 [.c (roB l sp c)] [] (resS l) := resS_of (copied_raw l sp c hl)

section
variable {H : List SB} {c r t : Nat} {lr lt : List (Bool × SC)} {nr nt cr ct ar at' : Nat} {c1 c2 c3 : Int}

theorem rrings_spec (h : RC4 H c r t lr lt nr nt cr ct ar at' c1 c2 c3) : Spec cx.P 38 [.c (.ptr c 0)] H fun s h' => s = .tup [(false, [i64 nr]), (false, [i64 nt])] ∧ h' = H := by
  have hc := h.hc
  have ltc := lt_of hc
  obtain ⟨ox, mx⟩ : ∃ o, (maskL [c] 0 H)[c]? = some ⟨o, 69, [.sl r 0 nr cr, .sl t 0 nt ct, i64 ar, i64 at', i64 c1, i64 c2, i64 c3]⟩ := maskL_at hc
  have hok := kept_cons hc rfl kept_nil
  have ltx := lt_of mx
  refine spec_of_X cx_ok Try.func38 rfl (by kernel_rfl) (by kernel_rfl) (Nat.le_of_ble_eq_true rfl) 400 4 ?_
  simp (maxSteps := 4000000) only [Try.results38, XX, Nat.reduceBEq, Nat.reduceLT, Nat.reduceAdd, Nat.reduceMul, Nat.reduceSub, Nat.reduceLeDiff, Nat.reduceEqDiff, Int.reduceToNat, Int.reduceLT, Int.reduceLE, Int.reduceAdd, Int.reduceSub, Int.reduceEq, reduceIte, Nat.reduceBNe, Int.reducePow, Nat.reducePow, Int.reduceMul, Int.reduceNeg, isB_i, isB_b, isB_y, isBv_i, isBv_b, eqCells_t, TT]
  refine draw_of cx_ok (by kernel_rfl) 400 [c] [(0, true), (1, true), (2, true), (3, true), (4, true), (5, true), (6, true), (7, true), (8, true), (9, true), (10, true), (11, true)] (by kernel_rfl) (by first | exact hok | simp [*]) ?_
  simp (maxSteps := 4000000) only [Try.results38, hc, ltc, mx, ltx, unL_maskL, XX, Nat.reduceBEq, Nat.reduceLT, Nat.reduceAdd, Nat.reduceMul, Nat.reduceSub, Nat.reduceLeDiff, Nat.reduceEqDiff, Int.reduceToNat, Int.reduceLT, Int.reduceLE, Int.reduceAdd, Int.reduceSub, Int.reduceEq, reduceIte, Nat.reduceBNe, Int.reducePow, Nat.reducePow, Int.reduceMul, Int.reduceNeg, isB_i, isB_b, isB_y, isBv_i, isBv_b, eqCells_t, TT]
theorem rcounts_spec (h : RC4 H c r t lr lt nr nt cr ct ar at' c1 c2 c3) : Spec cx.P 37 [.c (.ptr c 0)] H fun s h' => s = .agg [i64 c1, i64 c2, i64 c3] ∧ ∃ x, h' = H ++ [x] := by
  have hc := h.hc
  have ltc := lt_of hc
  have hcx : ∀ x, (H ++ [x])[c]? = some (rcB (.sl r 0 nr cr) (.sl t 0 nt ct) ar at' c1 c2 c3) := fun x => by rw [List.getElem?_append_left ltc, hc]
  have gn : ∀ x, (H ++ [x])[H.length]? = some x := fun x => by rw [List.getElem?_append_right (Nat.le_refl _), Nat.sub_self]; rfl
  have ln : ∀ x : SB, (H ++ [x]).length = H.length + 1 := fun x => by simp
  have ltd : c < H.length + 1 := by omega
  have lte : H.length < H.length + 1 := by omega
  refine spec_of_X cx_ok Try.func37 rfl (by kernel_rfl) (by kernel_rfl) (Nat.le_of_ble_eq_true rfl) 400 3 ?_
  simp (maxSteps := 4000000) only [Try.results37, XX, Nat.reduceBEq, Nat.reduceLT, Nat.reduceAdd, Nat.reduceMul, Nat.reduceSub, Nat.reduceLeDiff, Nat.reduceEqDiff, Int.reduceToNat, Int.reduceLT, Int.reduceLE, Int.reduceAdd, Int.reduceSub, Int.reduceEq, reduceIte, Nat.reduceBNe, Int.reducePow, Nat.reducePow, Int.reduceMul, Int.reduceNeg, isB_i, isB_b, isB_y, isBv_i, isBv_b, eqCells_t, TT]
  simp (maxSteps := 4000000) only [Try.results37, hcx, gn, ln, ltd, lte, gset, Option.map_some, XX, Nat.reduceBEq, Nat.reduceLT, Nat.reduceAdd, Nat.reduceMul, Nat.reduceSub, Nat.reduceLeDiff, Nat.reduceEqDiff, Int.reduceToNat, Int.reduceLT, Int.reduceLE, Int.reduceAdd, Int.reduceSub, Int.reduceEq, reduceIte, Nat.reduceBNe, Int.reducePow, Nat.reducePow, Int.reduceMul, Int.reduceNeg, isB_i, isB_b, isB_y, isBv_i, isBv_b, eqCells_t, TT]
  exact ⟨_, by rw [List.set_append_right _ _ (Nat.le_refl _), Nat.sub_self]; rfl⟩
theorem rarriveF_spec (h : RC4 H c r t lr lt nr nt cr ct ar at' c1 c2 c3) {q : Bool × SC} (hq : lr[ar]? = some q) (hs : q.1 = false) (b sp : List UInt8) (cp : Nat) (h1 : 0 < b.length) (h2 : b.length ≤ 1514) : Spec cx.P 27 [.c (.ptr c 0), .c (roB b sp cp)] H fun s h' => s = .c (bC false) ∧ h' = H.set c (rcB (.sl r 0 nr cr) (.sl t 0 nt ct) ar at' c1 (IntKind.i64.wrap (c2 + 1)) c3) := by
  have hc := h.hc
  have hr := h.hr
  have ltc := lt_of hc
  have ltr := lt_of hr
  have d1 : decide ((b.length : Int) = 0) = false := by simp only [decide_eq_false_iff_not]; omega
  have d2 : decide (1514 < (b.length : Int)) = false := by simp only [decide_eq_false_iff_not]; omega
  have g0 := dsC_0 hq
  rw [hs] at g0
  have nra := h.ar
  have nrl := h.lr
  obtain ⟨ox, mx⟩ : ∃ o, (maskL [c, r] 0 H)[c]? = some ⟨o, 69, [.sl r 0 nr cr, .sl t 0 nt ct, i64 ar, i64 at', i64 c1, i64 c2, i64 c3]⟩ := maskL_at hc
  obtain ⟨oy, my⟩ : ∃ o, (maskL [c, r] 0 H)[r]? = some ⟨o, 40, dsC lr⟩ := maskL_at hr
  have hok := kept_cons hc rfl (kept_cons hr rfl kept_nil)
  have ltx := lt_of mx
  have lty := lt_of my
  refine spec_of_X cx_ok Try.func27 rfl (by kernel_rfl) (by kernel_rfl) (Nat.le_of_ble_eq_true rfl) 400 6 ?_
  simp (maxSteps := 4000000) only [Try.results27, XX, Nat.reduceBEq, Nat.reduceLT, Nat.reduceAdd, Nat.reduceMul, Nat.reduceSub, Nat.reduceLeDiff, Nat.reduceEqDiff, Int.reduceToNat, Int.reduceLT, Int.reduceLE, Int.reduceAdd, Int.reduceSub, Int.reduceEq, reduceIte, Nat.reduceBNe, Int.reducePow, Nat.reducePow, Int.reduceMul, Int.reduceNeg, isB_i, isB_b, isB_y, isBv_i, isBv_b, eqCells_t, TT]
  simp (maxSteps := 4000000) only [Try.results27, d1, d2, XX, Nat.reduceBEq, Nat.reduceLT, Nat.reduceAdd, Nat.reduceMul, Nat.reduceSub, Nat.reduceLeDiff, Nat.reduceEqDiff, Int.reduceToNat, Int.reduceLT, Int.reduceLE, Int.reduceAdd, Int.reduceSub, Int.reduceEq, reduceIte, Nat.reduceBNe, Int.reducePow, Nat.reducePow, Int.reduceMul, Int.reduceNeg, isB_i, isB_b, isB_y, isBv_i, isBv_b, eqCells_t, TT]
  refine draw_of cx_ok (by kernel_rfl) 400 [c, r] [(0, true), (1, true), (2, true), (3, true), (4, true), (5, true), (6, true), (7, true), (8, true), (9, true), (10, true), (11, true)] (by kernel_rfl) (by first | exact hok | simp [*]) ?_
  simp (maxSteps := 4000000) only [Try.results27, hc, hr, ltc, ltr, g0, mx, my, ltx, lty, unL_maskL, XX, Nat.reduceBEq, Nat.reduceLT, Nat.reduceAdd, Nat.reduceMul, Nat.reduceSub, Nat.reduceLeDiff, Nat.reduceEqDiff, Int.reduceToNat, Int.reduceLT, Int.reduceLE, Int.reduceAdd, Int.reduceSub, Int.reduceEq, reduceIte, Nat.reduceBNe, Int.reducePow, Nat.reducePow, Int.reduceMul, Int.reduceNeg, isB_i, isB_b, isB_y, isBv_i, isBv_b, eqCells_t, TT]
  exact ⟨⟨by omega, by omega⟩, by rw [dsC_len]; omega⟩
theorem rarrive_spec (h : RC4 H c r t lr lt nr nt cr ct ar at' c1 c2 c3) {q : Bool × SC} (hq : lr[ar]? = some q) (hs : q.1 = true) (b sp : List UInt8) (cp : Nat) (hcp : b.length ≤ cp) (h1 : 0 < b.length) (h2 : b.length ≤ 1514) : Spec cx.P 27 [.c (.ptr c 0), .c (roB b sp cp)] H fun s h' => ∃ z, s = .c (bC true) ∧ h' = ((H ++ [wB true (b ++ z)]).set r (dB true (lr.set ar (false, slB H.length b z)))).set c (rcB (.sl r 0 nr cr) (.sl t 0 nt ct) ((ar + 1) % nr : Nat) at' (IntKind.i64.wrap (c1 + 1)) c2 c3) := by
  have hc := h.hc
  have hr := h.hr
  have ltc := lt_of hc
  have ltr := lt_of hr
  have d1 : decide ((b.length : Int) = 0) = false := by simp only [decide_eq_false_iff_not]; omega
  have d2 : decide (1514 < (b.length : Int)) = false := by simp only [decide_eq_false_iff_not]; omega
  have g0 := dsC_0 hq
  rw [hs] at g0
  have nra := h.ar
  have nrl := h.lr
  obtain ⟨ox, mx⟩ : ∃ o, (maskL [c, r] 0 H)[c]? = some ⟨o, 69, [.sl r 0 nr cr, .sl t 0 nt ct, i64 ar, i64 at', i64 c1, i64 c2, i64 c3]⟩ := maskL_at hc
  obtain ⟨oy, my⟩ : ∃ o, (maskL [c, r] 0 H)[r]? = some ⟨o, 40, dsC lr⟩ := maskL_at hr
  have hok := kept_cons hc rfl (kept_cons hr rfl kept_nil)
  have ltx := lt_of mx
  have lty := lt_of my
  refine spec_of_X cx_ok Try.func27 rfl (by kernel_rfl) (by kernel_rfl) (Nat.le_of_ble_eq_true rfl) 400 6 ?_
  simp (maxSteps := 4000000) only [Try.results27, XX, Nat.reduceBEq, Nat.reduceLT, Nat.reduceAdd, Nat.reduceMul, Nat.reduceSub, Nat.reduceLeDiff, Nat.reduceEqDiff, Int.reduceToNat, Int.reduceLT, Int.reduceLE, Int.reduceAdd, Int.reduceSub, Int.reduceEq, reduceIte, Nat.reduceBNe, Int.reducePow, Nat.reducePow, Int.reduceMul, Int.reduceNeg, isB_i, isB_b, isB_y, isBv_i, isBv_b, eqCells_t, TT]
  simp (maxSteps := 4000000) only [Try.results27, d1, d2, XX, Nat.reduceBEq, Nat.reduceLT, Nat.reduceAdd, Nat.reduceMul, Nat.reduceSub, Nat.reduceLeDiff, Nat.reduceEqDiff, Int.reduceToNat, Int.reduceLT, Int.reduceLE, Int.reduceAdd, Int.reduceSub, Int.reduceEq, reduceIte, Nat.reduceBNe, Int.reducePow, Nat.reducePow, Int.reduceMul, Int.reduceNeg, isB_i, isB_b, isB_y, isBv_i, isBv_b, eqCells_t, TT]
  refine draw_of cx_ok (by kernel_rfl) 400 [c, r] [(0, true), (1, true), (2, true), (3, true), (4, true), (5, true), (6, true), (7, true), (8, true), (9, true), (10, true), (11, true)] (by kernel_rfl) (by first | exact hok | simp [*]) ?_
  simp (maxSteps := 4000000) only [Try.results27, hc, hr, ltc, ltr, g0, mx, my, ltx, lty, unL_maskL, XX, Nat.reduceBEq, Nat.reduceLT, Nat.reduceAdd, Nat.reduceMul, Nat.reduceSub, Nat.reduceLeDiff, Nat.reduceEqDiff, Int.reduceToNat, Int.reduceLT, Int.reduceLE, Int.reduceAdd, Int.reduceSub, Int.reduceEq, reduceIte, Nat.reduceBNe, Int.reducePow, Nat.reducePow, Int.reduceMul, Int.reduceNeg, isB_i, isB_b, isB_y, isBv_i, isBv_b, eqCells_t, TT]
  refine ⟨⟨by omega, by omega⟩, by rw [dsC_len]; omega, ?_⟩
  refine call_fz [.c (roB b sp cp)] (copied_spec b sp cp hcp (by omega)) (fun t h' h => resS_noRo h) ⟨.inl ⟨rfl, rfl⟩, trivial⟩ ?_
  rintro _ _ ⟨z, o, rfl, rfl, ho⟩
  obtain rfl := ho (by omega)
  simp (maxSteps := 4000000) only [Try.results27, ids_bsC, ren_bsC, noRo_bsC, plain_bsC, lt_bsC, ids_byte, ren_byte, noRo_byte, plain_byte, lt_byte, XX, Nat.reduceBEq, Nat.reduceLT, Nat.reduceAdd, Nat.reduceMul, Nat.reduceSub, Nat.reduceLeDiff, Nat.reduceEqDiff, Int.reduceToNat, Int.reduceLT, Int.reduceLE, Int.reduceAdd, Int.reduceSub, Int.reduceEq, reduceIte, Nat.reduceBNe, Int.reducePow, Nat.reducePow, Int.reduceMul, Int.reduceNeg, isB_i, isB_b, isB_y, isBv_i, isBv_b, eqCells_t, TT]
  have hc1 : (H ++ [wB true (b ++ z)])[c]? = some (rcB (.sl r 0 nr cr) (.sl t 0 nt ct) ar at' c1 c2 c3) := by rw [List.getElem?_append_left ltc, hc]
  have hr1 : (H ++ [wB true (b ++ z)])[r]? = some (dB true lr) := by rw [List.getElem?_append_left ltr, hr]
  generalize hH1 : H ++ [wB true (b ++ z)] = H1 at hc1 hr1 ⊢
  have lc1 := lt_of hc1
  have lr1 := lt_of hr1
  have hle : H.length < H1.length := by rw [← hH1]; simp
  have ds := dsC_set (false, slB H.length b z) hq
  have nn := h.n1
  have md := next_mod h.ar nn.2
  have zn : ((nr : Int) = 0) = False := by simp only [eq_iff_iff, iff_false]; omega
  refine draw2_of cx_ok (by kernel_rfl) 400 [] (.pair [(0, true), (1, true), (2, true), (4, true), (5, true), (6, true), (8, true), (9, true)] 3 7 (.done [(7, false), (10, true), (11, false)]) (.done [(3, false), (10, true), (11, false)])) (by kernel_rfl) rfl ?_
  simp (maxSteps := 4000000) only [Try.results27, PXT_done, PXT_pair, hc1, hr1, lc1, lr1, maskL_nil, unL_nil, ds, XX, Nat.reduceBEq, Nat.reduceLT, Nat.reduceAdd, Nat.reduceMul, Nat.reduceSub, Nat.reduceLeDiff, Nat.reduceEqDiff, Int.reduceToNat, Int.reduceLT, Int.reduceLE, Int.reduceAdd, Int.reduceSub, Int.reduceEq, reduceIte, Nat.reduceBNe, Int.reducePow, Nat.reducePow, Int.reduceMul, Int.reduceNeg, isB_i, isB_b, isB_y, isBv_i, isBv_b, eqCells_t, TT]
  refine ⟨⟨by omega, by omega⟩, by rw [dsC_len]; omega, ?_⟩
  have hc2 : (H1.set r (dB true (lr.set ar (false, slB H.length b z))))[c]? = some (rcB (.sl r 0 nr cr) (.sl t 0 nt ct) ar at' c1 c2 c3) := by rw [List.getElem?_set_ne (Ne.symm h.ne.1)]; exact hc1
  have lc2 := lt_of hc2
  refine draw2_of cx_ok (by kernel_rfl) 400 [] (.pair [(0, true), (1, true), (2, true), (3, true), (6, true), (7, true), (8, true)] 4 9 (.done [(5, true), (9, false), (10, true), (11, true), (12, true), (13, true), (14, false)]) (.done [(10, true), (4, false), (5, true), (11, true), (12, true), (13, true), (14, false)])) (by kernel_rfl) rfl ?_
  simp (maxSteps := 4000000) only [Try.results27, PXT_done, PXT_pair, hc2, lc2, maskL_nil, unL_nil, md, zn, XX, Nat.reduceBEq, Nat.reduceLT, Nat.reduceAdd, Nat.reduceMul, Nat.reduceSub, Nat.reduceLeDiff, Nat.reduceEqDiff, Int.reduceToNat, Int.reduceLT, Int.reduceLE, Int.reduceAdd, Int.reduceSub, Int.reduceEq, reduceIte, Nat.reduceBNe, Int.reducePow, Nat.reducePow, Int.reduceMul, Int.reduceNeg, isB_i, isB_b, isB_y, isBv_i, isBv_b, eqCells_t, TT]
  simp (maxSteps := 4000000) only [Try.results27, gset, hc2, Option.map_some, XX, Nat.reduceBEq, Nat.reduceLT, Nat.reduceAdd, Nat.reduceMul, Nat.reduceSub, Nat.reduceLeDiff, Nat.reduceEqDiff, Int.reduceToNat, Int.reduceLT, Int.reduceLE, Int.reduceAdd, Int.reduceSub, Int.reduceEq, reduceIte, Nat.reduceBNe, Int.reducePow, Nat.reducePow, Int.reduceMul, Int.reduceNeg, isB_i, isB_b, isB_y, isBv_i, isBv_b, eqCells_t, TT]
  rw [List.set_set]
  exact ⟨z, by rw [← hH1]⟩
theorem rarriveB_spec (b sp : List UInt8) (cp : Nat) (hb : b.length = 0 ∨ 1514 < b.length) : Spec cx.P 27 [.c (.ptr c 0), .c (roB b sp cp)] H fun t h' => t = .c (bC false) ∧ h' = H := by
  refine spec_of_X cx_ok Try.func27 rfl (by kernel_rfl) (by kernel_rfl) (Nat.le_of_ble_eq_true rfl) 400 6 ?_
  simp (maxSteps := 4000000) only [Try.results27, XX, Nat.reduceBEq, Nat.reduceLT, Nat.reduceAdd, Nat.reduceMul, Nat.reduceSub, Nat.reduceLeDiff, Nat.reduceEqDiff, Int.reduceToNat, Int.reduceLT, Int.reduceLE, Int.reduceAdd, Int.reduceSub, Int.reduceEq, reduceIte, Nat.reduceBNe, Int.reducePow, Nat.reducePow, Int.reduceMul, Int.reduceNeg, isB_i, isB_b, isB_y, isBv_i, isBv_b, eqCells_t, TT]
  by_cases h0 : b.length = 0
  · have d1 : decide ((b.length : Int) = 0) = true := by simp only [decide_eq_true_eq]; omega
    simp (maxSteps := 4000000) only [Try.results27, d1, XX, Nat.reduceBEq, Nat.reduceLT, Nat.reduceAdd, Nat.reduceMul, Nat.reduceSub, Nat.reduceLeDiff, Nat.reduceEqDiff, Int.reduceToNat, Int.reduceLT, Int.reduceLE, Int.reduceAdd, Int.reduceSub, Int.reduceEq, reduceIte, Nat.reduceBNe, Int.reducePow, Nat.reducePow, Int.reduceMul, Int.reduceNeg, isB_i, isB_b, isB_y, isBv_i, isBv_b, eqCells_t, TT]
  · have d1 : decide ((b.length : Int) = 0) = false := by simp only [decide_eq_false_iff_not]; omega
    have d2 : decide (1514 < (b.length : Int)) = true := by simp only [decide_eq_true_eq]; omega
    simp (maxSteps := 4000000) only [Try.results27, d1, d2, XX, Nat.reduceBEq, Nat.reduceLT, Nat.reduceAdd, Nat.reduceMul, Nat.reduceSub, Nat.reduceLeDiff, Nat.reduceEqDiff, Int.reduceToNat, Int.reduceLT, Int.reduceLE, Int.reduceAdd, Int.reduceSub, Int.reduceEq, reduceIte, Nat.reduceBNe, Int.reducePow, Nat.reducePow, Int.reduceMul, Int.reduceNeg, isB_i, isB_b, isB_y, isBv_i, isBv_b, eqCells_t, TT]
theorem rdepartN_spec (h : RC4 H c r t lr lt nr nt cr ct ar at' c1 c2 c3) {q : Bool × SC} (hq : lt[at']? = some q) (hs : q.1 = false) : Spec cx.P 29 [.c (.ptr c 0)] H fun s h' => s = .tup [(false, [.v (.slice none 0 0)]), (false, [bC false])] ∧ h' = H := by
  have hc := h.hc
  have hr := h.ht
  have ltc := lt_of hc
  have ltr := lt_of hr
  have g0 := dsC_0 hq
  rw [hs] at g0
  have nra := h.at'
  have nrl := h.lt
  obtain ⟨ox, mx⟩ : ∃ o, (maskL [c, t] 0 H)[c]? = some ⟨o, 69, [.sl r 0 nr cr, .sl t 0 nt ct, i64 ar, i64 at', i64 c1, i64 c2, i64 c3]⟩ := maskL_at hc
  obtain ⟨oy, my⟩ : ∃ o, (maskL [c, t] 0 H)[t]? = some ⟨o, 40, dsC lt⟩ := maskL_at hr
  have hok := kept_cons hc rfl (kept_cons hr rfl kept_nil)
  have ltx := lt_of mx
  have lty := lt_of my
  refine spec_of_X cx_ok Try.func29 rfl (by kernel_rfl) (by kernel_rfl) (Nat.le_of_ble_eq_true rfl) 400 5 ?_
  simp (maxSteps := 4000000) only [Try.results29, XX, Nat.reduceBEq, Nat.reduceLT, Nat.reduceAdd, Nat.reduceMul, Nat.reduceSub, Nat.reduceLeDiff, Nat.reduceEqDiff, Int.reduceToNat, Int.reduceLT, Int.reduceLE, Int.reduceAdd, Int.reduceSub, Int.reduceEq, reduceIte, Nat.reduceBNe, Int.reducePow, Nat.reducePow, Int.reduceMul, Int.reduceNeg, isB_i, isB_b, isB_y, isBv_i, isBv_b, eqCells_t, TT]
  refine draw_of cx_ok (by kernel_rfl) 400 [c, t] [(0, true), (1, true), (2, true), (3, true), (4, true), (5, true), (6, true), (7, true), (8, true), (9, true), (10, true), (11, true)] (by kernel_rfl) (by first | exact hok | simp [*]) ?_
  simp (maxSteps := 4000000) only [Try.results29, hc, hr, ltc, ltr, g0, mx, my, ltx, lty, unL_maskL, XX, Nat.reduceBEq, Nat.reduceLT, Nat.reduceAdd, Nat.reduceMul, Nat.reduceSub, Nat.reduceLeDiff, Nat.reduceEqDiff, Int.reduceToNat, Int.reduceLT, Int.reduceLE, Int.reduceAdd, Int.reduceSub, Int.reduceEq, reduceIte, Nat.reduceBNe, Int.reducePow, Nat.reducePow, Int.reduceMul, Int.reduceNeg, isB_i, isB_b, isB_y, isBv_i, isBv_b, eqCells_t, TT]
  exact ⟨⟨by omega, by omega⟩, by rw [dsC_len]; omega⟩
theorem rdepart_spec (h : RC4 H c r t lr lt nr nt cr ct ar at' c1 c2 c3) {q : Bool × SC} (hq : lt[at']? = some q) (hs : q.1 = true) : Spec cx.P 29 [.c (.ptr c 0)] H fun s h' => s = .tup [(false, [q.2]), (false, [bC true])] ∧ h' = (H.set t (dB true (lt.set at' zD))).set c (rcB (.sl r 0 nr cr) (.sl t 0 nt ct) ar ((at' + 1) % nt : Nat) c1 c2 (IntKind.i64.wrap (c3 + 1))) := by
  have hc := h.hc
  have hr := h.ht
  have ltc := lt_of hc
  have ltr := lt_of hr
  have g0 := dsC_0 hq
  have g1 := dsC_1 hq
  rw [hs] at g0
  have nra := h.at'
  have nrl := h.lt
  have nn := h.n2
  have md := next_mod h.at' nn.2
  have zn : ((nt : Int) = 0) = False := by simp only [eq_iff_iff, iff_false]; omega
  have ds := dsC_set zD hq
  obtain ⟨ox, mx⟩ : ∃ o, (maskL [c, t] 0 H)[c]? = some ⟨o, 69, [.sl r 0 nr cr, .sl t 0 nt ct, i64 ar, i64 at', i64 c1, i64 c2, i64 c3]⟩ := maskL_at hc
  obtain ⟨oy, my⟩ : ∃ o, (maskL [c, t] 0 H)[t]? = some ⟨o, 40, dsC lt⟩ := maskL_at hr
  have hok := kept_cons hc rfl (kept_cons hr rfl kept_nil)
  have ltx := lt_of mx
  have lty := lt_of my
  have hc2 : (H.set t (dB true (lt.set at' zD)))[c]? = some (rcB (.sl r 0 nr cr) (.sl t 0 nt ct) ar at' c1 c2 c3) := by rw [List.getElem?_set_ne (Ne.symm h.ne.2.1)]; exact hc
  have lc2 := lt_of hc2
  refine spec_of_X cx_ok Try.func29 rfl (by kernel_rfl) (by kernel_rfl) (Nat.le_of_ble_eq_true rfl) 400 5 ?_
  simp (maxSteps := 4000000) only [Try.results29, XX, Nat.reduceBEq, Nat.reduceLT, Nat.reduceAdd, Nat.reduceMul, Nat.reduceSub, Nat.reduceLeDiff, Nat.reduceEqDiff, Int.reduceToNat, Int.reduceLT, Int.reduceLE, Int.reduceAdd, Int.reduceSub, Int.reduceEq, reduceIte, Nat.reduceBNe, Int.reducePow, Nat.reducePow, Int.reduceMul, Int.reduceNeg, isB_i, isB_b, isB_y, isBv_i, isBv_b, eqCells_t, TT]
  refine draw_of cx_ok (by kernel_rfl) 400 [c, t] [(0, true), (1, true), (2, true), (3, true), (4, true), (5, true), (6, true), (7, true), (8, true), (9, true), (10, true), (11, true)] (by kernel_rfl) (by first | exact hok | simp [*]) ?_
  simp (maxSteps := 4000000) only [Try.results29, hc, hr, ltc, ltr, g0, mx, my, ltx, lty, unL_maskL, XX, Nat.reduceBEq, Nat.reduceLT, Nat.reduceAdd, Nat.reduceMul, Nat.reduceSub, Nat.reduceLeDiff, Nat.reduceEqDiff, Int.reduceToNat, Int.reduceLT, Int.reduceLE, Int.reduceAdd, Int.reduceSub, Int.reduceEq, reduceIte, Nat.reduceBNe, Int.reducePow, Nat.reducePow, Int.reduceMul, Int.reduceNeg, isB_i, isB_b, isB_y, isBv_i, isBv_b, eqCells_t, TT]
  refine ⟨⟨by omega, by omega⟩, by rw [dsC_len]; omega, ?_⟩
  refine draw_of cx_ok (by kernel_rfl) 400 [c, t] [(0, true), (1, true), (2, true), (3, true), (4, true), (5, true), (6, true), (7, true), (8, true), (9, true), (10, true), (11, true)] (by kernel_rfl) (by first | exact hok | simp [*]) ?_
  simp (maxSteps := 4000000) only [Try.results29, hc, hr, ltc, ltr, g0, g1, mx, my, ltx, lty, unL_maskL, XX, Nat.reduceBEq, Nat.reduceLT, Nat.reduceAdd, Nat.reduceMul, Nat.reduceSub, Nat.reduceLeDiff, Nat.reduceEqDiff, Int.reduceToNat, Int.reduceLT, Int.reduceLE, Int.reduceAdd, Int.reduceSub, Int.reduceEq, reduceIte, Nat.reduceBNe, Int.reducePow, Nat.reducePow, Int.reduceMul, Int.reduceNeg, isB_i, isB_b, isB_y, isBv_i, isBv_b, eqCells_t, TT]
  refine ⟨⟨by omega, by omega⟩, by rw [dsC_len]; omega, ?_⟩
  have ds : (dsC lt).take (at' * 2) ++ [SC.v (.bool false), SC.v (.slice none 0 0)] ++ (dsC lt).drop (at' * 2 + 2) = dsC (lt.set at' zD) := ds
  refine draw2_of cx_ok (by kernel_rfl) 400 [] (.pair [(0, true), (1, true), (2, true), (4, true), (5, true), (6, true), (8, true)] 3 7 (.done [(7, false), (9, true), (10, false)]) (.done [(3, false), (9, true), (10, false)])) (by kernel_rfl) rfl ?_
  simp (maxSteps := 4000000) only [Try.results29, PXT_done, PXT_pair, hc, hr, ltc, ltr, maskL_nil, unL_nil, ds, XX, Nat.reduceBEq, Nat.reduceLT, Nat.reduceAdd, Nat.reduceMul, Nat.reduceSub, Nat.reduceLeDiff, Nat.reduceEqDiff, Int.reduceToNat, Int.reduceLT, Int.reduceLE, Int.reduceAdd, Int.reduceSub, Int.reduceEq, reduceIte, Nat.reduceBNe, Int.reducePow, Nat.reducePow, Int.reduceMul, Int.reduceNeg, isB_i, isB_b, isB_y, isBv_i, isBv_b, eqCells_t, TT]
  refine ⟨⟨by omega, by omega⟩, by rw [dsC_len]; omega, ?_⟩
  refine draw2_of cx_ok (by kernel_rfl) 400 [] (.pair [(0, true), (1, true), (2, true), (3, true), (6, true), (7, true), (8, true)] 4 9 (.done [(5, true), (9, false), (10, true), (11, true), (12, true), (13, true), (14, false)]) (.done [(10, true), (4, false), (5, true), (11, true), (12, true), (13, true), (14, false)])) (by kernel_rfl) rfl ?_
  simp (maxSteps := 4000000) only [Try.results29, PXT_done, PXT_pair, hc2, lc2, maskL_nil, unL_nil, md, zn, XX, Nat.reduceBEq, Nat.reduceLT, Nat.reduceAdd, Nat.reduceMul, Nat.reduceSub, Nat.reduceLeDiff, Nat.reduceEqDiff, Int.reduceToNat, Int.reduceLT, Int.reduceLE, Int.reduceAdd, Int.reduceSub, Int.reduceEq, reduceIte, Nat.reduceBNe, Int.reducePow, Nat.reducePow, Int.reduceMul, Int.reduceNeg, isB_i, isB_b, isB_y, isBv_i, isBv_b, eqCells_t, TT]
  simp (maxSteps := 4000000) only [Try.results29, gset, hc2, Option.map_some, XX, Nat.reduceBEq, Nat.reduceLT, Nat.reduceAdd, Nat.reduceMul, Nat.reduceSub, Nat.reduceLeDiff, Nat.reduceEqDiff, Int.reduceToNat, Int.reduceLT, Int.reduceLE, Int.reduceAdd, Int.reduceSub, Int.reduceEq, reduceIte, Nat.reduceBNe, Int.reducePow, Nat.reducePow, Int.reduceMul, Int.reduceNeg, isB_i, isB_b, isB_y, isBv_i, isBv_b, eqCells_t, TT]
  rw [List.set_set]
theorem rgiveN_spec (h : RC4 H c r t lr lt nr nt cr ct ar at' c1 c2 c3) (i : Int) (hi : i < 0 ∨ (nr : Int) ≤ i) : Spec cx.P 35 [.c (.ptr c 0), .c (i64 i)] H fun s h' => s = .c (i64 40) ∧ h' = H := by
  have hc := h.hc
  have ltc := lt_of hc
  refine spec_of_X cx_ok Try.func35 rfl (by kernel_rfl) (by kernel_rfl) (Nat.le_of_ble_eq_true rfl) 400 5 ?_
  simp (maxSteps := 4000000) only [Try.results35, XX, Nat.reduceBEq, Nat.reduceLT, Nat.reduceAdd, Nat.reduceMul, Nat.reduceSub, Nat.reduceLeDiff, Nat.reduceEqDiff, Int.reduceToNat, Int.reduceLT, Int.reduceLE, Int.reduceAdd, Int.reduceSub, Int.reduceEq, reduceIte, Nat.reduceBNe, Int.reducePow, Nat.reducePow, Int.reduceMul, Int.reduceNeg, isB_i, isB_b, isB_y, isBv_i, isBv_b, eqCells_t, TT]
  cases d1 : decide (i < 0)
  · have d2 : decide ((nr : Int) ≤ i) = true := by simp only [decide_eq_false_iff_not] at d1; simp only [decide_eq_true_eq]; omega
    simp (maxSteps := 4000000) only [Try.results35, hc, ltc, d1, d2, XX, Nat.reduceBEq, Nat.reduceLT, Nat.reduceAdd, Nat.reduceMul, Nat.reduceSub, Nat.reduceLeDiff, Nat.reduceEqDiff, Int.reduceToNat, Int.reduceLT, Int.reduceLE, Int.reduceAdd, Int.reduceSub, Int.reduceEq, reduceIte, Nat.reduceBNe, Int.reducePow, Nat.reducePow, Int.reduceMul, Int.reduceNeg, isB_i, isB_b, isB_y, isBv_i, isBv_b, eqCells_t, TT]
  · simp (maxSteps := 4000000) only [Try.results35, hc, ltc, d1, XX, Nat.reduceBEq, Nat.reduceLT, Nat.reduceAdd, Nat.reduceMul, Nat.reduceSub, Nat.reduceLeDiff, Nat.reduceEqDiff, Int.reduceToNat, Int.reduceLT, Int.reduceLE, Int.reduceAdd, Int.reduceSub, Int.reduceEq, reduceIte, Nat.reduceBNe, Int.reducePow, Nat.reducePow, Int.reduceMul, Int.reduceNeg, isB_i, isB_b, isB_y, isBv_i, isBv_b, eqCells_t, TT]
theorem rgiveO_spec (h : RC4 H c r t lr lt nr nt cr ct ar at' c1 c2 c3) (i : Nat) (hi : i < nr) {q : Bool × SC} (hq : lr[i]? = some q) (hs : q.1 = true) : Spec cx.P 35 [.c (.ptr c 0), .c (i64 i)] H fun s h' => s = .c (i64 41) ∧ h' = H := by
  have hc := h.hc
  have hr := h.hr
  have ltc := lt_of hc
  have ltr := lt_of hr
  have g0 := dsC_0 hq
  rw [hs] at g0
  have nrl := h.lr
  have d1 : decide ((i : Int) < 0) = false := by simp only [decide_eq_false_iff_not]; omega
  have d2 : decide ((nr : Int) ≤ (i : Int)) = false := by simp only [decide_eq_false_iff_not]; omega
  refine spec_of_X cx_ok Try.func35 rfl (by kernel_rfl) (by kernel_rfl) (Nat.le_of_ble_eq_true rfl) 400 5 ?_
  simp (maxSteps := 4000000) only [Try.results35, XX, Nat.reduceBEq, Nat.reduceLT, Nat.reduceAdd, Nat.reduceMul, Nat.reduceSub, Nat.reduceLeDiff, Nat.reduceEqDiff, Int.reduceToNat, Int.reduceLT, Int.reduceLE, Int.reduceAdd, Int.reduceSub, Int.reduceEq, reduceIte, Nat.reduceBNe, Int.reducePow, Nat.reducePow, Int.reduceMul, Int.reduceNeg, isB_i, isB_b, isB_y, isBv_i, isBv_b, eqCells_t, TT]
  simp (maxSteps := 4000000) only [Try.results35, hc, hr, ltc, ltr, d1, d2, g0, XX, Nat.reduceBEq, Nat.reduceLT, Nat.reduceAdd, Nat.reduceMul, Nat.reduceSub, Nat.reduceLeDiff, Nat.reduceEqDiff, Int.reduceToNat, Int.reduceLT, Int.reduceLE, Int.reduceAdd, Int.reduceSub, Int.reduceEq, reduceIte, Nat.reduceBNe, Int.reducePow, Nat.reducePow, Int.reduceMul, Int.reduceNeg, isB_i, isB_b, isB_y, isBv_i, isBv_b, eqCells_t, TT]
  exact ⟨⟨by omega, by omega⟩, by rw [dsC_len]; omega⟩
theorem rgive_spec (h : RC4 H c r t lr lt nr nt cr ct ar at' c1 c2 c3) (i : Nat) (hi : i < nr) {q : Bool × SC} (hq : lr[i]? = some q) (hs : q.1 = false) : Spec cx.P 35 [.c (.ptr c 0), .c (i64 i)] H fun s h' => s = .c (i64 0) ∧ h' = H.set r (dB true (lr.set i (true, .v (.slice none 0 0)))) := by
  have hc := h.hc
  have hr := h.hr
  have ltc := lt_of hc
  have ltr := lt_of hr
  have g0 := dsC_0 hq
  rw [hs] at g0
  have nrl := h.lr
  have ds := dsC_set (true, .v (.slice none 0 0)) hq
  have d1 : decide ((i : Int) < 0) = false := by simp only [decide_eq_false_iff_not]; omega
  have d2 : decide ((nr : Int) ≤ (i : Int)) = false := by simp only [decide_eq_false_iff_not]; omega
  refine spec_of_X cx_ok Try.func35 rfl (by kernel_rfl) (by kernel_rfl) (Nat.le_of_ble_eq_true rfl) 400 5 ?_
  simp (maxSteps := 4000000) only [Try.results35, XX, Nat.reduceBEq, Nat.reduceLT, Nat.reduceAdd, Nat.reduceMul, Nat.reduceSub, Nat.reduceLeDiff, Nat.reduceEqDiff, Int.reduceToNat, Int.reduceLT, Int.reduceLE, Int.reduceAdd, Int.reduceSub, Int.reduceEq, reduceIte, Nat.reduceBNe, Int.reducePow, Nat.reducePow, Int.reduceMul, Int.reduceNeg, isB_i, isB_b, isB_y, isBv_i, isBv_b, eqCells_t, TT]
  simp (maxSteps := 4000000) only [Try.results35, hc, hr, ltc, ltr, d1, d2, g0, ds, XX, Nat.reduceBEq, Nat.reduceLT, Nat.reduceAdd, Nat.reduceMul, Nat.reduceSub, Nat.reduceLeDiff, Nat.reduceEqDiff, Int.reduceToNat, Int.reduceLT, Int.reduceLE, Int.reduceAdd, Int.reduceSub, Int.reduceEq, reduceIte, Nat.reduceBNe, Int.reducePow, Nat.reducePow, Int.reduceMul, Int.reduceNeg, isB_i, isB_b, isB_y, isBv_i, isBv_b, eqCells_t, TT]
  exact ⟨⟨by omega, by omega⟩, by rw [dsC_len]; omega, ⟨by omega, by omega⟩, by rw [dsC_len]; omega⟩
theorem rlayN_spec (h : RC4 H c r t lr lt nr nt cr ct ar at' c1 c2 c3) (i : Int) (x : SC) (hi : i < 0 ∨ (nt : Int) ≤ i) : Spec cx.P 36 [.c (.ptr c 0), .c (i64 i), .c x] H fun s h' => s = .c (i64 40) ∧ h' = H := by
  have hc := h.hc
  have ltc := lt_of hc
  refine spec_of_X cx_ok Try.func36 rfl (by kernel_rfl) (by kernel_rfl) (Nat.le_of_ble_eq_true rfl) 400 8 ?_
  simp (maxSteps := 4000000) only [Try.results36, XX, Nat.reduceBEq, Nat.reduceLT, Nat.reduceAdd, Nat.reduceMul, Nat.reduceSub, Nat.reduceLeDiff, Nat.reduceEqDiff, Int.reduceToNat, Int.reduceLT, Int.reduceLE, Int.reduceAdd, Int.reduceSub, Int.reduceEq, reduceIte, Nat.reduceBNe, Int.reducePow, Nat.reducePow, Int.reduceMul, Int.reduceNeg, isB_i, isB_b, isB_y, isBv_i, isBv_b, eqCells_t, TT]
  cases d1 : decide (i < 0)
  · have d2 : decide ((nt : Int) ≤ i) = true := by simp only [decide_eq_false_iff_not] at d1; simp only [decide_eq_true_eq]; omega
    simp (maxSteps := 4000000) only [Try.results36, hc, ltc, d1, d2, XX, Nat.reduceBEq, Nat.reduceLT, Nat.reduceAdd, Nat.reduceMul, Nat.reduceSub, Nat.reduceLeDiff, Nat.reduceEqDiff, Int.reduceToNat, Int.reduceLT, Int.reduceLE, Int.reduceAdd, Int.reduceSub, Int.reduceEq, reduceIte, Nat.reduceBNe, Int.reducePow, Nat.reducePow, Int.reduceMul, Int.reduceNeg, isB_i, isB_b, isB_y, isBv_i, isBv_b, eqCells_t, TT]
  · simp (maxSteps := 4000000) only [Try.results36, hc, ltc, d1, XX, Nat.reduceBEq, Nat.reduceLT, Nat.reduceAdd, Nat.reduceMul, Nat.reduceSub, Nat.reduceLeDiff, Nat.reduceEqDiff, Int.reduceToNat, Int.reduceLT, Int.reduceLE, Int.reduceAdd, Int.reduceSub, Int.reduceEq, reduceIte, Nat.reduceBNe, Int.reducePow, Nat.reducePow, Int.reduceMul, Int.reduceNeg, isB_i, isB_b, isB_y, isBv_i, isBv_b, eqCells_t, TT]
theorem rlayE_spec (h : RC4 H c r t lr lt nr nt cr ct ar at' c1 c2 c3) (i : Nat) (hi : i < nt) {q : Bool × SC} (hq : lt[i]? = some q) (b sp : List UInt8) (cp : Nat) (e : Int) (he : (b.length < 60 ∧ e = 5) ∨ (1514 < b.length ∧ e = 2) ∨ (60 ≤ b.length ∧ b.length ≤ 1514 ∧ q.1 = true ∧ e = 41)) : Spec cx.P 36 [.c (.ptr c 0), .c (i64 i), .c (roB b sp cp)] H fun s h' => s = .c (i64 e) ∧ h' = H := by
  have hc := h.hc
  have hr := h.ht
  have ltc := lt_of hc
  have ltr := lt_of hr
  have g0 := dsC_0 hq
  have nrl := h.lt
  have d1 : decide ((i : Int) < 0) = false := by simp only [decide_eq_false_iff_not]; omega
  have d2 : decide ((nt : Int) ≤ (i : Int)) = false := by simp only [decide_eq_false_iff_not]; omega
  refine spec_of_X cx_ok Try.func36 rfl (by kernel_rfl) (by kernel_rfl) (Nat.le_of_ble_eq_true rfl) 400 8 ?_
  simp (maxSteps := 4000000) only [Try.results36, XX, Nat.reduceBEq, Nat.reduceLT, Nat.reduceAdd, Nat.reduceMul, Nat.reduceSub, Nat.reduceLeDiff, Nat.reduceEqDiff, Int.reduceToNat, Int.reduceLT, Int.reduceLE, Int.reduceAdd, Int.reduceSub, Int.reduceEq, reduceIte, Nat.reduceBNe, Int.reducePow, Nat.reducePow, Int.reduceMul, Int.reduceNeg, isB_i, isB_b, isB_y, isBv_i, isBv_b, eqCells_t, TT]
  by_cases h1 : b.length < 60
  · obtain rfl : e = 5 := by omega
    have d3 : decide ((b.length : Int) < 60) = true := by simp only [decide_eq_true_eq]; omega
    simp (maxSteps := 4000000) only [Try.results36, hc, hr, ltc, ltr, d1, d2, d3, g0, XX, Nat.reduceBEq, Nat.reduceLT, Nat.reduceAdd, Nat.reduceMul, Nat.reduceSub, Nat.reduceLeDiff, Nat.reduceEqDiff, Int.reduceToNat, Int.reduceLT, Int.reduceLE, Int.reduceAdd, Int.reduceSub, Int.reduceEq, reduceIte, Nat.reduceBNe, Int.reducePow, Nat.reducePow, Int.reduceMul, Int.reduceNeg, isB_i, isB_b, isB_y, isBv_i, isBv_b, eqCells_t, TT]
  · have d3 : decide ((b.length : Int) < 60) = false := by simp only [decide_eq_false_iff_not]; omega
    by_cases h2 : 1514 < b.length
    · obtain rfl : e = 2 := by omega
      have d4 : decide (1514 < (b.length : Int)) = true := by simp only [decide_eq_true_eq]; omega
      simp (maxSteps := 4000000) only [Try.results36, hc, hr, ltc, ltr, d1, d2, d3, d4, g0, XX, Nat.reduceBEq, Nat.reduceLT, Nat.reduceAdd, Nat.reduceMul, Nat.reduceSub, Nat.reduceLeDiff, Nat.reduceEqDiff, Int.reduceToNat, Int.reduceLT, Int.reduceLE, Int.reduceAdd, Int.reduceSub, Int.reduceEq, reduceIte, Nat.reduceBNe, Int.reducePow, Nat.reducePow, Int.reduceMul, Int.reduceNeg, isB_i, isB_b, isB_y, isBv_i, isBv_b, eqCells_t, TT]
    · have d4 : decide (1514 < (b.length : Int)) = false := by simp only [decide_eq_false_iff_not]; omega
      have hs : q.1 = true := by rcases he with h | h | h <;> first | omega | exact h.2.2.1
      obtain rfl : e = 41 := by omega
      rw [hs] at g0
      simp (maxSteps := 4000000) only [Try.results36, hc, hr, ltc, ltr, d1, d2, d3, d4, g0, XX, Nat.reduceBEq, Nat.reduceLT, Nat.reduceAdd, Nat.reduceMul, Nat.reduceSub, Nat.reduceLeDiff, Nat.reduceEqDiff, Int.reduceToNat, Int.reduceLT, Int.reduceLE, Int.reduceAdd, Int.reduceSub, Int.reduceEq, reduceIte, Nat.reduceBNe, Int.reducePow, Nat.reducePow, Int.reduceMul, Int.reduceNeg, isB_i, isB_b, isB_y, isBv_i, isBv_b, eqCells_t, TT]
      exact ⟨⟨by omega, by omega⟩, by rw [dsC_len]; omega⟩
theorem rlay_spec (h : RC4 H c r t lr lt nr nt cr ct ar at' c1 c2 c3) (i : Nat) (hi : i < nt) {q : Bool × SC} (hq : lt[i]? = some q) (hs : q.1 = false) (b sp : List UInt8) (cp : Nat) (hcp : b.length ≤ cp) (h1 : 60 ≤ b.length) (h2 : b.length ≤ 1514) : Spec cx.P 36 [.c (.ptr c 0), .c (i64 i), .c (roB b sp cp)] H fun s h' => ∃ z, s = .c (i64 0) ∧ h' = (H ++ [wB true (b ++ z)]).set t (dB true (lt.set i (true, slB H.length b z))) := by
  have hc := h.hc
  have hr := h.ht
  have ltc := lt_of hc
  have ltr := lt_of hr
  have g0 := dsC_0 hq
  rw [hs] at g0
  have nrl := h.lt
  have d1 : decide ((i : Int) < 0) = false := by simp only [decide_eq_false_iff_not]; omega
  have d2 : decide ((nt : Int) ≤ (i : Int)) = false := by simp only [decide_eq_false_iff_not]; omega
  have d3 : decide ((b.length : Int) < 60) = false := by simp only [decide_eq_false_iff_not]; omega
  have d4 : decide (1514 < (b.length : Int)) = false := by simp only [decide_eq_false_iff_not]; omega
  refine spec_of_X cx_ok Try.func36 rfl (by kernel_rfl) (by kernel_rfl) (Nat.le_of_ble_eq_true rfl) 400 8 ?_
  simp (maxSteps := 4000000) only [Try.results36, XX, Nat.reduceBEq, Nat.reduceLT, Nat.reduceAdd, Nat.reduceMul, Nat.reduceSub, Nat.reduceLeDiff, Nat.reduceEqDiff, Int.reduceToNat, Int.reduceLT, Int.reduceLE, Int.reduceAdd, Int.reduceSub, Int.reduceEq, reduceIte, Nat.reduceBNe, Int.reducePow, Nat.reducePow, Int.reduceMul, Int.reduceNeg, isB_i, isB_b, isB_y, isBv_i, isBv_b, eqCells_t, TT]
  simp (maxSteps := 4000000) only [Try.results36, hc, hr, ltc, ltr, d1, d2, d3, d4, g0, XX, Nat.reduceBEq, Nat.reduceLT, Nat.reduceAdd, Nat.reduceMul, Nat.reduceSub, Nat.reduceLeDiff, Nat.reduceEqDiff, Int.reduceToNat, Int.reduceLT, Int.reduceLE, Int.reduceAdd, Int.reduceSub, Int.reduceEq, reduceIte, Nat.reduceBNe, Int.reducePow, Nat.reducePow, Int.reduceMul, Int.reduceNeg, isB_i, isB_b, isB_y, isBv_i, isBv_b, eqCells_t, TT]
  refine ⟨⟨by omega, by omega⟩, by rw [dsC_len]; omega, ?_⟩
  refine call_fz [.c (roB b sp cp)] (copied_spec b sp cp hcp (by omega)) (fun t h' h => resS_noRo h) ⟨.inl ⟨rfl, rfl⟩, trivial⟩ ?_
  rintro _ _ ⟨z, o, rfl, rfl, ho⟩
  obtain rfl := ho (by omega)
  have hc1 : (H ++ [wB true (b ++ z)])[c]? = some (rcB (.sl r 0 nr cr) (.sl t 0 nt ct) ar at' c1 c2 c3) := by rw [List.getElem?_append_left ltc, hc]
  have hr1 : (H ++ [wB true (b ++ z)])[t]? = some (dB true lt) := by rw [List.getElem?_append_left ltr, hr]
  have lc1 := lt_of hc1
  have lr1 := lt_of hr1
  have ds := dsC_set (true, slB H.length b z) hq
  simp (maxSteps := 4000000) only [Try.results36, ids_bsC, ren_bsC, noRo_bsC, plain_bsC, lt_bsC, ids_byte, ren_byte, noRo_byte, plain_byte, lt_byte, hc1, hr1, lc1, lr1, ds, XX, Nat.reduceBEq, Nat.reduceLT, Nat.reduceAdd, Nat.reduceMul, Nat.reduceSub, Nat.reduceLeDiff, Nat.reduceEqDiff, Int.reduceToNat, Int.reduceLT, Int.reduceLE, Int.reduceAdd, Int.reduceSub, Int.reduceEq, reduceIte, Nat.reduceBNe, Int.reducePow, Nat.reducePow, Int.reduceMul, Int.reduceNeg, isB_i, isB_b, isB_y, isBv_i, isBv_b, eqCells_t, TT]
  exact ⟨⟨by omega, by omega⟩, by rw [dsC_len]; omega, z, rfl⟩
theorem rrxN_spec (h : RC4 H c r t lr lt nr nt cr ct ar at' c1 c2 c3) (i : Int) (hi : i < 0 ∨ (nr : Int) ≤ i) : Spec cx.P 31 [.c (.ptr c 0), .c (i64 i)] H fun s h' => s = .tup [(true, [bC false, .v (.slice none 0 0)]), (false, [i64 40])] ∧ ∃ x, h' = H ++ [x] := by
  have hc := h.hc
  have ltc := lt_of hc
  have hcx : ∀ x, (H ++ [x])[c]? = some (rcB (.sl r 0 nr cr) (.sl t 0 nt ct) ar at' c1 c2 c3) := fun x => by rw [List.getElem?_append_left ltc, hc]
  have gn : ∀ x, (H ++ [x])[H.length]? = some x := fun x => by rw [List.getElem?_append_right (Nat.le_refl _), Nat.sub_self]; rfl
  have ltd : c < H.length + 1 := by omega
  have lte : H.length < H.length + 1 := by omega
  refine spec_of_X cx_ok Try.func31 rfl (by kernel_rfl) (by kernel_rfl) (Nat.le_of_ble_eq_true rfl) 400 7 ?_
  simp (maxSteps := 4000000) only [Try.results31, XX, Nat.reduceBEq, Nat.reduceLT, Nat.reduceAdd, Nat.reduceMul, Nat.reduceSub, Nat.reduceLeDiff, Nat.reduceEqDiff, Int.reduceToNat, Int.reduceLT, Int.reduceLE, Int.reduceAdd, Int.reduceSub, Int.reduceEq, reduceIte, Nat.reduceBNe, Int.reducePow, Nat.reducePow, Int.reduceMul, Int.reduceNeg, isB_i, isB_b, isB_y, isBv_i, isBv_b, eqCells_t, TT]
  cases d1 : decide (i < 0)
  · have d2 : decide ((nr : Int) ≤ i) = true := by simp only [decide_eq_false_iff_not] at d1; simp only [decide_eq_true_eq]; omega
    simp (maxSteps := 4000000) only [Try.results31, hcx, ltd, lte, gn, d1, d2, gset, Option.map_some, XX, Nat.reduceBEq, Nat.reduceLT, Nat.reduceAdd, Nat.reduceMul, Nat.reduceSub, Nat.reduceLeDiff, Nat.reduceEqDiff, Int.reduceToNat, Int.reduceLT, Int.reduceLE, Int.reduceAdd, Int.reduceSub, Int.reduceEq, reduceIte, Nat.reduceBNe, Int.reducePow, Nat.reducePow, Int.reduceMul, Int.reduceNeg, isB_i, isB_b, isB_y, isBv_i, isBv_b, eqCells_t, TT]
    exact ⟨_, by rw [List.set_append_right _ _ (Nat.le_refl _), Nat.sub_self]; rfl⟩
  · simp (maxSteps := 4000000) only [Try.results31, hcx, ltd, lte, gn, d1, gset, Option.map_some, XX, Nat.reduceBEq, Nat.reduceLT, Nat.reduceAdd, Nat.reduceMul, Nat.reduceSub, Nat.reduceLeDiff, Nat.reduceEqDiff, Int.reduceToNat, Int.reduceLT, Int.reduceLE, Int.reduceAdd, Int.reduceSub, Int.reduceEq, reduceIte, Nat.reduceBNe, Int.reducePow, Nat.reducePow, Int.reduceMul, Int.reduceNeg, isB_i, isB_b, isB_y, isBv_i, isBv_b, eqCells_t, TT]
    exact ⟨_, by rw [List.set_append_right _ _ (Nat.le_refl _), Nat.sub_self]; rfl⟩
theorem rrx_spec (h : RC4 H c r t lr lt nr nt cr ct ar at' c1 c2 c3) (i : Nat) (hi : i < nr) {q : Bool × SC} (hq : lr[i]? = some q) {d : List UInt8} {S : Nat → Prop} (hx : DX S H q.2 d) (hd : d.length ≤ 1514) : Spec cx.P 31 [.c (.ptr c 0), .c (i64 i)] H fun s h' => ∃ x z o, s = .tup [(true, [bC q.1, slB (H.length + 1) d z]), (false, [i64 0])] ∧ h' = H ++ [x, wB o (d ++ z)] ∧ (0 < d.length + z.length → o = true) := by
  have hc := h.hc
  have hr := h.hr
  have ltc := lt_of hc
  have ltr := lt_of hr
  have g0 := dsC_0 hq
  have g1 := dsC_1 hq
  have nrl := h.lr
  have d1 : decide ((i : Int) < 0) = false := by simp only [decide_eq_false_iff_not]; omega
  have d2 : decide ((nr : Int) ≤ (i : Int)) = false := by simp only [decide_eq_false_iff_not]; omega
  have hcx : ∀ X, (H ++ X)[c]? = some (rcB (.sl r 0 nr cr) (.sl t 0 nt ct) ar at' c1 c2 c3) := fun x => by rw [List.getElem?_append_left ltc, hc]
  have hrx : ∀ X, (H ++ X)[r]? = some (dB true lr) := fun x => by rw [List.getElem?_append_left ltr, hr]
  have gn : ∀ x, (H ++ [x])[H.length]? = some x := fun x => by rw [List.getElem?_append_right (Nat.le_refl _), Nat.sub_self]; rfl
  have ltd : c < H.length + 1 := by omega
  have lte : H.length < H.length + 1 := by omega
  have ltf : r < H.length + 1 := by omega
  refine spec_of_X cx_ok Try.func31 rfl (by kernel_rfl) (by kernel_rfl) (Nat.le_of_ble_eq_true rfl) 400 7 ?_
  simp (maxSteps := 4000000) only [Try.results31, XX, Nat.reduceBEq, Nat.reduceLT, Nat.reduceAdd, Nat.reduceMul, Nat.reduceSub, Nat.reduceLeDiff, Nat.reduceEqDiff, Int.reduceToNat, Int.reduceLT, Int.reduceLE, Int.reduceAdd, Int.reduceSub, Int.reduceEq, reduceIte, Nat.reduceBNe, Int.reducePow, Nat.reducePow, Int.reduceMul, Int.reduceNeg, isB_i, isB_b, isB_y, isBv_i, isBv_b, eqCells_t, TT]
  simp (maxSteps := 4000000) only [Try.results31, hcx, hrx, ltd, lte, ltf, gn, d1, d2, g0, g1, gset, Option.map_some, XX, Nat.reduceBEq, Nat.reduceLT, Nat.reduceAdd, Nat.reduceMul, Nat.reduceSub, Nat.reduceLeDiff, Nat.reduceEqDiff, Int.reduceToNat, Int.reduceLT, Int.reduceLE, Int.reduceAdd, Int.reduceSub, Int.reduceEq, reduceIte, Nat.reduceBNe, Int.reducePow, Nat.reducePow, Int.reduceMul, Int.reduceNeg, isB_i, isB_b, isB_y, isBv_i, isBv_b, eqCells_t, TT]
  refine ⟨⟨by omega, by omega⟩, by rw [dsC_len]; omega, ?_⟩
  obtain ⟨sp, cp, hcp, hf⟩ := (hx.app [⟨true, 40, [.v (.bool false), .v (.slice none 0 0)]⟩]).fz (r := renF [] (H.length + 1)) (n := 0)
  have hlen : (H ++ [(⟨true, 40, [.v (.bool false), .v (.slice none 0 0)]⟩ : SB)]).length = H.length + 1 := by simp
  refine call_fz [.c (roB d sp cp)] (copied_spec d sp cp hcp (by omega)) (fun t h' h => resS_noRo h) ⟨fz_c (by rw [hlen]; exact hf), trivial⟩ ?_
  rintro _ _ ⟨z, o, rfl, rfl, ho⟩
  rw [hlen]
  have hcx2 : ∀ X Y, (H ++ X ++ Y)[c]? = some (rcB (.sl r 0 nr cr) (.sl t 0 nt ct) ar at' c1 c2 c3) := fun X Y => by rw [List.append_assoc]; exact hcx _
  have hrx2 : ∀ X Y, (H ++ X ++ Y)[r]? = some (dB true lr) := fun X Y => by rw [List.append_assoc]; exact hrx _
  have gn2 : ∀ x Y, (H ++ [x] ++ Y)[H.length]? = some x := fun x Y => by rw [List.append_assoc, List.getElem?_append_right (Nat.le_refl _), Nat.sub_self]; rfl
  simp (maxSteps := 4000000) only [Try.results31, ids_bsC, ren_bsC, noRo_bsC, plain_bsC, lt_bsC, ids_byte, ren_byte, noRo_byte, plain_byte, lt_byte, hcx2, hrx2, gn2, g0, g1, ltd, ltf, lte, gset, Option.map_some, XX, Nat.reduceBEq, Nat.reduceLT, Nat.reduceAdd, Nat.reduceMul, Nat.reduceSub, Nat.reduceLeDiff, Nat.reduceEqDiff, Int.reduceToNat, Int.reduceLT, Int.reduceLE, Int.reduceAdd, Int.reduceSub, Int.reduceEq, reduceIte, Nat.reduceBNe, Int.reducePow, Nat.reducePow, Int.reduceMul, Int.reduceNeg, isB_i, isB_b, isB_y, isBv_i, isBv_b, eqCells_t, TT]
  refine ⟨⟨by omega, by omega⟩, by rw [dsC_len]; omega, ⟨true, 40, [bC q.1, slB (H.length + 1) d z]⟩, z, o, rfl, ?_, ho⟩
  rw [List.append_assoc, List.set_append_right _ _ (Nat.le_refl _), Nat.sub_self]
  rfl
theorem rtxN_spec (h : RC4 H c r t lr lt nr nt cr ct ar at' c1 c2 c3) (i : Int) (hi : i < 0 ∨ (nt : Int) ≤ i) : Spec cx.P 34 [.c (.ptr c 0), .c (i64 i)] H fun s h' => s = .tup [(true, [bC false, .v (.slice none 0 0)]), (false, [i64 40])] ∧ ∃ x, h' = H ++ [x] := by
  have hc := h.hc
  have ltc := lt_of hc
  have hcx : ∀ x, (H ++ [x])[c]? = some (rcB (.sl r 0 nr cr) (.sl t 0 nt ct) ar at' c1 c2 c3) := fun x => by rw [List.getElem?_append_left ltc, hc]
  have gn : ∀ x, (H ++ [x])[H.length]? = some x := fun x => by rw [List.getElem?_append_right (Nat.le_refl _), Nat.sub_self]; rfl
  have ltd : c < H.length + 1 := by omega
  have lte : H.length < H.length + 1 := by omega
  refine spec_of_X cx_ok Try.func34 rfl (by kernel_rfl) (by kernel_rfl) (Nat.le_of_ble_eq_true rfl) 400 7 ?_
  simp (maxSteps := 4000000) only [Try.results34, XX, Nat.reduceBEq, Nat.reduceLT, Nat.reduceAdd, Nat.reduceMul, Nat.reduceSub, Nat.reduceLeDiff, Nat.reduceEqDiff, Int.reduceToNat, Int.reduceLT, Int.reduceLE, Int.reduceAdd, Int.reduceSub, Int.reduceEq, reduceIte, Nat.reduceBNe, Int.reducePow, Nat.reducePow, Int.reduceMul, Int.reduceNeg, isB_i, isB_b, isB_y, isBv_i, isBv_b, eqCells_t, TT]
  cases d1 : decide (i < 0)
  · have d2 : decide ((nt : Int) ≤ i) = true := by simp only [decide_eq_false_iff_not] at d1; simp only [decide_eq_true_eq]; omega
    simp (maxSteps := 4000000) only [Try.results34, hcx, ltd, lte, gn, d1, d2, gset, Option.map_some, XX, Nat.reduceBEq, Nat.reduceLT, Nat.reduceAdd, Nat.reduceMul, Nat.reduceSub, Nat.reduceLeDiff, Nat.reduceEqDiff, Int.reduceToNat, Int.reduceLT, Int.reduceLE, Int.reduceAdd, Int.reduceSub, Int.reduceEq, reduceIte, Nat.reduceBNe, Int.reducePow, Nat.reducePow, Int.reduceMul, Int.reduceNeg, isB_i, isB_b, isB_y, isBv_i, isBv_b, eqCells_t, TT]
    exact ⟨_, by rw [List.set_append_right _ _ (Nat.le_refl _), Nat.sub_self]; rfl⟩
  · simp (maxSteps := 4000000) only [Try.results34, hcx, ltd, lte, gn, d1, gset, Option.map_some, XX, Nat.reduceBEq, Nat.reduceLT, Nat.reduceAdd, Nat.reduceMul, Nat.reduceSub, Nat.reduceLeDiff, Nat.reduceEqDiff, Int.reduceToNat, Int.reduceLT, Int.reduceLE, Int.reduceAdd, Int.reduceSub, Int.reduceEq, reduceIte, Nat.reduceBNe, Int.reducePow, Nat.reducePow, Int.reduceMul, Int.reduceNeg, isB_i, isB_b, isB_y, isBv_i, isBv_b, eqCells_t, TT]
    exact ⟨_, by rw [List.set_append_right _ _ (Nat.le_refl _), Nat.sub_self]; rfl⟩
theorem rtx_spec (h : RC4 H c r t lr lt nr nt cr ct ar at' c1 c2 c3) (i : Nat) (hi : i < nt) {q : Bool × SC} (hq : lt[i]? = some q) {d : List UInt8} {S : Nat → Prop} (hx : DX S H q.2 d) (hd : d.length ≤ 1514) : Spec cx.P 34 [.c (.ptr c 0), .c (i64 i)] H fun s h' => ∃ x z o, s = .tup [(true, [bC q.1, slB (H.length + 1) d z]), (false, [i64 0])] ∧ h' = H ++ [x, wB o (d ++ z)] ∧ (0 < d.length + z.length → o = true) := by
  have hc := h.hc
  have hr := h.ht
  have ltc := lt_of hc
  have ltr := lt_of hr
  have g0 := dsC_0 hq
  have g1 := dsC_1 hq
  have nrl := h.lt
  have d1 : decide ((i : Int) < 0) = false := by simp only [decide_eq_false_iff_not]; omega
  have d2 : decide ((nt : Int) ≤ (i : Int)) = false := by simp only [decide_eq_false_iff_not]; omega
  have hcx : ∀ X, (H ++ X)[c]? = some (rcB (.sl r 0 nr cr) (.sl t 0 nt ct) ar at' c1 c2 c3) := fun x => by rw [List.getElem?_append_left ltc, hc]
  have hrx : ∀ X, (H ++ X)[t]? = some (dB true lt) := fun x => by rw [List.getElem?_append_left ltr, hr]
  have gn : ∀ x, (H ++ [x])[H.length]? = some x := fun x => by rw [List.getElem?_append_right (Nat.le_refl _), Nat.sub_self]; rfl
  have ltd : c < H.length + 1 := by omega
  have lte : H.length < H.length + 1 := by omega
  have ltf : t < H.length + 1 := by omega
  refine spec_of_X cx_ok Try.func34 rfl (by kernel_rfl) (by kernel_rfl) (Nat.le_of_ble_eq_true rfl) 400 7 ?_
  simp (maxSteps := 4000000) only [Try.results34, XX, Nat.reduceBEq, Nat.reduceLT, Nat.reduceAdd, Nat.reduceMul, Nat.reduceSub, Nat.reduceLeDiff, Nat.reduceEqDiff, Int.reduceToNat, Int.reduceLT, Int.reduceLE, Int.reduceAdd, Int.reduceSub, Int.reduceEq, reduceIte, Nat.reduceBNe, Int.reducePow, Nat.reducePow, Int.reduceMul, Int.reduceNeg, isB_i, isB_b, isB_y, isBv_i, isBv_b, eqCells_t, TT]
  simp (maxSteps := 4000000) only [Try.results34, hcx, hrx, ltd, lte, ltf, gn, d1, d2, g0, g1, gset, Option.map_some, XX, Nat.reduceBEq, Nat.reduceLT, Nat.reduceAdd, Nat.reduceMul, Nat.reduceSub, Nat.reduceLeDiff, Nat.reduceEqDiff, Int.reduceToNat, Int.reduceLT, Int.reduceLE, Int.reduceAdd, Int.reduceSub, Int.reduceEq, reduceIte, Nat.reduceBNe, Int.reducePow, Nat.reducePow, Int.reduceMul, Int.reduceNeg, isB_i, isB_b, isB_y, isBv_i, isBv_b, eqCells_t, TT]
  refine ⟨⟨by omega, by omega⟩, by rw [dsC_len]; omega, ?_⟩
  obtain ⟨sp, cp, hcp, hf⟩ := (hx.app [⟨true, 40, [.v (.bool false), .v (.slice none 0 0)]⟩]).fz (r := renF [] (H.length + 1)) (n := 0)
  have hlen : (H ++ [(⟨true, 40, [.v (.bool false), .v (.slice none 0 0)]⟩ : SB)]).length = H.length + 1 := by simp
  refine call_fz [.c (roB d sp cp)] (copied_spec d sp cp hcp (by omega)) (fun t h' h => resS_noRo h) ⟨fz_c (by rw [hlen]; exact hf), trivial⟩ ?_
  rintro _ _ ⟨z, o, rfl, rfl, ho⟩
  rw [hlen]
  have hcx2 : ∀ X Y, (H ++ X ++ Y)[c]? = some (rcB (.sl r 0 nr cr) (.sl t 0 nt ct) ar at' c1 c2 c3) := fun X Y => by rw [List.append_assoc]; exact hcx _
  have hrx2 : ∀ X Y, (H ++ X ++ Y)[t]? = some (dB true lt) := fun X Y => by rw [List.append_assoc]; exact hrx _
  have gn2 : ∀ x Y, (H ++ [x] ++ Y)[H.length]? = some x := fun x Y => by rw [List.append_assoc, List.getElem?_append_right (Nat.le_refl _), Nat.sub_self]; rfl
  simp (maxSteps := 4000000) only [Try.results34, ids_bsC, ren_bsC, noRo_bsC, plain_bsC, lt_bsC, ids_byte, ren_byte, noRo_byte, plain_byte, lt_byte, hcx2, hrx2, gn2, g0, g1, ltd, ltf, lte, gset, Option.map_some, XX, Nat.reduceBEq, Nat.reduceLT, Nat.reduceAdd, Nat.reduceMul, Nat.reduceSub, Nat.reduceLeDiff, Nat.reduceEqDiff, Int.reduceToNat, Int.reduceLT, Int.reduceLE, Int.reduceAdd, Int.reduceSub, Int.reduceEq, reduceIte, Nat.reduceBNe, Int.reducePow, Nat.reducePow, Int.reduceMul, Int.reduceNeg, isB_i, isB_b, isB_y, isBv_i, isBv_b, eqCells_t, TT]
  refine ⟨⟨by omega, by omega⟩, by rw [dsC_len]; omega, ⟨true, 40, [bC q.1, slB (H.length + 1) d z]⟩, z, o, rfl, ?_, ho⟩
  rw [List.append_assoc, List.set_append_right _ _ (Nat.le_refl _), Nat.sub_self]
  rfl
end

end Go.Proofs.Ytdfhmpheepobnaa.Sx
