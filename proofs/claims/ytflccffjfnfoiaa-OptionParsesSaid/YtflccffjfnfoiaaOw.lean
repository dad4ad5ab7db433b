/- The symbolic executor, at work: the book of lists that came out: they are their owner's. No condition. -/
import Derived.Test.YtflccffjfnfoiaaTk
import Derived.Test.YtflccffjfnfoiaaBf
namespace Go.Proofs.Ytflccffjfnfoiaa.Sx
open Go
set_option linter.unusedSimpArgs false
set_option linter.unusedVariables false
set_option maxRecDepth 10000
set_option maxHeartbeats 2000000

/-- The mark of a place. -/
def mkB (i n : Nat) : UInt8 := UInt8.ofNat (i * 7 + n * 13 + i / 256 + 1)
theorem mark_spec (i n : Nat) (hi : i < 4398046511104) (hn : n < 281474976710656) : Spec cx.P 40 [.c (i64 i), .c (i64 n)] [] fun s _ => s.plain = true ∧ s = .c (byteC (mkB i n)) := by
  refine spec_of_X cx_ok Try.func40 rfl (by kernel_rfl) (by kernel_rfl) (Nat.le_of_ble_eq_true rfl) 400 5 ?_
  simp (maxSteps := 4000000) only [Try.results40, XX, Nat.reduceBEq, Nat.reduceLT, Nat.reduceAdd, Nat.reduceMul, Nat.reduceSub, Nat.reduceLeDiff, Nat.reduceEqDiff, Int.reduceToNat, Int.reduceLT, Int.reduceLE, Int.reduceAdd, Int.reduceSub, Int.reduceEq, reduceIte, Nat.reduceBNe, Int.reducePow, Nat.reducePow, Int.reduceMul, Int.reduceNeg, isB_i, isB_b, isB_y, isBv_i, isBv_b, eqCells_t, TT]
  simp (disch := omega) only [tdiv256, w64]
  exact congrArg _ (byteC_nat _ (by omega))

/-- The marks of a list. -/
def mk (j m : Nat) : List UInt8 := (List.range m).map fun p => mkB j p
theorem mk_len (j m : Nat) : (mk j m).length = m := by simp [mk]
theorem mk_zero (j : Nat) : mk j 0 = [] := rfl
theorem mk_succ (j m : Nat) : mk j (m + 1) = mk j m ++ [mkB j m] := by simp [mk, List.range_succ]
/-- Further marks. -/
def mkTail (j n m : Nat) : List UInt8 := (List.range m).map fun p => mkB j (n + p)
theorem mk_split (j n m : Nat) : mk j (n + m) = mk j n ++ mkTail j n m := by
  induction m with
  | zero => simp [mkTail]
  | succ m ih => rw [← Nat.add_assoc, mk_succ, ih, List.append_assoc]; simp [mkTail, List.range_succ]
theorem mk_at {j m i : Nat} (h : i < m) : (mk j m)[i]? = some (mkB j i) := by simp [mk, h]
/-- One more is marked. -/
theorem mk_step (j i : Nat) (l : List UInt8) (hi : i < l.length) : (mk j i ++ l.drop i).take i ++ [mkB j i] ++ (mk j i ++ l.drop i).drop (i + 1) = mk j (i + 1) ++ l.drop (i + 1) := by
  rw [List.take_left' (mk_len j i), ← mk_succ]
  congr 1
  rw [List.drop_append, List.drop_of_length_le (by rw [mk_len]; omega), mk_len, List.nil_append, List.drop_drop]
  congr 1
  omega

/-- A list that came out, where it lies. -/
structure OE where
  w : Nat
  l : List UInt8
  p : List UInt8
  o : Bool
def OE.sc (e : OE) : SC := .sl e.w 0 e.l.length (e.l.length + e.p.length)

/-- The lists of a book, where they lie. -/
structure Owns (h : List SB) (es : List OE) : Prop where
  at_ : ∀ (i : Nat) (e : OE), es[i]? = some e → h[e.w]? = some (wB e.o (e.l ++ e.p))
  own : ∀ (i : Nat) (e : OE), es[i]? = some e → 0 < e.l.length + e.p.length → e.o = true
  lt : ∀ (i : Nat) (e : OE), es[i]? = some e → e.l.length < 140737488351233
  ne : ∀ (i j : Nat) (e f : OE), i ≠ j → es[i]? = some e → es[j]? = some f → e.w ≠ f.w

theorem getD_map {α : Type} {f : α → SC} {es : List α} {i : Nat} {e : α} {r : List SC} {d : SC} (h : es[i]? = some e) : (es.map f ++ r).getD i d = f e := by
  have hi : i < es.length := (List.getElem?_eq_some_iff.1 h).1
  rw [List.getD_eq_getElem?_getD, List.getElem?_append_left (by simpa using hi), List.getElem?_map, h]
  rfl

theorem set_same {h : List SB} {k : Nat} {x : SB} (hk : h[k]? = some x) : h.set k x = h := by
  apply List.ext_getElem?
  intro j
  by_cases hj : k = j
  · subst hj; rw [gset, hk]; rfl
  · rw [List.getElem?_set_ne hj]

/-- How the lists stand while they are written over and grown: 'i' of them are. -/
structure Gr (h0 : List SB) (es : List OE) (i : Nat) (H : List SB) (sG : SC) (iG r : Nat) (gs : List (Nat × Nat × Nat)) : Prop where
  len : h0.length ≤ H.length
  keep : ∀ (k : Nat), k < h0.length → (∀ (j : Nat) (e : OE), j < i → es[j]? = some e → k ≠ e.w) → H[k]? = h0[k]?
  gl : gs.length = i
  sG : (i = 0 ∧ sG = nilC) ∨ (0 < i ∧ sG = .sl iG 0 i (i + r) ∧ H[iG]? = some (listsB (gs.map (fun g => SC.sl g.1 0 (g.2.2 + 9) g.2.1) ++ List.replicate r nilC)) ∧ h0.length ≤ iG)
  at_ : ∀ (j : Nat) (e : OE) (g : Nat × Nat × Nat), es[j]? = some e → gs[j]? = some g → (∃ o q, H[g.1]? = some (wB o (mk j (e.l.length + 9) ++ q))) ∧ (∃ q, H[e.w]? = some (wB e.o (mk j e.l.length ++ q))) ∧ (g.1 = e.w ∨ h0.length ≤ g.1) ∧ g.2.2 = e.l.length ∧ (0 < i → g.1 ≠ iG)

/-- How a list stands while it is grown: 'm' places of nine are there. -/
structure Ap (H1 : List SB) (i : Nat) (e : OE) (m : Nat) (H : List SB) (w c : Nat) (o : Bool) (q : List UInt8) : Prop where
  len : H1.length ≤ H.length
  at_ : H[w]? = some (wB o (mk i (e.l.length + m) ++ q))
  own : 0 < c → o = true
  cap : c = e.l.length + m + q.length
  old : ∃ q, H[e.w]? = some (wB e.o (mk i e.l.length ++ q))
  wh : w = e.w ∨ H1.length ≤ w
  keep : ∀ (k : Nat), k < H1.length → k ≠ e.w → H[k]? = H1[k]?

theorem owned_spec (h : List SB) (ib : Nat) (es : List OE) (iL cL iW cW : Nat) (B : Book h ib (es.map OE.sc) (es.map OE.l) iL cL iW cW) (O : Owns h es) (hn : es.length < 4398046511104) :
    Spec cx.P 16 [.c (.ptr ib 0)] h fun s _ => s = .c (bC true) := by
  obtain ⟨hb, hL, hW, _, hcL, hcW⟩ := B
  rw [List.length_map] at hb hL hW hcL hcW
  have lb := lt_of hb
  have lL := lt_of hL
  have lW := lt_of hW
  have ne1 : ib ≠ iL := ne_of_ty hb hL (fun h => absurd h (by decide : (35 : Nat) ≠ 25))
  have ne2 : ib ≠ iW := ne_of_ty hb hW (fun h => absurd h (by decide : (35 : Nat) ≠ 9))
  have ne3 : iL ≠ iW := ne_of_ty hL hW (fun h => absurd h (by decide : (25 : Nat) ≠ 9))
  refine spec_of_X cx_ok Try.func16 rfl (by kernel_rfl) (by kernel_rfl) (Nat.le_of_ble_eq_true rfl) 400 15 ?_
  simp (maxSteps := 4000000) only [Try.results16, XX, Nat.reduceBEq, Nat.reduceLT, Nat.reduceAdd, Nat.reduceMul, Nat.reduceSub, Nat.reduceLeDiff, Nat.reduceEqDiff, Int.reduceToNat, Int.reduceLT, Int.reduceLE, Int.reduceAdd, Int.reduceSub, Int.reduceEq, reduceIte, Nat.reduceBNe, Int.reducePow, Nat.reducePow, Int.reduceMul, Int.reduceNeg, isB_i, isB_b, isB_y, isBv_i, isBv_b, eqCells_t, TT]
  refine loop_at cx_ok 400 (fun μ σ => ∃ i : Nat, μ = es.length - i ∧ i ≤ es.length ∧ σ = ⟨⟨15, h.length⟩, [(0, .c (.ptr ib 0)), (2, .c (bC false)), (3, .c (i64 i))], h⟩) es.length
    ⟨⟨15, h.length⟩, [(0, .c (.ptr ib 0)), (2, .c (bC false)), (3, .c (i64 (0 : Nat)))], h⟩ ⟨0, rfl, Nat.zero_le _, rfl⟩ ⟨rfl, rfl, rfl, rfl, rfl, trivial⟩ ?_
  rintro μ σ ⟨i, rfl, hi, rfl⟩
  by_cases hlt : i < es.length
  · have hd : decide ((i : Int) < (es.length : Int)) = true := by simp only [decide_eq_true_eq]; omega
    simp (maxSteps := 4000000) only [Try.results16, hb, hd, XX, Nat.reduceBEq, Nat.reduceLT, Nat.reduceAdd, Nat.reduceMul, Nat.reduceSub, Nat.reduceLeDiff, Nat.reduceEqDiff, Int.reduceToNat, Int.reduceLT, Int.reduceLE, Int.reduceAdd, Int.reduceSub, Int.reduceEq, reduceIte, Nat.reduceBNe, Int.reducePow, Nat.reducePow, Int.reduceMul, Int.reduceNeg, isB_i, isB_b, isB_y, isBv_i, isBv_b, eqCells_t, TT]
    obtain ⟨e, he⟩ : ∃ e, es[i]? = some e := ⟨_, List.getElem?_eq_getElem hlt⟩
    have g1 : (es.map OE.sc ++ List.replicate (cL - es.length) nilC).getD i .any = .sl e.w 0 e.l.length (e.l.length + e.p.length) := getD_map he
    have g2 : ((es.map OE.l).map strB ++ List.replicate (cW - es.length) noS).getD i .any = strB e.l := by rw [List.map_map]; exact getD_map he
    have tk : (bsC (e.l ++ e.p)).take e.l.length = bsC e.l := by rw [bs_take, List.take_left' rfl]
    have e3 : IntKind.i64.wrap ((i : Int) + 1) = ((i + 1 : Nat) : Int) := by rw [w64] <;> omega
    by_cases hv : (wB e.o (e.l ++ e.p)).void = true
    · obtain ⟨w, l, p, o⟩ := e
      simp only [SB.void, Bool.and_eq_true, Bool.not_eq_true', List.isEmpty_iff, List.map_eq_nil_iff, List.append_eq_nil_iff] at hv
      obtain ⟨rfl, rfl, rfl⟩ := hv
      have tk : strOf [] = ⟨([] : List UInt8).toArray⟩ := rfl
      obtain ⟨o1, m1⟩ : ∃ o, (maskL [ib, iL, iW] 0 h)[ib]? = some ⟨o, 35, [.sl iL 0 es.length cL, .sl iW 0 es.length cW]⟩ := maskL_at hb
      obtain ⟨o2, m2⟩ : ∃ o, (maskL [ib, iL, iW] 0 h)[iL]? = some ⟨o, 25, es.map OE.sc ++ List.replicate (cL - es.length) nilC⟩ := maskL_at hL
      obtain ⟨o3, m3⟩ : ∃ o, (maskL [ib, iL, iW] 0 h)[iW]? = some ⟨o, 9, (es.map OE.l).map strB ++ List.replicate (cW - es.length) noS⟩ := maskL_at hW
      have m4 := O.at_ i _ he
      obtain ⟨o4, m5⟩ : ∃ o, (maskL [ib, iL, iW] 0 h)[w]? = some ⟨o, 5, []⟩ := maskL_at m4
      have hok := kept_cons hb rfl (kept_cons hL rfl (kept_cons hW rfl kept_nil))
      refine draw_of cx_ok (by kernel_rfl) 400 [ib, iL, iW] [(0, true), (1, true), (2, true), (3, true), (4, true), (5, true), (6, true), (7, true), (8, true), (9, true), (10, true), (11, true), (12, true), (13, true), (14, true), (15, true)] (by kernel_rfl) (by first | exact hok | simp [*]) ?_
      simp (maxSteps := 4000000) only [Try.results16, m1, m2, m3, m5, g1, g2, tk, str_eq, List.not_mem_nil, unL_maskL, e3, XX, Nat.reduceBEq, Nat.reduceLT, Nat.reduceAdd, Nat.reduceMul, Nat.reduceSub, Nat.reduceLeDiff, Nat.reduceEqDiff, Int.reduceToNat, Int.reduceLT, Int.reduceLE, Int.reduceAdd, Int.reduceSub, Int.reduceEq, reduceIte, Nat.reduceBNe, Int.reducePow, Nat.reducePow, Int.reduceMul, Int.reduceNeg, isB_i, isB_b, isB_y, isBv_i, isBv_b, eqCells_t, TT]
      exact ⟨by omega, by simp; omega, by omega, by simp; omega, es.length - (i + 1), by omega, _, ⟨i + 1, rfl, by omega, rfl⟩, rfl, rfl, rfl, rfl, rfl, trivial⟩
    · have hv : (wB e.o (e.l ++ e.p)).void = false := by simpa using hv
      have m4 := O.at_ i _ he
      obtain ⟨o1, m1⟩ : ∃ o, (maskL [ib, iL, iW, e.w] 0 h)[ib]? = some ⟨o, 35, [.sl iL 0 es.length cL, .sl iW 0 es.length cW]⟩ := maskL_at hb
      obtain ⟨o2, m2⟩ : ∃ o, (maskL [ib, iL, iW, e.w] 0 h)[iL]? = some ⟨o, 25, es.map OE.sc ++ List.replicate (cL - es.length) nilC⟩ := maskL_at hL
      obtain ⟨o3, m3⟩ : ∃ o, (maskL [ib, iL, iW, e.w] 0 h)[iW]? = some ⟨o, 9, (es.map OE.l).map strB ++ List.replicate (cW - es.length) noS⟩ := maskL_at hW
      obtain ⟨o4, m5⟩ : ∃ o, (maskL [ib, iL, iW, e.w] 0 h)[e.w]? = some ⟨o, 5, bsC (e.l ++ e.p)⟩ := maskL_at m4
      have hok := kept_cons hb rfl (kept_cons hL rfl (kept_cons hW rfl (kept_cons m4 hv kept_nil)))
      refine draw_of cx_ok (by kernel_rfl) 400 [ib, iL, iW, e.w] [(0, true), (1, true), (2, true), (3, true), (4, true), (5, true), (6, true), (7, true), (8, true), (9, true), (10, true), (11, true), (12, true), (13, true), (14, true), (15, true)] (by kernel_rfl) (by first | exact hok | simp [*]) ?_
      simp (maxSteps := 4000000) only [Try.results16, m1, m2, m3, m5, g1, g2, tk, strOf_bsC, str_eq, unL_maskL, e3, XX, Nat.reduceBEq, Nat.reduceLT, Nat.reduceAdd, Nat.reduceMul, Nat.reduceSub, Nat.reduceLeDiff, Nat.reduceEqDiff, Int.reduceToNat, Int.reduceLT, Int.reduceLE, Int.reduceAdd, Int.reduceSub, Int.reduceEq, reduceIte, Nat.reduceBNe, Int.reducePow, Nat.reducePow, Int.reduceMul, Int.reduceNeg, isB_i, isB_b, isB_y, isBv_i, isBv_b, eqCells_t, TT]
      exact ⟨by omega, by simp; omega, ⟨by simp, isByte_bsC e.l⟩, by omega, by simp; omega, es.length - (i + 1), by omega, _, ⟨i + 1, rfl, by omega, rfl⟩, rfl, rfl, rfl, rfl, rfl, trivial⟩
  have hi' : i = es.length := by omega
  subst hi'
  have hd : decide ((es.length : Int) < (es.length : Int)) = false := by simp
  simp (maxSteps := 4000000) only [Try.results16, hb, hd, XX, Nat.reduceBEq, Nat.reduceLT, Nat.reduceAdd, Nat.reduceMul, Nat.reduceSub, Nat.reduceLeDiff, Nat.reduceEqDiff, Int.reduceToNat, Int.reduceLT, Int.reduceLE, Int.reduceAdd, Int.reduceSub, Int.reduceEq, reduceIte, Nat.reduceBNe, Int.reducePow, Nat.reducePow, Int.reduceMul, Int.reduceNeg, isB_i, isB_b, isB_y, isBv_i, isBv_b, eqCells_t, TT]
  refine loop_at cx_ok 400 (fun μ σ => ∃ (i : Nat) (H : List SB) (sG : SC) (iG r : Nat) (gs : List (Nat × Nat × Nat)), μ = es.length - i ∧ i ≤ es.length ∧ Gr h es i H sG iG r gs ∧
      σ = ⟨⟨15, h.length⟩, [(0, .c (.ptr ib 0)), (2, .c (bC false)), (4, .c sG), (5, .c (i64 i))], H⟩) es.length
    ⟨⟨15, h.length⟩, [(0, .c (.ptr ib 0)), (2, .c (bC false)), (4, .c nilC), (5, .c (i64 (0 : Nat)))], h⟩
    ⟨0, h, nilC, 0, 0, [], rfl, Nat.zero_le _, ⟨Nat.le_refl _, fun _ _ _ => rfl, rfl, .inl ⟨rfl, rfl⟩, fun j e g _ hg => by simp at hg⟩, rfl⟩ ⟨rfl, rfl, rfl, rfl, rfl, rfl, trivial⟩ ?_
  rintro μ σ ⟨i, H, sG, iG, r, gs, rfl, hi, G, rfl⟩
  have kb : H[ib]? = some (bookB (.sl iL 0 es.length cL) (.sl iW 0 es.length cW)) := (G.keep ib lb fun j e _ he => ne_of_ty hb (O.at_ j e he) (fun h => absurd h (by decide : (35 : Nat) ≠ 5))).trans hb
  have kL : H[iL]? = some (listsB (es.map OE.sc ++ List.replicate (cL - es.length) nilC)) := (G.keep iL lL fun j e _ he => ne_of_ty hL (O.at_ j e he) (fun h => absurd h (by decide : (25 : Nat) ≠ 5))).trans hL
  by_cases hlt : i < es.length
  · have hd : decide ((i : Int) < (es.length : Int)) = true := by simp only [decide_eq_true_eq]; omega
    obtain ⟨e, he⟩ : ∃ e, es[i]? = some e := ⟨_, List.getElem?_eq_getElem hlt⟩
    have g1 : (es.map OE.sc ++ List.replicate (cL - es.length) nilC).getD i .any = .sl e.w 0 e.l.length (e.l.length + e.p.length) := getD_map he
    have ke : H[e.w]? = some (wB e.o (e.l ++ e.p)) := (G.keep e.w (lt_of (O.at_ i e he)) fun j f hj hf => O.ne i j e f (by omega) he hf).trans (O.at_ i e he)
    have hlen := O.lt i e he
    simp (maxSteps := 4000000) only [Try.results16, kb, kL, hd, g1, XX, Nat.reduceBEq, Nat.reduceLT, Nat.reduceAdd, Nat.reduceMul, Nat.reduceSub, Nat.reduceLeDiff, Nat.reduceEqDiff, Int.reduceToNat, Int.reduceLT, Int.reduceLE, Int.reduceAdd, Int.reduceSub, Int.reduceEq, reduceIte, Nat.reduceBNe, Int.reducePow, Nat.reducePow, Int.reduceMul, Int.reduceNeg, isB_i, isB_b, isB_y, isBv_i, isBv_b, eqCells_t, TT]
    refine ⟨⟨by omega, by omega⟩, by simp; omega, ?_⟩
    -- the marks
    refine loop_at cx_ok 400 (fun μ σ => ∃ m : Nat, μ = e.l.length - m ∧ m ≤ e.l.length ∧ σ = ⟨⟨15, h.length⟩, [(0, .c (.ptr ib 0)), (2, .c (bC false)), (4, .c sG), (5, .c (i64 i)), (6, .c (.sl e.w 0 e.l.length (e.l.length + e.p.length))), (7, .c (i64 m))],
        H.set e.w (wB e.o (mk i m ++ (e.l ++ e.p).drop m))⟩) e.l.length
      ⟨⟨15, h.length⟩, [(0, .c (.ptr ib 0)), (2, .c (bC false)), (4, .c sG), (5, .c (i64 i)), (6, .c (.sl e.w 0 e.l.length (e.l.length + e.p.length))), (7, .c (i64 (0 : Nat)))], H.set e.w (wB e.o (mk i 0 ++ (e.l ++ e.p).drop 0))⟩
      ⟨0, rfl, Nat.zero_le _, rfl⟩ ⟨rfl, (set_same ke).symm, rfl, rfl, rfl, rfl, rfl, rfl, trivial⟩ ?_
    rintro μ σ ⟨m, rfl, hm, rfl⟩
    by_cases hlt2 : m < e.l.length
    · have hd2 : decide ((m : Int) < (e.l.length : Int)) = true := by simp only [decide_eq_true_eq]; omega
      have e3 : IntKind.i64.wrap ((m : Int) + 1) = ((m + 1 : Nat) : Int) := by rw [w64] <;> omega
      have ho : e.o = true := O.own i e he (by omega)
      simp (maxSteps := 4000000) only [Try.results16, hd2, XX, Nat.reduceBEq, Nat.reduceLT, Nat.reduceAdd, Nat.reduceMul, Nat.reduceSub, Nat.reduceLeDiff, Nat.reduceEqDiff, Int.reduceToNat, Int.reduceLT, Int.reduceLE, Int.reduceAdd, Int.reduceSub, Int.reduceEq, reduceIte, Nat.reduceBNe, Int.reducePow, Nat.reducePow, Int.reduceMul, Int.reduceNeg, isB_i, isB_b, isB_y, isBv_i, isBv_b, eqCells_t, TT]
      refine call_plain (mark_spec i m (by omega) (by omega)) rfl ?_
      rintro _ rfl
      simp (maxSteps := 4000000) only [Try.results16, e3, gset, ke, ho, List.set_set, XX, Nat.reduceBEq, Nat.reduceLT, Nat.reduceAdd, Nat.reduceMul, Nat.reduceSub, Nat.reduceLeDiff, Nat.reduceEqDiff, Int.reduceToNat, Int.reduceLT, Int.reduceLE, Int.reduceAdd, Int.reduceSub, Int.reduceEq, reduceIte, Nat.reduceBNe, Int.reducePow, Nat.reducePow, Int.reduceMul, Int.reduceNeg, isB_i, isB_b, isB_y, isBv_i, isBv_b, eqCells_t, TT]
      refine ⟨by omega, by simp [mk_len]; omega, e.l.length - (m + 1), by omega, _, ⟨m + 1, rfl, by omega, rfl⟩, rfl, ?_, rfl, rfl, rfl, rfl, rfl, rfl, trivial⟩
      simp only [bs_take, bs_drop, bs_one, bs_app, mk_step i m (e.l ++ e.p) (by simp; omega)]
    have hm' : m = e.l.length := by omega
    subst hm'
    have hd2 : decide ((e.l.length : Int) < (e.l.length : Int)) = false := by simp
    simp (maxSteps := 4000000) only [Try.results16, hd2, XX, Nat.reduceBEq, Nat.reduceLT, Nat.reduceAdd, Nat.reduceMul, Nat.reduceSub, Nat.reduceLeDiff, Nat.reduceEqDiff, Int.reduceToNat, Int.reduceLT, Int.reduceLE, Int.reduceAdd, Int.reduceSub, Int.reduceEq, reduceIte, Nat.reduceBNe, Int.reducePow, Nat.reducePow, Int.reduceMul, Int.reduceNeg, isB_i, isB_b, isB_y, isBv_i, isBv_b, eqCells_t, TT]
    rw [List.drop_left' rfl]
    have H1l : (H.set e.w (wB e.o (mk i e.l.length ++ e.p))).length = H.length := List.length_set
    have H1e : (H.set e.w (wB e.o (mk i e.l.length ++ e.p)))[e.w]? = some (wB e.o (mk i e.l.length ++ e.p)) := by rw [gset, ke]; rfl
    have H1k : ∀ k, k ≠ e.w → (H.set e.w (wB e.o (mk i e.l.length ++ e.p)))[k]? = H[k]? := fun k hk => List.getElem?_set_ne (fun h => hk h.symm)
    generalize H.set e.w (wB e.o (mk i e.l.length ++ e.p)) = H1 at H1l H1e H1k ⊢
    -- nine more
    refine loop_at cx_ok 400 (fun μ σ => ∃ (m : Nat) (H : List SB) (w c : Nat) (o : Bool) (q : List UInt8), μ = 9 - m ∧ m ≤ 9 ∧ Ap H1 i e m H w c o q ∧
        σ = ⟨⟨15, h.length⟩, [(0, .c (.ptr ib 0)), (2, .c (bC false)), (4, .c sG), (5, .c (i64 i)), (6, .c (.sl e.w 0 e.l.length (e.l.length + e.p.length))), (8, .c (.sl w 0 (e.l.length + m) c)), (9, .c (i64 m))], H⟩) 9
      ⟨⟨15, h.length⟩, [(0, .c (.ptr ib 0)), (2, .c (bC false)), (4, .c sG), (5, .c (i64 i)), (6, .c (.sl e.w 0 e.l.length (e.l.length + e.p.length))), (8, .c (.sl e.w 0 (e.l.length + 0) (e.l.length + e.p.length))), (9, .c (i64 (0 : Nat)))], H1⟩
      ⟨0, H1, e.w, e.l.length + e.p.length, e.o, e.p, rfl, by omega, ⟨Nat.le_refl _, H1e, O.own i e he, rfl, ⟨_, H1e⟩, .inl rfl, fun _ _ _ => rfl⟩, rfl⟩ ⟨rfl, rfl, rfl, rfl, rfl, rfl, rfl, rfl, rfl, trivial⟩ ?_
    rintro μ σ ⟨m, H2, w, c, o, q, rfl, hm, A, rfl⟩
    by_cases hlt2 : m < 9
    · have hd2 : decide ((m : Int) < 9) = true := by simp only [decide_eq_true_eq]; omega
      have e3 : IntKind.i64.wrap ((m : Int) + 1) = ((m + 1 : Nat) : Int) := by rw [w64] <;> omega
      have e4 : IntKind.i64.wrap ((e.l.length : Int) + (m : Int)) = ((e.l.length + m : Nat) : Int) := by rw [w64] <;> omega
      simp (maxSteps := 4000000) only [Try.results16, hd2, e4, XX, Nat.reduceBEq, Nat.reduceLT, Nat.reduceAdd, Nat.reduceMul, Nat.reduceSub, Nat.reduceLeDiff, Nat.reduceEqDiff, Int.reduceToNat, Int.reduceLT, Int.reduceLE, Int.reduceAdd, Int.reduceSub, Int.reduceEq, reduceIte, Nat.reduceBNe, Int.reducePow, Nat.reducePow, Int.reduceMul, Int.reduceNeg, isB_i, isB_b, isB_y, isBv_i, isBv_b, eqCells_t, TT]
      refine call_plain (mark_spec i (e.l.length + m) (by omega) (by omega)) rfl ?_
      rintro _ rfl
      have lw := lt_of A.at_
      simp (maxSteps := 4000000) only [Try.results16, A.at_, lw, List.append_assoc, List.getElem?_append_left, List.getElem?_append_right, List.length_append, List.length_set, List.set_append_left, gset, List.getElem?_set_ne, Nat.add_sub_cancel_left, Nat.sub_self, Nat.le_refl, Nat.le_add_right, rep_flat, List.replicate_one, List.flatten_cons, List.flatten_nil, XX, Nat.reduceBEq, Nat.reduceLT, Nat.reduceAdd, Nat.reduceMul, Nat.reduceSub, Nat.reduceLeDiff, Nat.reduceEqDiff, Int.reduceToNat, Int.reduceLT, Int.reduceLE, Int.reduceAdd, Int.reduceSub, Int.reduceEq, reduceIte, Nat.reduceBNe, Int.reducePow, Nat.reducePow, Int.reduceMul, Int.reduceNeg, isB_i, isB_b, isB_y, isBv_i, isBv_b, eqCells_t, TT]
      have tk : (bsC (mk i (e.l.length + m) ++ q)).take (e.l.length + m) = bsC (mk i (e.l.length + m)) := by rw [bs_take, List.take_left' (mk_len _ _)]
      refine ⟨⟨by omega, by unfold maxLen; omega, by simp [mk_len], fun h => ⟨A.own (by omega), by simp [mk_len]; have := A.cap; omega⟩⟩, xapp_both (fun hr => ?_) (fun hg c' hc' _ => ?_)⟩
      · obtain rfl := A.own (by omega)
        obtain ⟨x, q1, rfl⟩ : ∃ x q1, q = x :: q1 := by
          cases q with
          | nil => have := A.cap; simp at this; omega
          | cons x q1 => exact ⟨x, q1, rfl⟩
        have tl : (bsC (mk i (e.l.length + m) ++ x :: q1)).drop (e.l.length + m + 1) = bsC q1 := by
          rw [bs_drop, List.drop_append, List.drop_of_length_le (by rw [mk_len]; omega), mk_len, show e.l.length + m + 1 - (e.l.length + m) = 1 by omega]; rfl
        have mm : bsC (mk i (e.l.length + m)) ++ byteC (mkB i (e.l.length + m)) :: bsC q1 = bsC (mk i (e.l.length + (m + 1)) ++ q1) := by
          rw [show e.l.length + (m + 1) = e.l.length + m + 1 by omega, mk_succ, bs_cons, bs_app, List.append_assoc]; rfl
        simp (maxSteps := 4000000) only [Try.results16, e3, tk, tl, mm, A.at_, lw, List.append_assoc, List.getElem?_append_left, List.getElem?_append_right, List.length_append, List.length_set, List.set_append_left, gset, List.getElem?_set_ne, Nat.add_sub_cancel_left, Nat.sub_self, Nat.le_refl, Nat.le_add_right, rep_flat, List.replicate_one, List.flatten_cons, List.flatten_nil, XX, Nat.reduceBEq, Nat.reduceLT, Nat.reduceAdd, Nat.reduceMul, Nat.reduceSub, Nat.reduceLeDiff, Nat.reduceEqDiff, Int.reduceToNat, Int.reduceLT, Int.reduceLE, Int.reduceAdd, Int.reduceSub, Int.reduceEq, reduceIte, Nat.reduceBNe, Int.reducePow, Nat.reducePow, Int.reduceMul, Int.reduceNeg, isB_i, isB_b, isB_y, isBv_i, isBv_b, eqCells_t, TT]
        refine ⟨9 - (m + 1), by omega, _, ⟨m + 1, _, w, c, true, q1, rfl, by omega, ⟨?_, ?_, fun _ => rfl, ?_, ?_, A.wh, ?_⟩, rfl⟩, rfl, rfl, rfl, rfl, rfl, rfl, rfl, rfl, rfl, trivial⟩
        · have := A.len; simp; omega
        · rw [List.getElem?_append_left (by simpa using lw), gset, A.at_]; rfl
        · have := A.cap; simp at this ⊢; omega
        · obtain ⟨q', hq'⟩ := A.old
          by_cases hw : w = e.w
          · subst hw
            refine ⟨mkTail i e.l.length (m + 1) ++ q1, ?_⟩
            have ho : e.o = true := by
              have h9 := hq'.symm.trans A.at_
              simp only [Option.some.injEq, SB.mk.injEq] at h9
              exact h9.1
            rw [List.getElem?_append_left (by simpa using lw), gset, A.at_, ← List.append_assoc, ← mk_split, ho]; rfl
          · exact ⟨q', by rw [List.getElem?_append_left (by simpa using lt_of hq'), List.getElem?_set_ne hw]; exact hq'⟩
        · intro k hk hne
          have hkw : w ≠ k := by rcases A.wh with h | h <;> omega
          rw [List.getElem?_append_left (by have := A.len; simp; omega), List.getElem?_set_ne hkw]
          exact A.keep k hk hne
      · have mm : bsC (mk i (e.l.length + m)) ++ byteC (mkB i (e.l.length + m)) :: bsC (List.replicate (c' - (e.l.length + m + 1)) 0) = bsC (mk i (e.l.length + (m + 1)) ++ List.replicate (c' - (e.l.length + m + 1)) 0) := by
          rw [show e.l.length + (m + 1) = e.l.length + m + 1 by omega, mk_succ, bs_cons, bs_app, List.append_assoc]; rfl
        simp (maxSteps := 4000000) only [Try.results16, e3, tk, bsC_zeros, mm, A.at_, lw, List.append_assoc, List.getElem?_append_left, List.getElem?_append_right, List.length_append, List.length_set, List.set_append_left, gset, List.getElem?_set_ne, Nat.add_sub_cancel_left, Nat.sub_self, Nat.le_refl, Nat.le_add_right, rep_flat, List.replicate_one, List.flatten_cons, List.flatten_nil, XX, Nat.reduceBEq, Nat.reduceLT, Nat.reduceAdd, Nat.reduceMul, Nat.reduceSub, Nat.reduceLeDiff, Nat.reduceEqDiff, Int.reduceToNat, Int.reduceLT, Int.reduceLE, Int.reduceAdd, Int.reduceSub, Int.reduceEq, reduceIte, Nat.reduceBNe, Int.reducePow, Nat.reducePow, Int.reduceMul, Int.reduceNeg, isB_i, isB_b, isB_y, isBv_i, isBv_b, eqCells_t, TT]
        refine ⟨9 - (m + 1), by omega, _, ⟨m + 1, _, H2.length + 1, c', true, List.replicate (c' - (e.l.length + m + 1)) 0, rfl, by omega, ⟨?_, ?_, fun _ => rfl, ?_, ?_, ?_, ?_⟩, rfl⟩, rfl, rfl, rfl, rfl, rfl, rfl, rfl, rfl, rfl, trivial⟩
        · have := A.len; simp; omega
        · rw [List.getElem?_append_right (by omega), Nat.add_sub_cancel_left]; rfl
        · simp; omega
        · obtain ⟨q', hq'⟩ := A.old
          exact ⟨q', by rw [List.getElem?_append_left (lt_of hq')]; exact hq'⟩
        · right; have := A.len; omega
        · intro k hk hne
          rw [List.getElem?_append_left (by have := A.len; omega)]
          exact A.keep k hk hne
    have hm' : m = 9 := by omega
    subst hm'
    have lw := lt_of A.at_
    have e3 : IntKind.i64.wrap ((i : Int) + 1) = ((i + 1 : Nat) : Int) := by rw [w64] <;> omega
    -- what is known of the windows behind it
    have hwG : h.length ≤ H.length := G.len
    have leH : H1.length ≤ H2.length := A.len
    have kp : ∀ k, k < H.length → k ≠ e.w → H2[k]? = H[k]? := fun k hk hne => (A.keep k (by omega) hne).trans (H1k k hne)
    have lew : e.w < h.length := lt_of (O.at_ i e he)
    have oldA : ∀ (j : Nat) (f : OE) (g : Nat × Nat × Nat), es[j]? = some f → gs[j]? = some g → (∃ o q, H2[g.1]? = some (wB o (mk j (f.l.length + 9) ++ q))) ∧ (∃ q, H2[f.w]? = some (wB f.o (mk j f.l.length ++ q))) ∧ (g.1 = f.w ∨ h.length ≤ g.1) ∧ g.2.2 = f.l.length ∧ (0 < i → g.1 ≠ iG) := by
      intro j f g hf hg
      obtain ⟨⟨o1, q1, a1⟩, ⟨q2, a2⟩, a3, a4, a5⟩ := G.at_ j f g hf hg
      have hj : j < i := by rw [← G.gl]; exact (List.getElem?_eq_some_iff.1 hg).1
      have hne : f.w ≠ e.w := O.ne j i f e (by omega) hf he
      have hne2 : g.1 ≠ e.w := by rcases a3 with h | h <;> omega
      exact ⟨⟨o1, q1, by rw [kp _ (lt_of a1) hne2]; exact a1⟩, ⟨q2, by rw [kp _ (lt_of a2) hne]; exact a2⟩, a3, a4, a5⟩
    have newA : (∃ o q, H2[w]? = some (wB o (mk i (e.l.length + 9) ++ q))) ∧ (∃ q, H2[e.w]? = some (wB e.o (mk i e.l.length ++ q))) ∧ (w = e.w ∨ h.length ≤ w) :=
      ⟨⟨_, _, A.at_⟩, A.old, by rcases A.wh with h | h <;> omega⟩
    have newG : 0 < i → w ≠ iG := by
      intro h0
      rcases G.sG with ⟨h1, _⟩ | ⟨_, _, hG, hiG⟩
      · omega
      · have := lt_of hG
        rcases A.wh with h | h <;> omega
    have allA : ∀ (j : Nat) (f : OE) (g : Nat × Nat × Nat), es[j]? = some f → (gs ++ [(w, c, e.l.length)])[j]? = some g → (∃ o q, H2[g.1]? = some (wB o (mk j (f.l.length + 9) ++ q))) ∧ (∃ q, H2[f.w]? = some (wB f.o (mk j f.l.length ++ q))) ∧ (g.1 = f.w ∨ h.length ≤ g.1) ∧ g.2.2 = f.l.length ∧ (0 < i → g.1 ≠ iG) := by
      intro j f g hf hg
      have hj : j < (gs ++ [(w, c, e.l.length)]).length := (List.getElem?_eq_some_iff.1 hg).1
      rw [List.length_append, List.length_singleton, G.gl] at hj
      by_cases hji : j < i
      · rw [List.getElem?_append_left (by rw [G.gl]; exact hji)] at hg
        exact oldA j f g hf hg
      · obtain rfl : j = i := by omega
        rw [List.getElem?_append_right (by rw [G.gl]; exact Nat.le_refl _), G.gl, Nat.sub_self] at hg
        rw [he] at hf
        cases hf
        cases hg
        exact ⟨newA.1, newA.2.1, newA.2.2, rfl, newG⟩
    have keepA : ∀ (k : Nat), k < h.length → (∀ (j : Nat) (f : OE), j < i + 1 → es[j]? = some f → k ≠ f.w) → H2[k]? = h[k]? := fun k hk hne =>
      (kp k (by omega) (hne i e (by omega) he)).trans (G.keep k hk fun j f hj hf => hne j f (by omega) hf)
    rcases G.sG with ⟨rfl, rfl⟩ | ⟨hi0, rfl, hG, hiG⟩
    · have hgs := List.eq_nil_of_length_eq_zero G.gl
      subst hgs
      simp (maxSteps := 4000000) only [Try.results16, Int.cast_ofNat_Int, A.at_, lw, List.append_assoc, List.getElem?_append_left, List.getElem?_append_right, List.length_append, List.length_set, List.set_append_left, gset, List.getElem?_set_ne, Nat.add_sub_cancel_left, Nat.sub_self, Nat.le_refl, Nat.le_add_right, rep_flat, List.replicate_one, List.flatten_cons, List.flatten_nil, XX, Nat.reduceBEq, Nat.reduceLT, Nat.reduceAdd, Nat.reduceMul, Nat.reduceSub, Nat.reduceLeDiff, Nat.reduceEqDiff, Int.reduceToNat, Int.reduceLT, Int.reduceLE, Int.reduceAdd, Int.reduceSub, Int.reduceEq, reduceIte, Nat.reduceBNe, Int.reducePow, Nat.reducePow, Int.reduceMul, Int.reduceNeg, isB_i, isB_b, isB_y, isBv_i, isBv_b, eqCells_t, TT]
      refine ⟨by unfold maxLen; omega, xapp_grow (by omega) fun cG hcG _ => ?_⟩
      simp (maxSteps := 4000000) only [Try.results16, e3, A.at_, lw, List.append_assoc, List.getElem?_append_left, List.getElem?_append_right, List.length_append, List.length_set, List.set_append_left, gset, List.getElem?_set_ne, Nat.add_sub_cancel_left, Nat.sub_self, Nat.le_refl, Nat.le_add_right, rep_flat, List.replicate_one, List.flatten_cons, List.flatten_nil, XX, Nat.reduceBEq, Nat.reduceLT, Nat.reduceAdd, Nat.reduceMul, Nat.reduceSub, Nat.reduceLeDiff, Nat.reduceEqDiff, Int.reduceToNat, Int.reduceLT, Int.reduceLE, Int.reduceAdd, Int.reduceSub, Int.reduceEq, reduceIte, Nat.reduceBNe, Int.reducePow, Nat.reducePow, Int.reduceMul, Int.reduceNeg, isB_i, isB_b, isB_y, isBv_i, isBv_b, eqCells_t, TT]
      refine ⟨es.length - 1, by omega, _, ⟨1, _, _, H2.length + 1, cG - 1, [(w, c, e.l.length)], rfl, by omega, ⟨by simp; omega, fun k hk hne => ?_, rfl, .inr ⟨by omega, rfl, ?_, by omega⟩, ?_⟩, rfl⟩, rfl, rfl, rfl, rfl, ?_, rfl, trivial⟩
      · rw [List.getElem?_append_left (by omega)]; exact keepA k hk hne
      · rw [List.getElem?_append_right (by omega), Nat.add_sub_cancel_left]; rfl
      · intro j f g hf hg
        obtain ⟨⟨o1, q1, a1⟩, ⟨q2, a2⟩, a3, a4, a5⟩ := allA j f g hf hg
        have l1 := lt_of a1
        refine ⟨⟨o1, q1, by rw [List.getElem?_append_left l1]; exact a1⟩, ⟨q2, by rw [List.getElem?_append_left (lt_of a2)]; exact a2⟩, a3, a4, fun _ => by omega⟩
      · rw [show 1 + (cG - 1) = cG by omega]; rfl
    · have lG := lt_of hG
      have neG : iG ≠ e.w := by omega
      have hG2 : H2[iG]? = _ := (kp iG lG neG).trans hG
      have lG2 := lt_of hG2
      have tG : List.take i (gs.map (fun g => SC.sl g.1 0 (g.2.2 + 9) g.2.1) ++ List.replicate r nilC) = gs.map (fun g => SC.sl g.1 0 (g.2.2 + 9) g.2.1) := take_rep _ _ _ (by simp [G.gl])
      have dG : List.drop (i + 1) (gs.map (fun g => SC.sl g.1 0 (g.2.2 + 9) g.2.1) ++ List.replicate r nilC) = List.replicate (r - 1) nilC := by
        have := drop_rep (gs.map (fun g => SC.sl g.1 0 (g.2.2 + 9) g.2.1)) nilC (i + r) i (by simp [G.gl])
        rw [show i + r - i = r by omega, show i + r - (i + 1) = r - 1 by omega] at this
        exact this
      simp (maxSteps := 4000000) only [Try.results16, Int.cast_ofNat_Int, hG2, lG2, A.at_, lw, List.append_assoc, List.getElem?_append_left, List.getElem?_append_right, List.length_append, List.length_set, List.set_append_left, gset, List.getElem?_set_ne, Nat.add_sub_cancel_left, Nat.sub_self, Nat.le_refl, Nat.le_add_right, rep_flat, List.replicate_one, List.flatten_cons, List.flatten_nil, XX, Nat.reduceBEq, Nat.reduceLT, Nat.reduceAdd, Nat.reduceMul, Nat.reduceSub, Nat.reduceLeDiff, Nat.reduceEqDiff, Int.reduceToNat, Int.reduceLT, Int.reduceLE, Int.reduceAdd, Int.reduceSub, Int.reduceEq, reduceIte, Nat.reduceBNe, Int.reducePow, Nat.reducePow, Int.reduceMul, Int.reduceNeg, isB_i, isB_b, isB_y, isBv_i, isBv_b, eqCells_t, TT]
      refine ⟨⟨by omega, by unfold maxLen; omega, by simp [G.gl], fun h => by simp [G.gl]; omega⟩, xapp_both (fun hr => ?_) (fun hg cG hcG _ => ?_)⟩
      · simp (maxSteps := 4000000) only [Try.results16, e3, tG, dG, hG2, lG2, A.at_, lw, List.append_assoc, List.getElem?_append_left, List.getElem?_append_right, List.length_append, List.length_set, List.set_append_left, gset, List.getElem?_set_ne, Nat.add_sub_cancel_left, Nat.sub_self, Nat.le_refl, Nat.le_add_right, rep_flat, List.replicate_one, List.flatten_cons, List.flatten_nil, XX, Nat.reduceBEq, Nat.reduceLT, Nat.reduceAdd, Nat.reduceMul, Nat.reduceSub, Nat.reduceLeDiff, Nat.reduceEqDiff, Int.reduceToNat, Int.reduceLT, Int.reduceLE, Int.reduceAdd, Int.reduceSub, Int.reduceEq, reduceIte, Nat.reduceBNe, Int.reducePow, Nat.reducePow, Int.reduceMul, Int.reduceNeg, isB_i, isB_b, isB_y, isBv_i, isBv_b, eqCells_t, TT]
        refine ⟨es.length - (i + 1), by omega, _, ⟨i + 1, _, _, iG, r - 1, gs ++ [(w, c, e.l.length)], rfl, by omega, ⟨by simp; omega, fun k hk hne => ?_, by simp [G.gl], .inr ⟨by omega, rfl, ?_, hiG⟩, ?_⟩, rfl⟩, rfl, rfl, rfl, rfl, ?_, rfl, trivial⟩
        · rw [List.getElem?_append_left (by simp; omega), List.getElem?_set_ne (by omega)]; exact keepA k hk hne
        · rw [List.getElem?_append_left (by simpa using lG2), gset, hG2, List.map_append, List.append_assoc]; rfl
        · intro j f g hf hg
          obtain ⟨⟨o1, q1, a1⟩, ⟨q2, a2⟩, a3, a4, a5⟩ := allA j f g hf hg
          have l2 : f.w < h.length := lt_of (O.at_ j f hf)
          refine ⟨⟨o1, q1, by rw [List.getElem?_append_left (by simpa using lt_of a1), List.getElem?_set_ne (a5 hi0).symm]; exact a1⟩, ⟨q2, by rw [List.getElem?_append_left (by simpa using lt_of a2), List.getElem?_set_ne (by omega)]; exact a2⟩, a3, a4, fun _ => a5 hi0⟩
        · rw [show i + 1 + (r - 1) = i + r by omega]; rfl
      · simp (maxSteps := 4000000) only [Try.results16, e3, tG, dG, hG2, lG2, A.at_, lw, List.append_assoc, List.getElem?_append_left, List.getElem?_append_right, List.length_append, List.length_set, List.set_append_left, gset, List.getElem?_set_ne, Nat.add_sub_cancel_left, Nat.sub_self, Nat.le_refl, Nat.le_add_right, rep_flat, List.replicate_one, List.flatten_cons, List.flatten_nil, XX, Nat.reduceBEq, Nat.reduceLT, Nat.reduceAdd, Nat.reduceMul, Nat.reduceSub, Nat.reduceLeDiff, Nat.reduceEqDiff, Int.reduceToNat, Int.reduceLT, Int.reduceLE, Int.reduceAdd, Int.reduceSub, Int.reduceEq, reduceIte, Nat.reduceBNe, Int.reducePow, Nat.reducePow, Int.reduceMul, Int.reduceNeg, isB_i, isB_b, isB_y, isBv_i, isBv_b, eqCells_t, TT]
        refine ⟨es.length - (i + 1), by omega, _, ⟨i + 1, _, _, H2.length + 1, cG - (i + 1), gs ++ [(w, c, e.l.length)], rfl, by omega, ⟨by simp; omega, fun k hk hne => ?_, by simp [G.gl], .inr ⟨by omega, rfl, ?_, by omega⟩, ?_⟩, rfl⟩, rfl, rfl, rfl, rfl, ?_, rfl, trivial⟩
        · rw [List.getElem?_append_left (by omega)]; exact keepA k hk hne
        · rw [List.getElem?_append_right (by omega), Nat.add_sub_cancel_left, List.map_append, List.append_assoc]; rfl
        · intro j f g hf hg
          obtain ⟨⟨o1, q1, a1⟩, ⟨q2, a2⟩, a3, a4, a5⟩ := allA j f g hf hg
          have l1 := lt_of a1
          refine ⟨⟨o1, q1, by rw [List.getElem?_append_left l1]; exact a1⟩, ⟨q2, by rw [List.getElem?_append_left (lt_of a2)]; exact a2⟩, a3, a4, fun _ => by omega⟩
        · rw [show i + 1 + (cG - (i + 1)) = cG by omega]; rfl
  have hi' : i = es.length := by omega
  subst hi'
  have hd : decide ((es.length : Int) < (es.length : Int)) = false := by simp
  simp (maxSteps := 4000000) only [Try.results16, kb, hd, XX, Nat.reduceBEq, Nat.reduceLT, Nat.reduceAdd, Nat.reduceMul, Nat.reduceSub, Nat.reduceLeDiff, Nat.reduceEqDiff, Int.reduceToNat, Int.reduceLT, Int.reduceLE, Int.reduceAdd, Int.reduceSub, Int.reduceEq, reduceIte, Nat.reduceBNe, Int.reducePow, Nat.reducePow, Int.reduceMul, Int.reduceNeg, isB_i, isB_b, isB_y, isBv_i, isBv_b, eqCells_t, TT]
  rcases Nat.eq_zero_or_pos es.length with hn0 | hn0
  · -- no lists
    rcases G.sG with ⟨_, rfl⟩ | ⟨h1, _⟩
    · rw [hn0]
      refine loop_rounds cx_ok 400 1 ?_
      simp (maxSteps := 4000000) only [Try.results16, XX, Nat.reduceBEq, Nat.reduceLT, Nat.reduceAdd, Nat.reduceMul, Nat.reduceSub, Nat.reduceLeDiff, Nat.reduceEqDiff, Int.reduceToNat, Int.reduceLT, Int.reduceLE, Int.reduceAdd, Int.reduceSub, Int.reduceEq, reduceIte, Nat.reduceBNe, Int.reducePow, Nat.reducePow, Int.reduceMul, Int.reduceNeg, isB_i, isB_b, isB_y, isBv_i, isBv_b, eqCells_t, TT]
    · omega
  obtain ⟨rfl, hG, hiG⟩ : sG = .sl iG 0 es.length (es.length + r) ∧ H[iG]? = some (listsB (gs.map (fun g => SC.sl g.1 0 (g.2.2 + 9) g.2.1) ++ List.replicate r nilC)) ∧ h.length ≤ iG := by
    rcases G.sG with ⟨h1, _⟩ | ⟨_, h1, h2, h3⟩
    · omega
    · exact ⟨h1, h2, h3⟩
  refine loop_at cx_ok 400 (fun μ σ => ∃ i : Nat, μ = es.length - i ∧ i ≤ es.length ∧ σ = ⟨⟨15, h.length⟩, [(0, .c (.ptr ib 0)), (2, .c (bC false)), (4, .c (.sl iG 0 es.length (es.length + r))), (11, .c (i64 i))], H⟩) es.length
    ⟨⟨15, h.length⟩, [(0, .c (.ptr ib 0)), (2, .c (bC false)), (4, .c (.sl iG 0 es.length (es.length + r))), (11, .c (i64 (0 : Nat)))], H⟩ ⟨0, rfl, Nat.zero_le _, rfl⟩ ⟨rfl, rfl, rfl, rfl, rfl, rfl, trivial⟩ ?_
  rintro μ σ ⟨i, rfl, hi, rfl⟩
  by_cases hlt : i < es.length
  · have hd : decide ((i : Int) < (es.length : Int)) = true := by simp only [decide_eq_true_eq]; omega
    obtain ⟨e, he⟩ : ∃ e, es[i]? = some e := ⟨_, List.getElem?_eq_getElem hlt⟩
    obtain ⟨g, hg⟩ : ∃ g, gs[i]? = some g := ⟨_, List.getElem?_eq_getElem (by rw [G.gl]; exact hlt)⟩
    have g1 : (es.map OE.sc ++ List.replicate (cL - es.length) nilC).getD i .any = .sl e.w 0 e.l.length (e.l.length + e.p.length) := getD_map he
    have g2 : (gs.map (fun g => SC.sl g.1 0 (g.2.2 + 9) g.2.1) ++ List.replicate r nilC).getD i .any = .sl g.1 0 (g.2.2 + 9) g.2.1 := getD_map hg
    obtain ⟨⟨o1, q1, a1⟩, ⟨q2, a2⟩, a3, a4, a5⟩ := G.at_ i e g he hg
    rw [a4] at g2
    have hlen := O.lt i e he
    have e3 : IntKind.i64.wrap ((i : Int) + 1) = ((i + 1 : Nat) : Int) := by rw [w64] <;> omega
    simp (maxSteps := 4000000) only [Try.results16, kb, kL, hd, g1, XX, Nat.reduceBEq, Nat.reduceLT, Nat.reduceAdd, Nat.reduceMul, Nat.reduceSub, Nat.reduceLeDiff, Nat.reduceEqDiff, Int.reduceToNat, Int.reduceLT, Int.reduceLE, Int.reduceAdd, Int.reduceSub, Int.reduceEq, reduceIte, Nat.reduceBNe, Int.reducePow, Nat.reducePow, Int.reduceMul, Int.reduceNeg, isB_i, isB_b, isB_y, isBv_i, isBv_b, eqCells_t, TT]
    refine ⟨⟨by omega, by omega⟩, by simp; omega, ?_⟩
    refine loop_at cx_ok 400 (fun μ σ => ∃ m : Nat, μ = e.l.length + 9 - m ∧ m ≤ e.l.length + 9 ∧ σ = ⟨⟨15, h.length⟩, [(0, .c (.ptr ib 0)), (2, .c (bC false)), (4, .c (.sl iG 0 es.length (es.length + r))), (11, .c (i64 i)), (12, .c (.sl e.w 0 e.l.length (e.l.length + e.p.length))), (13, .c (i64 m))], H⟩) (e.l.length + 9)
      ⟨⟨15, h.length⟩, [(0, .c (.ptr ib 0)), (2, .c (bC false)), (4, .c (.sl iG 0 es.length (es.length + r))), (11, .c (i64 i)), (12, .c (.sl e.w 0 e.l.length (e.l.length + e.p.length))), (13, .c (i64 (0 : Nat)))], H⟩ ⟨0, rfl, Nat.zero_le _, rfl⟩ ⟨rfl, rfl, rfl, rfl, rfl, rfl, rfl, rfl, trivial⟩ ?_
    rintro μ σ ⟨m, rfl, hm, rfl⟩
    have p1 : (0 : Int) ≤ (i : Int) ∧ (i : Int) < (es.length : Int) := ⟨by omega, by omega⟩
    have p2 : i < (gs.map (fun g => SC.sl g.1 0 (g.2.2 + 9) g.2.1) ++ List.replicate r nilC).length := by simp [G.gl]; omega
    have f1 : (bsC (mk i (e.l.length + 9) ++ q1)).getD m .any = if m < e.l.length + 9 then SC.v (.int .u8 (mkB i m).toNat) else (bsC (mk i (e.l.length + 9) ++ q1)).getD m .any := by
      split
      · rename_i hm
        rw [List.getD_eq_getElem?_getD, List.getElem?_map, List.getElem?_append_left (by rw [mk_len]; exact hm), mk_at hm]; rfl
      · rfl
    have e4 : IntKind.i64.wrap ((m : Int) + 1) = ((m + 1 : Nat) : Int) := by rw [w64] <;> omega
    by_cases hlt2 : m < e.l.length + 9
    · have hd2 : decide ((m : Int) < ((e.l.length + 9 : Nat) : Int)) = true := by simp only [decide_eq_true_eq]; omega
      rw [if_pos hlt2] at f1
      simp (maxSteps := 4000000) only [Try.results16, hG, g2, hd2, p1, p2, XX, Nat.reduceBEq, Nat.reduceLT, Nat.reduceAdd, Nat.reduceMul, Nat.reduceSub, Nat.reduceLeDiff, Nat.reduceEqDiff, Int.reduceToNat, Int.reduceLT, Int.reduceLE, Int.reduceAdd, Int.reduceSub, Int.reduceEq, reduceIte, Nat.reduceBNe, Int.reducePow, Nat.reducePow, Int.reduceMul, Int.reduceNeg, isB_i, isB_b, isB_y, isBv_i, isBv_b, eqCells_t, TT]
      refine call_plain (mark_spec i m (by omega) (by omega)) rfl ?_
      rintro _ rfl
      by_cases hlt3 : m < e.l.length
      · have hd3 : decide ((m : Int) < (e.l.length : Int)) = true := by simp only [decide_eq_true_eq]; omega
        have f2 : (bsC (mk i e.l.length ++ q2)).getD m .any = SC.v (.int .u8 (mkB i m).toNat) := by
          rw [List.getD_eq_getElem?_getD, List.getElem?_map, List.getElem?_append_left (by rw [mk_len]; exact hlt3), mk_at hlt3]; rfl
        simp (maxSteps := 4000000) only [Try.results16, hG, g2, a1, a2, f1, f2, hd3, byteC, e4, XX, Nat.reduceBEq, Nat.reduceLT, Nat.reduceAdd, Nat.reduceMul, Nat.reduceSub, Nat.reduceLeDiff, Nat.reduceEqDiff, Int.reduceToNat, Int.reduceLT, Int.reduceLE, Int.reduceAdd, Int.reduceSub, Int.reduceEq, reduceIte, Nat.reduceBNe, Int.reducePow, Nat.reducePow, Int.reduceMul, Int.reduceNeg, isB_i, isB_b, isB_y, isBv_i, isBv_b, eqCells_t, TT]
        exact ⟨by omega, p2, ⟨by omega, by omega⟩, by simp [mk_len]; omega, ⟨by omega, by omega⟩, by simp [mk_len]; omega, e.l.length + 9 - (m + 1), by omega, _, ⟨m + 1, rfl, by omega, rfl⟩, rfl, rfl, rfl, rfl, rfl, rfl, rfl, rfl, trivial⟩
      · have hd3 : decide ((m : Int) < (e.l.length : Int)) = false := by simp only [decide_eq_false_iff_not]; omega
        have f2 : (∃ x : UInt8, (bsC (mk i e.l.length ++ q2)).getD m .any = SC.v (.int .u8 x.toNat)) ∨ (bsC (mk i e.l.length ++ q2)).getD m .any = .any := by
          rw [List.getD_eq_getElem?_getD, List.getElem?_map]
          cases (mk i e.l.length ++ q2)[m]? with
          | none => exact .inr rfl
          | some x => exact .inl ⟨x, rfl⟩
        have bad : ∀ {d : TD} {sz : List Bool} {fl : Bool} {op : BinOp} {y : SC}, binS d sz fl op (.c .any) (.c y) = .bad := by intros; rfl
        rcases f2 with ⟨x, f2⟩ | f2
        all_goals
          simp (maxSteps := 4000000) only [Try.results16, hG, g2, a1, a2, f1, f2, hd3, byteC, e4, bad, XX, Nat.reduceBEq, Nat.reduceLT, Nat.reduceAdd, Nat.reduceMul, Nat.reduceSub, Nat.reduceLeDiff, Nat.reduceEqDiff, Int.reduceToNat, Int.reduceLT, Int.reduceLE, Int.reduceAdd, Int.reduceSub, Int.reduceEq, reduceIte, Nat.reduceBNe, Int.reducePow, Nat.reducePow, Int.reduceMul, Int.reduceNeg, isB_i, isB_b, isB_y, isBv_i, isBv_b, eqCells_t, TT]
          exact ⟨by omega, p2, ⟨by omega, by omega⟩, by simp [mk_len]; omega, e.l.length + 9 - (m + 1), by omega, _, ⟨m + 1, rfl, by omega, rfl⟩, rfl, rfl, rfl, rfl, rfl, rfl, rfl, rfl, trivial⟩
    · have hm' : m = e.l.length + 9 := by omega
      subst hm'
      have hd2 : decide (((e.l.length + 9 : Nat) : Int) < ((e.l.length + 9 : Nat) : Int)) = false := by simp
      simp (maxSteps := 4000000) only [Try.results16, hG, g2, hd2, p1, p2, e3, XX, Nat.reduceBEq, Nat.reduceLT, Nat.reduceAdd, Nat.reduceMul, Nat.reduceSub, Nat.reduceLeDiff, Nat.reduceEqDiff, Int.reduceToNat, Int.reduceLT, Int.reduceLE, Int.reduceAdd, Int.reduceSub, Int.reduceEq, reduceIte, Nat.reduceBNe, Int.reducePow, Nat.reducePow, Int.reduceMul, Int.reduceNeg, isB_i, isB_b, isB_y, isBv_i, isBv_b, eqCells_t, TT]
      exact ⟨es.length - (i + 1), by omega, _, ⟨i + 1, rfl, by omega, rfl⟩, rfl, rfl, rfl, rfl, rfl, rfl, trivial⟩
  · have hi' : i = es.length := by omega
    subst hi'
    have hd : decide ((es.length : Int) < (es.length : Int)) = false := by simp
    simp (maxSteps := 4000000) only [Try.results16, hd, XX, Nat.reduceBEq, Nat.reduceLT, Nat.reduceAdd, Nat.reduceMul, Nat.reduceSub, Nat.reduceLeDiff, Nat.reduceEqDiff, Int.reduceToNat, Int.reduceLT, Int.reduceLE, Int.reduceAdd, Int.reduceSub, Int.reduceEq, reduceIte, Nat.reduceBNe, Int.reducePow, Nat.reducePow, Int.reduceMul, Int.reduceNeg, isB_i, isB_b, isB_y, isBv_i, isBv_b, eqCells_t, TT]

theorem owns3' {h h1 h2 h3 : List SB} {ib iL1 iW1 iL2 iW2 : Nat} {e1 e2 e3 : OE} (hb : ib < h.length) (b1 : But h h1 (· = ib)) (l1 : h.length ≤ iL1) (w1 : h.length ≤ iW1) (b2 : But h1 h2 (fun k => k = ib ∨ k = iL1 ∨ k = iW1)) (l2 : iL2 = iL1 ∨ h1.length ≤ iL2) (w2 : iW2 = iW1 ∨ h1.length ≤ iW2)
    (b3 : But h2 h3 (fun k => k = ib ∨ k = iL2 ∨ k = iW2))
    (a1 : h[e1.w]? = some (wB e1.o (e1.l ++ e1.p))) (a2 : h[e2.w]? = some (wB e2.o (e2.l ++ e2.p))) (a3 : h[e3.w]? = some (wB e3.o (e3.l ++ e3.p))) (n1 : e1.w ≠ ib) (n2 : e2.w ≠ ib) (n3 : e3.w ≠ ib)
    (o1 : 0 < e1.l.length + e1.p.length → e1.o = true) (o2 : 0 < e2.l.length + e2.p.length → e2.o = true) (o3 : 0 < e3.l.length + e3.p.length → e3.o = true)
    (s1 : e1.l.length < 140737488351233) (s2 : e2.l.length < 140737488351233) (s3 : e3.l.length < 140737488351233)
    (d12 : e1.w ≠ e2.w) (d13 : e1.w ≠ e3.w) (d23 : e2.w ≠ e3.w) : Owns h3 [e1, e2, e3] := by
  have key : ∀ e : OE, h[e.w]? = some (wB e.o (e.l ++ e.p)) → e.w ≠ ib → h3[e.w]? = some (wB e.o (e.l ++ e.p)) := by
    intro e a n
    have lt := lt_of a
    have q1 := b1.2 e.w lt n
    have q2 := b2.2 e.w (by have := b1.1; omega) (by rintro (h | h | h) <;> omega)
    have q3 := b3.2 e.w (by have := b1.1; have := b2.1; omega) (by have := b1.1; rintro (h | h | h) <;> rcases l2 with l2 | l2 <;> rcases w2 with w2 | w2 <;> omega)
    rw [q3, q2, q1, a]
  have m : ∀ {i : Nat} {e : OE} {p : Nat → OE → Prop}, p 0 e1 → p 1 e2 → p 2 e3 → [e1, e2, e3][i]? = some e → p i e := by
    intro i e p h1 h2 h3 h
    match i, h with
    | 0, h => cases h; exact h1
    | 1, h => cases h; exact h2
    | 2, h => cases h; exact h3
  exact ⟨fun i e => m (p := fun _ e => h3[e.w]? = some (wB e.o (e.l ++ e.p))) (key _ a1 n1) (key _ a2 n2) (key _ a3 n3),
    fun i e => m (p := fun _ e => 0 < e.l.length + e.p.length → e.o = true) o1 o2 o3,
    fun i e => m (p := fun _ e => e.l.length < 140737488351233) s1 s2 s3,
    fun i j e f hij he hf => by
      match i, j, he, hf with
      | 0, 0, _, _ => omega
      | 1, 1, _, _ => omega
      | 2, 2, _, _ => omega
      | 0, 1, he, hf => cases he; cases hf; exact d12
      | 1, 0, he, hf => cases he; cases hf; exact d12.symm
      | 0, 2, he, hf => cases he; cases hf; exact d13
      | 2, 0, he, hf => cases he; cases hf; exact d13.symm
      | 1, 2, he, hf => cases he; cases hf; exact d23
      | 2, 1, he, hf => cases he; cases hf; exact d23.symm⟩

/-- Three lists that were taken, one behind the other. -/
theorem owns3 {h h1 h2 h3 : List SB} {ib iL1 iW1 iL2 iW2 v1 v2 v3 : Nat} {x1 x2 x3 y1 y2 y3 : List UInt8} {c1 c2 c3 : Bool} (hb : ib < h.length) (b1 : But h h1 (· = ib)) (l1 : h.length ≤ iL1) (w1 : h.length ≤ iW1) (b2 : But h1 h2 (fun k => k = ib ∨ k = iL1 ∨ k = iW1)) (l2 : iL2 = iL1 ∨ h1.length ≤ iL2) (w2 : iW2 = iW1 ∨ h1.length ≤ iW2)
    (b3 : But h2 h3 (fun k => k = ib ∨ k = iL2 ∨ k = iW2))
    (a1 : h[v1]? = some (wB c1 (x1 ++ y1))) (a2 : h[v2]? = some (wB c2 (x2 ++ y2))) (a3 : h[v3]? = some (wB c3 (x3 ++ y3))) (n1 : v1 ≠ ib) (n2 : v2 ≠ ib) (n3 : v3 ≠ ib)
    (o1 : 0 < x1.length + y1.length → c1 = true) (o2 : 0 < x2.length + y2.length → c2 = true) (o3 : 0 < x3.length + y3.length → c3 = true)
    (s1 : x1.length < 140737488351233) (s2 : x2.length < 140737488351233) (s3 : x3.length < 140737488351233)
    (d12 : v1 ≠ v2) (d13 : v1 ≠ v3) (d23 : v2 ≠ v3) : Owns h3 [⟨v1, x1, y1, c1⟩, ⟨v2, x2, y2, c2⟩, ⟨v3, x3, y3, c3⟩] :=
  owns3' (e1 := ⟨v1, x1, y1, c1⟩) (e2 := ⟨v2, x2, y2, c2⟩) (e3 := ⟨v3, x3, y3, c3⟩) hb b1 l1 w1 b2 l2 w2 b3 a1 a2 a3 n1 n2 n3 o1 o2 o3 s1 s2 s3 d12 d13 d23

end Go.Proofs.Ytflccffjfnfoiaa.Sx
