/- The symbolic executor, at work: the bound on parts; errors of parsing; parts by type. No condition. -/
import Derived.Test.YtflccffjfnfoiaaOpO
namespace Go.Proofs.Ytflccffjfnfoiaa.Sx
open Go
set_option linter.unusedSimpArgs false
set_option linter.unusedVariables false
set_option maxRecDepth 10000
set_option maxHeartbeats 2000000

theorem parse1_err : ∀ (m : Nat) (l : List UInt8) (es : List PI) (e : Int), l.length ≤ m → parse1 l es = .error e → e = 2 ∨ e = 5
  | m, [], es, e, _, h => by rw [parse1_nil] at h; cases h
  | 0, c :: t, es, e, hm, _ => by simp at hm
  | m + 1, c :: t, es, e, hm, h => by
    simp only [List.length_cons] at hm
    by_cases h1 : c = 255
    · subst h1; rw [parse1_end] at h; cases h
    by_cases h2 : c = 0
    · subst h2; rw [parse1_pad] at h; exact parse1_err m t es e (by omega) h
    by_cases h3 : atK (es.map (·.1)) c.toNat < 0 ∧ es.length = 64
    · rw [parse1.eq_def] at h; simp only [if_neg h1, if_neg h2, if_pos h3] at h
      cases h; exact .inl rfl
    cases t with
    | nil => rw [parse1_short h1 h2 h3] at h; cases h; exact .inr rfl
    | cons n t =>
      by_cases h4 : t.length < n.toNat
      · rw [parse1_cut h1 h2 h3 h4] at h; cases h; exact .inr rfl
      rw [parse1_put h1 h2 h3 (by omega)] at h
      exact parse1_err m _ _ e (by rw [List.length_drop]; simp only [List.length_cons] at hm; omega) h
theorem parseA_err : ∀ (ps : List (List UInt8)) (es : List PI) (e : Int), parseA ps es = .error e → e = 2 ∨ e = 5
  | [], es, e, h => by rw [parseA] at h; cases h
  | p :: ps, es, e, h => by
    rw [parseA] at h
    cases h1 : parse1 p es with
    | error e' => rw [h1] at h; cases h; exact parse1_err _ p es _ (Nat.le_refl _) h1
    | ok es1 => rw [h1] at h; exact parseA_err ps es1 e h

theorem RTy_parts {n : Nat} {x : List RC} (h : RTy T reachBytes (n + 3) 32 x) : ∃ (ps : List PT4) (rs : List RC) (c : Nat), x = [.sl (ps.map partO ++ rs) ps.length c] ∧ (∀ p ∈ ps, p.ok) ∧ ps.length ≤ 5864062014805 := by
  obtain ⟨items, len, rfl, h1, h2, h3, h4⟩ := RTy_slice T_32 T_25 h
  obtain ⟨ys, rfl, hys⟩ := all_form (p := PT4.ok) (f := fun p : PT4 => [partO p]) fun x hx => by
    obtain ⟨l, sp, c, rfl, a1, a2, a3, a4⟩ := RTy_bytes (h4 x hx)
    exact ⟨(l, sp, c), rfl, a1, Nat.le_trans a1 a4⟩
  simp only [List.length_map] at h1 h2 h3 ⊢
  have h3' : ys.length * 24 ≤ 140737488351232 := h3
  have hf : ∀ ys : List PT4, (ys.map fun p : PT4 => [partO p]).flatten = ys.map partO := fun ys => by
    induction ys with
    | nil => rfl
    | cons y ys ih => simp only [List.map_cons, List.flatten_cons, ih]; rfl
  refine ⟨ys.take len, (ys.drop len).map partO, ys.length, ?_, fun x hx => hys x (List.mem_of_mem_take hx), by rw [List.length_take]; omega⟩
  rw [hf, ← List.map_append, List.take_append_drop, List.length_take, Nat.min_eq_left h1]

theorem lenP_cons (p : PT4) (ps : List PT4) : lenP (p :: ps) = p.1.length + lenP ps := by simp [lenP]
theorem lenP_app (a b : List PT4) : lenP (a ++ b) = lenP a + lenP b := by simp [lenP]
theorem lenP_next {ps : List PT4} {i : Nat} {p : PT4} (h : ps[i]? = some p) : lenP (ps.take (i + 1)) = lenP (ps.take i) + p.1.length := by
  rw [List.take_add_one, h, lenP_app]; simp [lenP]
theorem lenP_take_le (ps : List PT4) (i : Nat) : lenP (ps.take i) ≤ lenP ps := by
  conv => rhs; rw [← List.take_append_drop i ps, lenP_app]
  omega
theorem lenP_size : ∀ (ps : List PT4) (rs : List RC), lenP ps + ps.length ≤ rcSizeL (ps.map partO ++ rs)
  | [], rs => by simp [lenP]
  | p :: ps, rs => by
    have ih := lenP_size ps rs
    have h := length_le_rcSizeL (bsR (p.1 ++ p.2.1))
    simp only [List.map_cons, List.cons_append, lenP_cons, List.length_cons, rcSizeL, partO, rcSize]
    simp only [List.length_map, List.length_append] at h
    omega
theorem beyond_spec (ps : List PT4) (rs : List RC) (c : Nat) (hok : ∀ p ∈ ps, p.ok) (hn : ps.length ≤ 5864062014805) : Spec cx.P 17 [.c (partsV ps rs c)] [] fun s _ => s.plain = true ∧ s = .c (bC (decide (2147483647 < lenP ps + ps.length))) := by
  refine spec_of_X cx_ok Try.func17 rfl (by kernel_rfl) (by kernel_rfl) (Nat.le_of_ble_eq_true rfl) 400 5 ?_
  simp (maxSteps := 4000000) only [Try.results17, XX, Nat.reduceBEq, Nat.reduceLT, Nat.reduceAdd, Nat.reduceMul, Nat.reduceSub, Nat.reduceLeDiff, Nat.reduceEqDiff, Int.reduceToNat, Int.reduceLT, Int.reduceLE, Int.reduceAdd, Int.reduceSub, Int.reduceEq, reduceIte, Nat.reduceBNe, Int.reducePow, Nat.reducePow, Int.reduceMul, Int.reduceNeg, isB_i, isB_b, isB_y, isBv_i, isBv_b, eqCells_t, TT]
  refine loop_any cx_ok 400 (fun μ σ => ∃ i : Nat, μ = ps.length - i ∧ i ≤ ps.length ∧ (i = 0 ∨ lenP (ps.take (i - 1)) + (i - 1) ≤ 2147483647) ∧ lenP (ps.take i) + i ≤ 2147483647 + 140737488351232 + 1 ∧ σ = ⟨⟨5, 0⟩, [(0, .c (partsV ps rs c)), (3, .c (i64 (lenP (ps.take i) + i : Nat))), (4, .c (i64 i))], []⟩) ps.length
    ⟨⟨5, 0⟩, [(0, .c (partsV ps rs c)), (3, .c (i64 (lenP (ps.take 0) + 0 : Nat))), (4, .c (i64 (0 : Nat)))], []⟩ ⟨0, rfl, Nat.zero_le _, .inl rfl, by simp [lenP], rfl⟩ (.inl ⟨rfl, rfl, rfl, rfl, rfl, trivial⟩) ?_
  rintro μ σ ⟨i, rfl, hi, hp1, hp2, rfl⟩
  by_cases hlt : i < ps.length
  · have hd : decide ((i : Int) < (ps.length : Int)) = true := by simp only [decide_eq_true_eq]; omega
    obtain ⟨p, hp⟩ : ∃ p, ps[i]? = some p := ⟨_, List.getElem?_eq_getElem hlt⟩
    obtain ⟨R, hR⟩ := dropO (rs := rs) hp
    obtain ⟨q1, q2⟩ := hok p (List.mem_of_getElem? hp)
    have hx := lenP_next hp
    have hle := lenP_take_le ps (i + 1)
    by_cases hb : lenP (ps.take i) + i ≤ 2147483647
    · have d1 : decide (((lenP (ps.take i) + i : Nat) : Int) ≤ 2147483647) = true := by simp only [decide_eq_true_eq]; omega
      have e1 : IntKind.i64.wrap (((lenP (ps.take i) + i : Nat) : Int) + 1) = ((lenP (ps.take i) + i + 1 : Nat) : Int) := by rw [w64] <;> omega
      have e2 : IntKind.i64.wrap (((lenP (ps.take i) + i + 1 : Nat) : Int) + (p.1.length : Int)) = ((lenP (ps.take (i + 1)) + (i + 1) : Nat) : Int) := by rw [w64] <;> omega
      have e3 : IntKind.i64.wrap ((i : Int) + 1) = ((i + 1 : Nat) : Int) := by rw [w64] <;> omega
      simp (maxSteps := 4000000) only [Try.results17, hd, d1, hR, e1, e2, e3, XX, Nat.reduceBEq, Nat.reduceLT, Nat.reduceAdd, Nat.reduceMul, Nat.reduceSub, Nat.reduceLeDiff, Nat.reduceEqDiff, Int.reduceToNat, Int.reduceLT, Int.reduceLE, Int.reduceAdd, Int.reduceSub, Int.reduceEq, reduceIte, Nat.reduceBNe, Int.reducePow, Nat.reducePow, Int.reduceMul, Int.reduceNeg, isB_i, isB_b, isB_y, isBv_i, isBv_b, eqCells_t, TT]
      exact ⟨by omega, by omega, ps.length - (i + 1), by omega, _, ⟨i + 1, rfl, by omega, .inr (by simpa using hb), by omega, rfl⟩, .inl ⟨rfl, rfl, rfl, rfl, rfl, trivial⟩⟩
    · have d1 : decide (((lenP (ps.take i) + i : Nat) : Int) ≤ 2147483647) = false := by simp only [decide_eq_false_iff_not]; omega
      have d2 : decide ((2147483647 : Int) < ((lenP (ps.take i) + i : Nat) : Int)) = true := by simp only [decide_eq_true_eq]; omega
      have hle' := lenP_take_le ps i
      have d3 : decide (2147483647 < lenP ps + ps.length) = true := by simp only [decide_eq_true_eq]; omega
      rw [d3]
      simp (maxSteps := 4000000) only [Try.results17, hd, d1, d2, XX, Nat.reduceBEq, Nat.reduceLT, Nat.reduceAdd, Nat.reduceMul, Nat.reduceSub, Nat.reduceLeDiff, Nat.reduceEqDiff, Int.reduceToNat, Int.reduceLT, Int.reduceLE, Int.reduceAdd, Int.reduceSub, Int.reduceEq, reduceIte, Nat.reduceBNe, Int.reducePow, Nat.reducePow, Int.reduceMul, Int.reduceNeg, isB_i, isB_b, isB_y, isBv_i, isBv_b, eqCells_t, TT]
  · obtain rfl : i = ps.length := by omega
    have hd : decide ((ps.length : Int) < (ps.length : Int)) = false := by simp
    rw [List.take_length]
    have d2 : decide ((2147483647 : Int) < ((lenP ps + ps.length : Nat) : Int)) = decide (2147483647 < lenP ps + ps.length) := by
      by_cases h : 2147483647 < lenP ps + ps.length
      · rw [decide_eq_true h, decide_eq_true (by omega)]
      · rw [decide_eq_false h, decide_eq_false (by omega)]
    simp (maxSteps := 4000000) only [Try.results17, hd, d2, XX, Nat.reduceBEq, Nat.reduceLT, Nat.reduceAdd, Nat.reduceMul, Nat.reduceSub, Nat.reduceLeDiff, Nat.reduceEqDiff, Int.reduceToNat, Int.reduceLT, Int.reduceLE, Int.reduceAdd, Int.reduceSub, Int.reduceEq, reduceIte, Nat.reduceBNe, Int.reducePow, Nat.reducePow, Int.reduceMul, Int.reduceNeg, isB_i, isB_b, isB_y, isBv_i, isBv_b, eqCells_t, TT]
theorem goodP_nil : GoodP [] := ⟨(fun x h => nomatch h), List.nodup_nil, by simp⟩
theorem sum_bytesP (ps : List PT4) : ((bytesP ps).map List.length).sum = lenP ps := by simp only [bytesP, lenP, List.map_map]; rfl
theorem opts_good {es : List PE} {is : List PI} {N : Nat} (hpi : es.map PE.pi = is) (G : GoodP is) (hs : (is.map fun p => p.2.length).sum ≤ N) :
    (∀ e ∈ es, e.d.length ≤ N ∧ 0 < e.k ∧ e.k < 255) ∧ ¬ Bad (es.map PE.oi) ∧ (es.map PE.oi).length ≤ 64 ∧ totO (es.map PE.oi) ≤ N + 64 ∧ piL (es.map PE.oi) = is := by
  subst hpi
  obtain ⟨k, n, l⟩ := G
  rw [List.length_map] at l
  rw [List.map_map] at n hs
  have e1 : (List.map PE.oi es).map OI.k = es.map ((fun x : PI => x.1) ∘ PE.pi) := by rw [List.map_map]; rfl
  have hk : ∀ e ∈ es, 0 < e.k ∧ e.k < 255 := fun e he => k e.pi (List.mem_map_of_mem he)
  have ht : totO (es.map PE.oi) = (es.map ((fun p : PI => p.2.length) ∘ PE.pi)).sum + es.length := by
    clear k n l hs e1 hk
    induction es with
    | nil => rfl
    | cons e es ih => simp only [totO, List.map_cons, List.sum_cons, List.length_cons, Function.comp] at ih ⊢; omega
  refine ⟨fun e he => ⟨?_, hk e he⟩, codes_good (fun x hx => ?_) (by rw [e1]; exact n), by rw [List.length_map]; exact l, by omega, by rw [piL, List.map_map]; rfl⟩
  · obtain ⟨i, hi⟩ := List.mem_iff_getElem?.1 he
    have := sum_le hi
    have e2 : (es.map fun e => e.d.length) = es.map ((fun p : PI => p.2.length) ∘ PE.pi) := rfl
    rw [e2] at this
    omega
  · obtain ⟨e, he, rfl⟩ := List.mem_map.1 hx
    exact hk e he

theorem parL_ok {ps : List (List UInt8)} {X : Except Int (List PI)} (hx : parseA ps [] = X) {es : List PE} (h : es.map PE.pi = parL X) {N : Nat} (hN : (ps.map List.length).sum ≤ N) : (∀ e ∈ es, e.d.length ≤ N ∧ 0 < e.k ∧ e.k < 255) ∧ (es.map PE.oi).length ≤ 64 ∧ piL (es.map PE.oi) = parL X := by
  cases X with
  | error e =>
    obtain rfl : es = [] := List.map_eq_nil_iff.1 h
    exact ⟨(fun e h => nomatch h), by simp, rfl⟩
  | ok is =>
    obtain ⟨G, hs⟩ := parseA_good _ _ _ goodP_nil hx
    simp only [List.map_nil, List.sum_nil] at hs
    obtain ⟨g1, _, g3, _, g5⟩ := opts_good (N := N) (show es.map PE.pi = is from h) G (by omega)
    exact ⟨g1, g3, g5⟩
theorem frO_buf {h : List SB} {i : Nat} {l sp : List UInt8} {o : Bool} (hb : h[i]? = some (wB o (l ++ sp))) (ho : 0 < l.length + sp.length → o = true) : frR (fun _ => true) h (partO (l, sp, l.length + sp.length)) (slB i l sp) := by
  rcases Nat.eq_zero_or_pos (l.length + sp.length) with h0 | h0
  · obtain rfl : l = [] := List.eq_nil_of_length_eq_zero (by omega)
    obtain rfl : sp = [] := List.eq_nil_of_length_eq_zero (by omega)
    exact .inr (.inr ⟨i, 0, rfl, .inl ⟨rfl, rfl⟩⟩)
  · obtain rfl := ho h0
    exact frO_win hb rfl rfl rfl
end Go.Proofs.Ytflccffjfnfoiaa.Sx
