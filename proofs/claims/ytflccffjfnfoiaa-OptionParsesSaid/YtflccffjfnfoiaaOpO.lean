/- The symbolic executor, at work: options as bytes: plain laws. No condition. -/
import Derived.Test.YtflccffjfnfoiaaOpM
namespace Go.Proofs.Ytflccffjfnfoiaa.Sx
open Go
set_option linter.unusedSimpArgs false
set_option linter.unusedVariables false
set_option maxRecDepth 10000
set_option maxHeartbeats 2000000

/-! ### What was packed is parsed as it was -/
theorem atK_mem {ks : List Int} {k : Int} (h : k ∉ ks) : atK ks k = -1 := by
  rcases atK_cases ks k with ⟨i, _, h2, _⟩ | ⟨_, h2⟩
  · exact absurd (List.mem_of_getElem? h2) h
  · exact h2
theorem atK_last {ks : List Int} {k : Int} (h : k ∉ ks) : atK (ks ++ [k]) k = (ks.length : Int) := by
  unfold atK
  rw [List.findIdx?_append]
  have h1 : ks.findIdx? (fun a => decide (a = k)) = none := by
    rw [List.findIdx?_eq_none_iff]
    intro a ha
    simp only [decide_eq_false_iff_not]
    rintro rfl
    exact h ha
  rw [h1]
  simp
theorem enc_step {b : UInt8} {d : List UInt8} {es : List PI} (hb0 : b ≠ 0) (hb : b ≠ 255) (hno : ((b.toNat : Nat) : Int) ∉ es.map (·.1)) (hl : es.length < 64) : ∀ j : Nat, ∀ R, parse1 (encN b d (j + 1) ++ R) es = parse1 R (es ++ [(((b.toNat : Nat) : Int), d.take (255 * (j + 1)))])
  | 0, R => by
    have h0 := atK_mem hno
    have hm : (UInt8.ofNat (min 255 (d.length - 255 * 0))).toNat = (pieceL d 0).length := by
      rw [pieceL_len, UInt8.toNat_ofNat']; omega
    show parse1 (([] ++ (b :: UInt8.ofNat (min 255 (d.length - 255 * 0)) :: pieceL d 0)) ++ R) es = _
    rw [List.nil_append, List.cons_append, List.cons_append, parse1_put hb hb0 (by omega) (by rw [hm, List.length_append]; omega), hm, List.drop_left' rfl, List.take_left' rfl, putP_new h0]
    simp [pieceL]
  | j + 1, R => by
    have hm : (UInt8.ofNat (min 255 (d.length - 255 * (j + 1)))).toNat = (pieceL d (j + 1)).length := by
      rw [pieceL_len, UInt8.toNat_ofNat']; omega
    show parse1 ((encN b d (j + 1) ++ (b :: UInt8.ofNat (min 255 (d.length - 255 * (j + 1))) :: pieceL d (j + 1))) ++ R) es = _
    have hat : atK ((es ++ [(((b.toNat : Nat) : Int), d.take (255 * (j + 1)))]).map (·.1)) ((b.toNat : Nat) : Int) = (es.length : Int) := by
      rw [List.map_append]
      have := atK_last hno
      rw [List.length_map] at this
      exact this
    rw [List.append_assoc, enc_step hb0 hb hno hl j, List.cons_append, List.cons_append, parse1_put hb hb0 (by rw [hat]; omega) (by rw [hm, List.length_append]; omega), hm, List.drop_left' rfl, List.take_left' rfl,
      putP_hit (i := es.length) (x := d.take (255 * (j + 1))) hat (by rw [List.getElem?_append_right (Nat.le_refl _), Nat.sub_self]; rfl)]
    congr 1
    rw [List.set_append_right _ _ (Nat.le_refl _), Nat.sub_self]
    show es ++ [(_, d.take (255 * (j + 1)) ++ pieceL d (j + 1))] = _
    rw [pieceL, ← List.take_add, show 255 * (j + 1) + 255 = 255 * (j + 1 + 1) by omega]
theorem ofInt_code {k : Int} (h1 : 0 < k) (h2 : k < 255) : (((UInt8.ofInt k).toNat : Nat) : Int) = k ∧ UInt8.ofInt k ≠ 0 ∧ UInt8.ofInt k ≠ 255 := by
  obtain ⟨n, rfl⟩ : ∃ n : Nat, k = n := ⟨k.toNat, by omega⟩
  have e : (UInt8.ofInt (n : Int)).toNat = n := by
    have h3 : n < 256 := by omega
    show (UInt8.ofNat ((n : Int) % 2 ^ 8).toNat).toNat = n
    rw [UInt8.toNat_ofNat']
    omega
  refine ⟨by rw [e], fun h => ?_, fun h => ?_⟩ <;> rw [h] at e
  · have : n = 0 := e.symm
    omega
  · have : n = 255 := e.symm
    omega
theorem encO_parse {x : OI} {es : List PI} (h1 : 0 < x.k) (h2 : x.k < 255) (hno : x.k ∉ es.map (·.1)) (hl : es.length < 64) (R : List UInt8) : parse1 (encO x ++ R) es = parse1 R (es ++ [x.pi]) := by
  obtain ⟨e, b0, b1⟩ := ofInt_code h1 h2
  obtain ⟨j, hj⟩ : ∃ j, pcs x.d.length = j + 1 := ⟨pcs x.d.length - 1, by unfold pcs; omega⟩
  unfold encO
  rw [hj, enc_step b0 b1 (by rw [e]; exact hno) hl j R, e, List.take_of_length_le (by have := pcs_full x.d.length; rw [hj] at this; exact this)]
theorem encAll_parse : ∀ (xs : List OI) (es : List PI), (∀ x ∈ xs, 0 < x.k ∧ x.k < 255) → ((es.map (·.1)) ++ xs.map OI.k).Nodup → es.length + xs.length ≤ 64 → ∀ R, parse1 (encAll xs ++ R) es = parse1 R (es ++ piL xs)
  | [], es, _, _, _, R => by simp [encAll, piL]
  | x :: xs, es, h, hd, hl, R => by
    obtain ⟨h1, h2⟩ := h x (by simp)
    have hno : x.k ∉ es.map (·.1) := fun hm => by
      have := (List.nodup_append.1 hd).2.2 _ hm x.k (by simp)
      exact this rfl
    simp only [List.length_cons] at hl
    have hd' : (((es ++ [x.pi]).map (·.1)) ++ xs.map OI.k).Nodup := by
      rw [List.map_append, List.append_assoc]
      exact hd
    show parse1 ((encO x ++ encAll xs) ++ R) es = _
    rw [List.append_assoc, encO_parse h1 h2 hno (by omega), encAll_parse xs (es ++ [x.pi]) (fun y hy => h y (List.mem_cons_of_mem _ hy)) hd' (by rw [List.length_append]; simp only [List.length_cons, List.length_nil]; omega) R, List.append_assoc]
    rfl
theorem good_codes {xs : List OI} (h : ¬ Bad xs) : (∀ x ∈ xs, 0 < x.k ∧ x.k < 255) ∧ (xs.map OI.k).Nodup := by
  have g : ∀ (i : Nat) (x : OI), xs[i]? = some x → ¬ BadAt xs i x := fun i x hx hb => h ⟨i, x, hx, hb⟩
  constructor
  · intro x hx
    obtain ⟨i, hi⟩ := List.mem_iff_getElem?.1 hx
    have := g i x hi
    unfold BadAt at this
    omega
  · rw [List.Nodup, List.pairwise_iff_getElem]
    intro i j hi hj hij he
    rw [List.length_map] at hi hj
    rw [List.getElem_map, List.getElem_map] at he
    exact g j xs[j] (List.getElem?_eq_getElem hj) (.inr (.inr ⟨xs[i], List.mem_take_iff_getElem.2 ⟨i, by omega, rfl⟩, he⟩))
theorem codes_good {xs : List OI} (h1 : ∀ x ∈ xs, 0 < x.k ∧ x.k < 255) (h2 : (xs.map OI.k).Nodup) : ¬ Bad xs := by
  rintro ⟨i, x, hx, hb⟩
  obtain ⟨g1, g2⟩ := h1 x (List.mem_of_getElem? hx)
  rcases hb with hb | hb | ⟨y, hy, he⟩
  · omega
  · omega
  · obtain ⟨j, hj, rfl⟩ := List.mem_take_iff_getElem.1 hy
    obtain ⟨hi, rfl⟩ := List.getElem?_eq_some_iff.1 hx
    rw [List.Nodup, List.pairwise_iff_getElem] at h2
    exact h2 j i (by rw [List.length_map]; omega) (by rw [List.length_map]; omega) (by omega) (by rw [List.getElem_map, List.getElem_map]; exact he)
theorem pack_parse {xs : List OI} (h : ¬ Bad xs) (hl : xs.length ≤ 64) (R : List UInt8) : parse1 ((encAll xs ++ [255]) ++ R) [] = .ok (piL xs) := by
  obtain ⟨h1, h2⟩ := good_codes h
  rw [List.append_assoc, encAll_parse xs [] h1 (by simpa using h2) (by simpa using hl), List.nil_append]
  exact parse1_end _ _

/-! ### What was parsed may be packed -/
/-- A row of codes from 1 to 254, none twice, at most 64. -/
structure GoodP (es : List PI) : Prop where
  k : ∀ x ∈ es, 0 < x.1 ∧ x.1 < 255
  n : (es.map (·.1)).Nodup
  l : es.length ≤ 64
theorem putP_good {es : List PI} {c : UInt8} {d : List UInt8} (G : GoodP es) (h1 : c ≠ 255) (h2 : c ≠ 0) (h : ¬ (atK (es.map (·.1)) c.toNat < 0 ∧ es.length = 64)) : GoodP (putP es c.toNat d) ∧ ((putP es c.toNat d).map fun p => p.2.length).sum = (es.map fun p => p.2.length).sum + d.length := by
  have c1 : c.toNat ≠ 255 := fun h => h1 (UInt8.toNat_inj.1 h)
  have c2 : c.toNat ≠ 0 := fun h => h2 (UInt8.toNat_inj.1 h)
  have c3 := c.toNat_lt
  rcases atK_cases (es.map (·.1)) (c.toNat : Int) with ⟨i, hi, hk, ha⟩ | ⟨hno, ha⟩
  · rw [List.length_map] at hi
    have hk' : (es[i]).1 = (c.toNat : Int) := by
      rw [List.getElem?_map, List.getElem?_eq_getElem hi] at hk
      simpa using hk
    have hx : es[i]? = some ((c.toNat : Int), (es[i]).2) := by rw [List.getElem?_eq_getElem hi, ← hk']
    rw [putP_hit ha hx]
    refine ⟨⟨fun x hx => ?_, ?_, by rw [List.length_set]; exact G.l⟩, ?_⟩
    · rcases List.mem_or_eq_of_mem_set hx with hx | rfl
      · exact G.k x hx
      · exact ⟨by show (0 : Int) < _; omega, by show _ < (255 : Int); omega⟩
    · rw [List.map_set]
      have : (es.map (·.1)).set i (c.toNat : Int) = es.map (·.1) := by
        apply List.ext_getElem?
        intro j
        by_cases hj : i = j
        · subst hj
          rw [List.getElem?_set_self (by simpa using hi), hk]
        · rw [List.getElem?_set_ne hj]
      show ((es.map (·.1)).set i (c.toNat : Int)).Nodup
      rw [this]
      exact G.n
    · have hs : es = es.take i ++ es[i] :: es.drop (i + 1) := by rw [← List.drop_eq_getElem_cons hi, List.take_append_drop]
      have ht : es.set i ((c.toNat : Int), (es[i]).2 ++ d) = es.take i ++ ((c.toNat : Int), (es[i]).2 ++ d) :: es.drop (i + 1) := List.set_eq_take_append_cons_drop .. |>.trans (if_pos hi)
      rw [ht]
      conv => rhs; rw [hs]
      simp only [List.map_append, List.map_cons, List.sum_append, List.sum_cons, List.length_append]
      omega
  · rw [putP_new ha]
    have hl : es.length < 64 := by have := G.l; omega
    refine ⟨⟨fun x hx => ?_, ?_, by rw [List.length_append]; simp only [List.length_cons, List.length_nil]; omega⟩, by simp⟩
    · rcases List.mem_append.1 hx with hx | hx
      · exact G.k x hx
      · obtain rfl := List.mem_singleton.1 hx
        exact ⟨by show (0 : Int) < _; omega, by show _ < (255 : Int); omega⟩
    · rw [List.map_append, List.nodup_append]
      exact ⟨G.n, by simp, fun a ha b hb => by
        simp only [List.map_cons, List.map_nil, List.mem_singleton] at hb
        subst hb
        rintro rfl
        exact hno ha⟩
theorem parse1_good : ∀ (n : Nat) (l : List UInt8) (es es' : List PI), l.length ≤ n → GoodP es → parse1 l es = .ok es' → GoodP es' ∧ (es'.map fun p => p.2.length).sum ≤ (es.map fun p => p.2.length).sum + l.length
  | n, [], es, es', _, G, h => by
    rw [parse1_nil] at h
    cases h
    exact ⟨G, by simp⟩
  | 0, c :: t, _, _, hn, _, _ => by simp at hn
  | n + 1, c :: t, es, es', hn, G, h => by
    simp only [List.length_cons] at hn ⊢
    by_cases hc : c = 255
    · subst hc
      rw [parse1_end] at h
      cases h
      exact ⟨G, by omega⟩
    by_cases h0 : c = 0
    · subst h0
      rw [parse1_pad] at h
      obtain ⟨g1, g2⟩ := parse1_good n t es es' (by omega) G h
      exact ⟨g1, by omega⟩
    by_cases hm : atK (es.map (·.1)) c.toNat < 0 ∧ es.length = 64
    · rw [parse1_many t hc h0 (by rcases atK_cases (es.map (·.1)) (c.toNat : Int) with ⟨i, _, _, ha⟩ | ⟨_, ha⟩ <;> omega) hm.2] at h
      cases h
    match t, hn, h with
    | [], _, h => rw [parse1_short hc h0 hm] at h; cases h
    | m :: t, hn, h =>
      simp only [List.length_cons] at hn ⊢
      by_cases hs : t.length < m.toNat
      · rw [parse1_cut hc h0 hm hs] at h; cases h
      · rw [parse1_put hc h0 hm (by omega)] at h
        obtain ⟨G', e⟩ := putP_good (d := t.take m.toNat) G hc h0 hm
        obtain ⟨g1, g2⟩ := parse1_good n (t.drop m.toNat) _ es' (by rw [List.length_drop]; omega) G' h
        rw [e, List.length_take] at g2
        rw [List.length_drop] at g2
        exact ⟨g1, by omega⟩
theorem parseA_good : ∀ (ps : List (List UInt8)) (es es' : List PI), GoodP es → parseA ps es = .ok es' → GoodP es' ∧ (es'.map fun p => p.2.length).sum ≤ (es.map fun p => p.2.length).sum + (ps.map List.length).sum
  | [], es, es', G, h => by
    rw [parseA] at h
    cases h
    exact ⟨G, by simp⟩
  | p :: ps, es, es', G, h => by
    rw [parseA] at h
    cases h1 : parse1 p es with
    | error e => rw [h1] at h; cases h
    | ok es1 =>
      rw [h1] at h
      obtain ⟨g1, g2⟩ := parse1_good _ p es es1 (Nat.le_refl _) G h1
      obtain ⟨g3, g4⟩ := parseA_good ps es1 es' g1 h
      refine ⟨g3, ?_⟩
      simp only [List.map_cons, List.sum_cons]
      omega

/-! ### Parts that are whole are one -/
/-- Is a part whole, without an end? -/
def openF : List UInt8 → Bool
  | [] => true
  | c :: t => if c = 255 then false else if c = 0 then openF t else match t with
    | [] => false
    | n :: t' => if t'.length < n.toNat then false else openF (t'.drop n.toNat)
  termination_by l => l.length
  decreasing_by all_goals (simp only [List.length_cons, List.length_drop]; omega)
theorem openF_pad (t : List UInt8) : openF (0 :: t) = openF t := by conv => lhs; rw [openF.eq_def]; simp
theorem openF_end (t : List UInt8) : openF (255 :: t) = false := by rw [openF.eq_def]; simp
theorem openF_one {c : UInt8} (h1 : c ≠ 255) (h2 : c ≠ 0) : openF [c] = false := by rw [openF.eq_def]; simp only [if_neg h1, if_neg h2]
theorem openF_cut {c n : UInt8} {t : List UInt8} (h1 : c ≠ 255) (h2 : c ≠ 0) (hn : t.length < n.toNat) : openF (c :: n :: t) = false := by rw [openF.eq_def]; simp only [if_neg h1, if_neg h2, if_pos hn]
theorem openF_next {c n : UInt8} {t : List UInt8} (h1 : c ≠ 255) (h2 : c ≠ 0) (hn : n.toNat ≤ t.length) : openF (c :: n :: t) = openF (t.drop n.toNat) := by
  conv => lhs; rw [openF.eq_def]
  simp only [if_neg h1, if_neg h2, if_neg (Nat.not_lt.2 hn)]
theorem open_parse : ∀ (m : Nat) (b R : List UInt8) (es : List PI), b.length ≤ m → openF b = true → parse1 (b ++ R) es = (match parse1 b es with
    | .ok es' => parse1 R es'
    | .error e => .error e)
  | m, [], R, es, _, _ => by rw [parse1_nil, List.nil_append]
  | 0, c :: t, _, _, hn, _ => by simp at hn
  | m + 1, c :: t, R, es, hn, h => by
    simp only [List.length_cons] at hn
    by_cases hc : c = 255
    · subst hc; rw [openF_end] at h; cases h
    by_cases h0 : c = 0
    · subst h0
      rw [openF_pad] at h
      rw [List.cons_append, parse1_pad, parse1_pad, open_parse m t R es (by omega) h]
    match t, hn, h with
    | [], _, h => rw [openF_one hc h0] at h; cases h
    | n :: t, hn, h =>
      simp only [List.length_cons] at hn
      by_cases hs : t.length < n.toNat
      · rw [openF_cut hc h0 hs] at h; cases h
      rw [openF_next hc h0 (by omega)] at h
      by_cases hm : atK (es.map (·.1)) c.toNat < 0 ∧ es.length = 64
      · have ha : atK (es.map (·.1)) c.toNat = -1 := by rcases atK_cases (es.map (·.1)) (c.toNat : Int) with ⟨i, _, _, ha⟩ | ⟨_, ha⟩ <;> omega
        rw [List.cons_append, parse1_many _ hc h0 ha hm.2, parse1_many _ hc h0 ha hm.2]
      · rw [List.cons_append, List.cons_append, parse1_put hc h0 hm (by rw [List.length_append]; omega), parse1_put hc h0 hm (by omega), List.drop_append_of_le_length (by omega), List.take_append_of_le_length (by omega),
          open_parse m (t.drop n.toNat) R _ (by rw [List.length_drop]; omega) h]
theorem parts_one {a b l : List UInt8} (ha : openF a = true) (hb : openF b = true) : parseA [a, b, l] [] = parseA [a ++ b ++ l] [] := by
  have e1 : parseA [a ++ b ++ l] [] = parse1 (a ++ b ++ l) [] := by
    rw [parseA]
    cases parse1 (a ++ b ++ l) [] <;> rfl
  rw [e1, List.append_assoc, open_parse _ a _ _ (Nat.le_refl _) ha, parseA]
  cases parse1 a [] with
  | error e => rfl
  | ok es =>
    show parseA [b, l] es = parse1 (b ++ l) es
    rw [open_parse _ b _ _ (Nat.le_refl _) hb, parseA]
    cases parse1 b es with
    | error e => rfl
    | ok es' =>
      show parseA [l] es' = parse1 l es'
      rw [parseA]
      cases parse1 l es' <;> rfl

/-! ### What is packed depends on codes and bytes alone -/
theorem bad_pi {xs ys : List OI} (h : piL xs = piL ys) (hb : ¬ Bad xs) : ¬ Bad ys := by
  obtain ⟨h1, h2⟩ := good_codes hb
  have e : xs.map OI.k = ys.map OI.k := by
    have : (piL xs).map (·.1) = (piL ys).map (·.1) := by rw [h]
    rw [piL, piL, List.map_map, List.map_map] at this
    exact this
  refine codes_good (fun y hy => ?_) (by rw [← e]; exact h2)
  have hm : y.k ∈ xs.map OI.k := by rw [e]; exact List.mem_map_of_mem hy
  simp only [List.mem_map] at hm
  obtain ⟨x, hx, hxy⟩ := hm
  rw [← hxy]; exact h1 x hx
theorem szO_pi {xs ys : List OI} (h : piL xs = piL ys) : szO xs = szO ys := by
  have g : ∀ xs : List OI, szO xs = ((piL xs).map fun p => p.2.length + 2 * pcs p.2.length).sum := fun xs => by
    unfold szO piL
    rw [List.map_map]; rfl
  rw [g, g, h]
theorem totO_pi {xs ys : List OI} (h : piL xs = piL ys) : totO xs = totO ys := by
  have g : ∀ xs : List OI, totO xs = ((piL xs).map fun p => p.2.length + 1).sum := fun xs => by
    unfold totO piL
    rw [List.map_map]; rfl
  rw [g, g, h]
theorem encAll_pi {xs ys : List OI} (h : piL xs = piL ys) : encAll xs = encAll ys := by
  have g : ∀ xs : List OI, encAll xs = (piL xs).flatMap fun p => encN (UInt8.ofInt p.1) p.2 (pcs p.2.length) := fun xs => by
    unfold encAll piL
    rw [List.flatMap_map]; rfl
  rw [g, g, h]
theorem packF_pi {xs ys : List OI} (h : piL xs = piL ys) (room : Int) : packF xs room = packF ys room := by
  unfold packF
  have hl : xs.length = ys.length := by have := congrArg List.length h; simpa using this
  by_cases hb : Bad xs
  · have hb' : Bad ys := Classical.byContradiction fun h' => bad_pi h.symm h' hb
    rw [if_pos hb, if_pos hb']
  · rw [if_neg hb, if_neg (bad_pi h hb), szO_pi h, encAll_pi h, hl]
end Go.Proofs.Ytflccffjfnfoiaa.Sx
