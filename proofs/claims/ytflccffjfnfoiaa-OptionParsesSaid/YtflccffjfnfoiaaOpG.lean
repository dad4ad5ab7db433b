/- The symbolic executor, at work: reading options, by definition; a row of options comes out. No condition. -/
import Derived.Test.YtflccffjfnfoiaaOpF
namespace Go.Proofs.Ytflccffjfnfoiaa.Sx
open Go
set_option linter.unusedSimpArgs false
set_option linter.unusedVariables false
set_option maxRecDepth 10000
set_option maxHeartbeats 2000000

abbrev PI := Int × List UInt8
abbrev PE.pi (e : PE) : PI := (e.k, e.d)
def putP (es : List PI) (k : Int) (d : List UInt8) : List PI :=
  if 0 ≤ atK (es.map (·.1)) k then es.set (atK (es.map (·.1)) k).toNat (k, (es.getD (atK (es.map (·.1)) k).toNat (0, [])).2 ++ d) else es ++ [(k, d)]
theorem putP_hit {es : List PI} {k : Int} {d x : List UInt8} {i : Nat} (h : atK (es.map (·.1)) k = (i : Int)) (hi : es[i]? = some (k, x)) : putP es k d = es.set i (k, x ++ d) := by
  unfold putP
  rw [h, if_pos (by omega), Int.toNat_natCast, List.getD_eq_getElem?_getD, hi]; rfl
theorem putP_new {es : List PI} {k : Int} {d : List UInt8} (h : atK (es.map (·.1)) k = -1) : putP es k d = es ++ [(k, d)] := by
  unfold putP
  rw [h, if_neg (by omega)]

/-- Reading one part. -/
def parse1 : List UInt8 → List PI → Except Int (List PI)
  | [], es => .ok es
  | c :: t, es => if c = 255 then .ok es else if c = 0 then parse1 t es else if atK (es.map (·.1)) c.toNat < 0 ∧ es.length = 64 then .error 2 else match t with
    | [] => .error 5
    | n :: t' => if t'.length < n.toNat then .error 5 else parse1 (t'.drop n.toNat) (putP es c.toNat (t'.take n.toNat))
  termination_by l => l.length
  decreasing_by all_goals (simp only [List.length_cons, List.length_drop]; omega)
/-- Reading parts, one behind the other. -/
def parseA : List (List UInt8) → List PI → Except Int (List PI)
  | [], es => .ok es
  | p :: ps, es => match parse1 p es with
    | .ok es' => parseA ps es'
    | .error e => .error e
def contA (x : Except Int (List PI)) (ps : List (List UInt8)) : Except Int (List PI) := match x with
  | .ok es => parseA ps es
  | .error e => .error e
theorem parse1_nil (es : List PI) : parse1 [] es = .ok es := by rw [parse1]
theorem parse1_end (t : List UInt8) (es : List PI) : parse1 (255 :: t) es = .ok es := by rw [parse1.eq_def]; simp
theorem parse1_pad (t : List UInt8) (es : List PI) : parse1 (0 :: t) es = parse1 t es := by conv => lhs; rw [parse1.eq_def]; simp
theorem parse1_many {c : UInt8} (t : List UInt8) {es : List PI} (h1 : c ≠ 255) (h2 : c ≠ 0) (h : atK (es.map (·.1)) c.toNat = -1) (hl : es.length = 64) : parse1 (c :: t) es = .error 2 := by
  rw [parse1.eq_def]; simp only [if_neg h1, if_neg h2]; rw [if_pos ⟨by omega, hl⟩]
theorem parse1_short {c : UInt8} {es : List PI} (h1 : c ≠ 255) (h2 : c ≠ 0) (h : ¬ (atK (es.map (·.1)) c.toNat < 0 ∧ es.length = 64)) : parse1 [c] es = .error 5 := by
  rw [parse1.eq_def]; simp only [if_neg h1, if_neg h2, if_neg h]
theorem parse1_cut {c n : UInt8} {t : List UInt8} {es : List PI} (h1 : c ≠ 255) (h2 : c ≠ 0) (h : ¬ (atK (es.map (·.1)) c.toNat < 0 ∧ es.length = 64)) (hn : t.length < n.toNat) : parse1 (c :: n :: t) es = .error 5 := by
  rw [parse1.eq_def]; simp only [if_neg h1, if_neg h2, if_neg h, if_pos hn]
theorem parse1_put {c n : UInt8} {t : List UInt8} {es : List PI} (h1 : c ≠ 255) (h2 : c ≠ 0) (h : ¬ (atK (es.map (·.1)) c.toNat < 0 ∧ es.length = 64)) (hn : n.toNat ≤ t.length) : parse1 (c :: n :: t) es = parse1 (t.drop n.toNat) (putP es c.toNat (t.take n.toNat)) := by
  conv => lhs; rw [parse1.eq_def]
  simp only [if_neg h1, if_neg h2, if_neg h, if_neg (Nat.not_lt.2 hn)]

/-! ### A row that comes out -/
def numF : Nat → List PE → List PE
  | _, [] => []
  | k, e :: es => { e with w := k } :: numF (k + 1) es
theorem numF_len : ∀ (k : Nat) (es : List PE), (numF k es).length = es.length
  | _, [] => rfl
  | k, e :: es => by simp only [numF, List.length_cons, numF_len]
theorem numF_at : ∀ {k : Nat} {es : List PE} {i : Nat} {e : PE}, (numF k es)[i]? = some e → ∃ f, es[i]? = some f ∧ e = { f with w := k + i }
  | k, e :: es, 0, f, h => by simp only [numF, List.getElem?_cons_zero, Option.some.injEq] at h; exact ⟨e, rfl, h.symm⟩
  | k, e :: es, i + 1, f, h => by
    simp only [numF, List.getElem?_cons_succ] at h
    obtain ⟨g, h1, h2⟩ := numF_at h
    exact ⟨g, h1, by rw [h2]; simp only [PE.mk.injEq, true_and, and_true]; omega⟩
theorem numF_pi : ∀ (k : Nat) (es : List PE), (numF k es).map PE.pi = es.map PE.pi
  | _, [] => rfl
  | k, e :: es => by simp only [numF, List.map_cons, numF_pi]
theorem piBase_all : ∀ (l : List Nat) (k : Nat), l.Nodup → piBase 0 k (l.map some) = true
  | [], k, _ => rfl
  | a :: l, k, h => by
    rw [List.nodup_cons] at h
    simp only [List.map_cons, piBase, Bool.and_eq_true, piBase_all l (k + 1) h.2, and_true]
    refine ⟨rfl, ?_⟩
    rw [Bool.not_eq_true', Bool.eq_false_iff]
    intro h'
    rw [List.contains_iff_mem] at h'
    simp at h'
    exact h.1 h'
abbrev winsC (es : List PE) : List SB := es.map fun e => wB e.o (e.d ++ e.sp)
def parE (x : Except Int (List PI)) : Int := match x with
  | .ok _ => 0
  | .error e => e
def parL (x : Except Int (List PI)) : List PI := match x with
  | .ok ps => ps
  | .error _ => []
/-- Options and an error's number. -/
def resP (x : Except Int (List PI)) (s : SV) (h' : List SB) : Prop := ∃ o es r, s = .tup [(false, [.sl 0 0 es.length (es.length + r)]), (false, [i64 (parE x)])] ∧
  h' = optB o (rowC (numF 1 es) r) :: winsC es ∧ (0 < es.length + r → o = true) ∧ (∀ e ∈ es, 0 < e.d.length + e.sp.length → e.o = true) ∧ es.map PE.pi = parL x
theorem noRo_row : ∀ (es : List PE) (r : Nat), ((rowC es r).all SC.noRo) = true := by
  intro es r
  rw [List.all_append, Bool.and_eq_true]
  constructor <;> (rw [List.all_flatten, List.all_eq_true]; intro l hl)
  · simp only [List.mem_map] at hl
    obtain ⟨e, _, rfl⟩ := hl; rfl
  · obtain rfl := List.eq_of_mem_replicate hl; rfl
theorem resP_noRo {x : Except Int (List PI)} {t : SV} {h' : List SB} (h : resP x t h') : t.noRo = true ∧ (h'.all fun b => b.cells.all SC.noRo) = true := by
  obtain ⟨o, es, r, rfl, rfl, _⟩ := h
  refine ⟨rfl, ?_⟩
  rw [List.all_cons, Bool.and_eq_true]
  refine ⟨noRo_row _ _, ?_⟩
  rw [List.all_map, List.all_eq_true]
  intro e _
  exact noRo_bsC _
theorem row_ren (rn : Nat → Nat) (r : Nat) : ∀ (k : Nat) (es : List PE), (∀ (i : Nat) (e : PE), es[i]? = some e → rn (k + i) = e.w) → (rowC (numF k es) r).map (SC.ren rn) = rowC es r
  | k, [], _ => by
    simp only [rowC, numF, List.map_nil, List.flatten_nil, List.nil_append]
    rw [List.map_flatten, List.map_replicate]; rfl
  | k, e :: es, h => by
    have ih := row_ren rn r (k + 1) es fun i f hf => by rw [← h (i + 1) f (by simpa using hf)]; congr 1; omega
    have h0 := h 0 e rfl
    simp only [rowC, numF, List.map_cons, List.flatten_cons, List.append_assoc, List.map_append] at ih ⊢
    rw [ih]
    congr 1
    show [_, SC.sl (rn k) _ _ _] = _
    rw [show rn k = e.w from h0]
    rfl
theorem row_ids (p : Nat → Bool) (r : Nat) : ∀ (k : Nat) (es : List PE), (∀ i, i < es.length → p (k + i) = true) → ((rowC (numF k es) r).all (SC.ids p)) = true
  | k, [], _ => by
    simp only [rowC, numF, List.map_nil, List.flatten_nil, List.nil_append]
    rw [List.all_flatten, List.all_eq_true]; intro l hl
    obtain rfl := List.eq_of_mem_replicate hl; rfl
  | k, e :: es, h => by
    have ih := row_ids p r (k + 1) es fun i hi => by rw [← h (i + 1) (by simpa using hi)]; congr 1; omega
    have h0 : p k = true := h 0 (by simp)
    simp only [rowC, numF, List.map_cons, List.flatten_cons, List.append_assoc, List.all_append, Bool.and_eq_true] at ih ⊢
    refine ⟨?_, ih⟩
    show (true && (p k && true)) = true
    rw [h0]; rfl
theorem wkHp_wins {π0 : List (Option Nat)} {h : List SB} : ∀ {es : List PE}, (∀ (i : Nat) (e : PE), es[i]? = some e → h[e.w]? = some (wB e.o (e.d ++ e.sp)) ∧ (0 < e.d.length + e.sp.length → e.o = true)) → wkHp π0 h (es.map fun e => some e.w) (winsC es)
  | [], _ => trivial
  | e :: es, H => by
    have ih := wkHp_wins (π0 := π0) (es := es) fun i f hf => H (i + 1) f (by simpa using hf)
    refine ⟨?_, ih⟩
    rw [(H 0 e rfl).1]
    exact ⟨.inl ⟨ids_bsC .., (ren_bsC ..).symm⟩, fun h => ⟨h, rfl⟩⟩
theorem Opts.nodup {H : List SB} {iO : Nat} {o : Bool} {es : List PE} {r : Nat} (O : Opts H iO o es r) : (iO :: es.map PE.w).Nodup := by
  rw [List.nodup_cons]
  constructor
  · intro h
    simp only [List.mem_map] at h
    obtain ⟨e, he, hw⟩ := h
    obtain ⟨i, hi⟩ := List.mem_iff_getElem?.1 he
    exact ne_of_ty O.row (O.at_ i e hi).1 (fun h => absurd h (by decide : (58 : Nat) ≠ 5)) hw.symm
  · rw [List.Nodup, List.pairwise_iff_getElem]
    intro i j hi hj hij
    rw [List.length_map] at hi hj
    rw [List.getElem_map, List.getElem_map]
    exact O.ne i j _ _ (by omega) (List.getElem?_eq_getElem hi) (List.getElem?_eq_getElem hj)
def outP (x : Except Int (List PI)) (s : SV) (h' : List SB) : Prop := match x with
  | .ok ps => ∃ iO o es r, s = .tup [(false, [.sl iO 0 es.length (es.length + r)]), (false, [i64 0])] ∧ Opts h' iO o es r ∧ es.map PE.pi = ps
  | .error e => s = .tup [(false, [nilS]), (false, [i64 e])]
theorem resP_of {P : Program} {f : FuncId} {args : List SV} {x : Except Int (List PI)} (s : Spec P f args [] (outP x)) : Spec P f args [] (resP x) :=
  s.wk fun t h' h => by
    cases x with
    | error e =>
      subst h
      exact ⟨.tup [(false, [.sl 0 0 0 0]), (false, [i64 e])], [optB false []], [none], rfl, by simp only [XX, Nat.reduceBEq, Nat.reduceLT, Nat.reduceAdd, Nat.reduceMul, Nat.reduceSub, Nat.reduceLeDiff, Nat.reduceEqDiff, Int.reduceToNat, Int.reduceLT, Int.reduceLE, Int.reduceAdd, Int.reduceSub, Int.reduceEq, reduceIte, Nat.reduceBNe, Int.reducePow, Nat.reducePow, Int.reduceMul, Int.reduceNeg, isB_i, isB_b, isB_y, isBv_i, isBv_b, eqCells_t, TT], .inr ⟨rfl, ⟨.inr (.inr ⟨_, _, rfl, .inl rfl⟩), trivial⟩, rfl, ⟨.inl ⟨rfl, rfl⟩, trivial⟩, trivial⟩, false, [], 0, rfl, rfl, fun h => absurd h (by simp), (fun e h => nomatch h), rfl⟩
    | ok ps =>
      obtain ⟨iO, o, es, r, rfl, O, hp⟩ := h
      have hpi : (some iO :: es.map fun e => some e.w) = (iO :: es.map PE.w).map some := by simp
      refine ⟨.tup [(false, [.sl 0 0 es.length (es.length + r)]), (false, [i64 0])], optB o (rowC (numF 1 es) r) :: winsC es, some iO :: es.map fun e => some e.w, ?_, ⟨?_, wkHp_wins O.at_⟩, .inl ⟨rfl, rfl⟩, o, es, r, rfl, rfl, O.own, fun e he => ?_, hp⟩
      · rw [hpi]; exact piBase_all _ _ O.nodup
      · rw [O.row]
        refine ⟨.inl ⟨row_ids _ _ _ _ fun i hi => ?_, (row_ren _ _ _ _ fun i e he => ?_).symm⟩, fun h => ⟨h, rfl⟩⟩
        · unfold isW
          rw [Nat.add_comm, List.getElem?_cons_succ, List.getElem?_map, List.getElem?_eq_getElem hi]; rfl
        · unfold srcW
          rw [Nat.add_comm, List.getElem?_cons_succ, List.getElem?_map, he]; rfl
      · obtain ⟨i, hi⟩ := List.mem_iff_getElem?.1 he
        exact (O.at_ i e hi).2

/-- A call that gives a row. -/
theorem call_opts {P : Program} {xn : XN} {f : FuncId} {args : List SV} (args0 : List SV) {dst : Option Tmp} {k : List KI} {nm : NB} {tm : List (Nat × SV)} {hp : List SB} {Q : XE → St → Prop} {x : Except Int (List PI)}
    (s : Spec P f args0 [] (resP x)) (ha : frA true (fun _ => true) (renF [] hp.length) 0 hp args args0)
    (hk : ∀ (t : List SB) (o : Bool) (es : List PE) (r : Nat), Opts (hp ++ t) hp.length o es r → (∀ e ∈ es, hp.length < e.w) → es.map PE.pi = parL x →
      xn k ⟨nm, put dst (.tup [(false, [.sl hp.length 0 es.length (es.length + r)]), (false, [i64 (parE x)])]) tm, hp ++ t⟩ Q) : CallGoal P xn f args dst k ⟨nm, tm, hp⟩ Q := by
  refine call_fz args0 s (fun t h' => resP_noRo) ha ?_
  rintro _ _ ⟨o, es, r, rfl, rfl, h1, h2, h3⟩
  have e1 : renF [] hp.length 0 = hp.length := rfl
  have e2 : (rowC (numF 1 es) r).map (SC.ren (renF [] hp.length)) = rowC (numF (hp.length + 1) es) r := by
    have a1 := row_ren (renF [] hp.length) r 1 (es := numF (hp.length + 1) es) ?_
    · have : numF 1 (numF (hp.length + 1) es) = numF 1 es := by
        have g : ∀ (k m : Nat) (es : List PE), numF k (numF m es) = numF k es := by
          intro k m es
          induction es generalizing k m with
          | nil => rfl
          | cons e es ih => simp only [numF, ih]
        exact g _ _ _
      rw [this] at a1
      exact a1
    · intro i e he
      obtain ⟨f, hf, rfl⟩ := numF_at he
      show hp.length + (1 + i - 0) = hp.length + 1 + i
      omega
  have e3 : (winsC es).map (SB.ren (renF [] hp.length)) = winsC es := by
    rw [List.map_map]
    refine List.map_congr_left fun e he => ?_
    show SB.mk _ _ (List.map _ (bsC _)) = _
    rw [ren_bsC]
  have := hk (optB o (rowC (numF (hp.length + 1) es) r) :: winsC es) o (numF (hp.length + 1) es) r ⟨?_, by rw [numF_len]; exact h1, fun i e he => ?_, fun i j e f hij he hf => ?_⟩ (fun e he => ?_) (by rw [numF_pi, h3])
  · rw [numF_len] at this
    simp only [List.map_cons, e3]
    show xn k ⟨nm, put dst (.tup [(false, [SC.sl (renF [] hp.length 0) 0 es.length (es.length + r)]), (false, [i64 _])]) tm, hp ++ (⟨o, _, (rowC (numF 1 es) r).map (SC.ren (renF [] hp.length))⟩ :: winsC es)⟩ Q
    rw [e2, e1]
    exact this
  · rw [List.getElem?_append_right (Nat.le_refl _), Nat.sub_self]; rfl
  · obtain ⟨f, hf, rfl⟩ := numF_at he
    refine ⟨?_, h2 f (List.mem_of_getElem? hf)⟩
    show (hp ++ _)[hp.length + 1 + i]? = _
    rw [List.getElem?_append_right (by omega), show hp.length + 1 + i - hp.length = i + 1 by omega, List.getElem?_cons_succ, List.getElem?_map, hf]; rfl
  · obtain ⟨f1, hf1, rfl⟩ := numF_at he
    obtain ⟨f2, hf2, rfl⟩ := numF_at hf
    show hp.length + 1 + i ≠ hp.length + 1 + j
    omega
  · obtain ⟨i, hi⟩ := List.mem_iff_getElem?.1 he
    obtain ⟨f, hf, rfl⟩ := numF_at hi
    show hp.length < hp.length + 1 + i
    omega
/-- Bytes behind nothing. -/
theorem xapp_nilB {xn : XN} {dst : Option Tmp} {k : List KI} {nm : NB} {tm : List (Nat × SV)} {Q : XE → St → Prop} {h : List SB} {news : List UInt8} {m g : Nat} (hm : news.length = m) (hg : g = h.length)
    (hk : ∀ (j : Nat) (o : Bool), (0 < news.length + (List.replicate j (0 : UInt8)).length → o = true) → xn k ⟨nm, put dst (.c (slB g news (List.replicate j 0))) tm, h ++ [wB o (news ++ List.replicate j 0)]⟩ Q) :
    XApp xn m 0 dst k nm tm (.c (.v (.slice none 0 0)), h) (fun c => (.c (.sl g 0 m c), h ++ [⟨true, 5, bsC news ++ List.replicate (c - m) (SC.v (.int .u8 0))⟩])) Q := by
  subst hm
  refine xapp_nil (ty := 5) (z := [SC.v (.int .u8 0)]) (news := bsC news) (fun h => by rw [List.eq_nil_of_length_eq_zero h]; rfl) hg (fun j o ho => ?_) (fun c => by rw [rep_flat])
  have := hk j o (by rw [List.length_replicate]; exact ho)
  rw [rep_flat, bsC_zeros, bs_app]
  simpa only [slB, List.length_replicate] using this
/-- Bytes behind a list, or none; either way. -/
theorem xapp_any {xn : XN} {dst : Option Tmp} {k : List KI} {nm : NB} {tm : List (Nat × SV)} {Q : XE → St → Prop} {H : List SB} {w n m c : Nat} {o : Bool} {l sp news : List UInt8} {g : Nat} (B : Buf H w o l sp) (hn : l.length = n) (hm : news.length = m) (hc : c = n + sp.length) (hg : g = H.length)
    (hk : ∀ H' w' sp' o', Buf H' w' o' (l ++ news) sp' → H.length ≤ H'.length → (∀ k, k < H.length → k ≠ w → H'[k]? = H[k]?) → (w' = w ∨ H.length ≤ w') → xn k ⟨nm, put dst (.c (slB w' (l ++ news) sp')) tm, H'⟩ Q) :
    XApp xn (n + m) c dst k nm tm (.c (.sl w 0 (n + m) c), H.set w ⟨o, 5, (bsC (l ++ sp)).take n ++ (bsC news ++ (bsC (l ++ sp)).drop (n + m))⟩)
      (fun c' => (.c (.sl g 0 (n + m) c'), H ++ [⟨true, 5, (bsC (l ++ sp)).take n ++ (bsC news ++ List.replicate (c' - (n + m)) (SC.v (.int .u8 0)))⟩])) Q := by
  by_cases hp : 0 < n + m
  · exact xapp_more0 B hn hm hc hg hp fun H' w' sp' => hk H' w' sp' true
  have h1 : l = [] := List.eq_nil_of_length_eq_zero (by omega)
  have h2 : news = [] := List.eq_nil_of_length_eq_zero (by omega)
  subst h1; subst h2
  obtain rfl : n = 0 := by omega
  obtain rfl : m = 0 := by omega
  subst hc
  refine xapp_room (by omega) ?_
  have lw := lt_of B.at_
  exact hk _ w sp o ⟨List.getElem?_set_self lw, B.own⟩ (by simp) (fun k _ hk => List.getElem?_set_ne (Ne.symm hk)) (.inl rfl)
end Go.Proofs.Ytflccffjfnfoiaa.Sx
