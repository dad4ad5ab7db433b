/- The symbolic executor, at work: a book is asked, all else stays. No condition. -/
import Derived.Test.YtdfhmpheepobnaaC4o
namespace Go.Proofs.Ytdfhmpheepobnaa.Sx
open Go
set_option linter.unusedSimpArgs false
set_option linter.unusedVariables false
set_option maxRecDepth 10000
set_option maxHeartbeats 2000000

theorem plug_off {r : Nat → Nat} {π : List Nat} {h0 h0' h : List SB} {i : Nat} {b : SB} (hi : h[i]? = some b) (hn : i ∉ π) : (plug r π h0 h0' h)[i]? = some b := by
  have lt := lt_of hi
  have lg : (plugGo r π h0 h0' h).length = h.length := plugGo_len
  unfold plug
  rw [List.getElem?_append_left (by omega)]
  obtain ⟨b', hb'⟩ : ∃ b', (plugGo r π h0 h0' h)[i]? = some b' := ⟨_, List.getElem?_eq_getElem (by omega)⟩
  rcases plugGo_cases hb' with ⟨h1, _⟩ | ⟨k, b0, b1, h1, _⟩
  · rw [hb', ← h1, hi]
  · exact absurd (List.mem_of_getElem? h1) hn

/-- The entries, by numbers from 'k' on. -/
def renE : Nat → List OE → List OE
  | _, [] => []
  | k, e :: es => ⟨k, e.l, e.p, e.o⟩ :: renE (k + 1) es
abbrev winE (e : OE) : SB := wB e.o (e.l ++ e.p)
theorem renE_get : ∀ {es : List OE} {k i : Nat}, (renE k es)[i]? = (es[i]?).map fun e => ⟨k + i, e.l, e.p, e.o⟩
  | [], _, _ => by simp [renE]
  | e :: es, k, 0 => by simp [renE]
  | e :: es, k, i + 1 => by
    simp only [renE, List.getElem?_cons_succ, renE_get (es := es) (k := k + 1) (i := i)]
    rw [show k + 1 + i = k + (i + 1) by omega]
theorem renE_len : ∀ (es : List OE) (k : Nat), (renE k es).length = es.length
  | [], _ => rfl
  | e :: es, k => by simp [renE, renE_len es (k + 1)]
theorem renE_l : ∀ (es : List OE) (k : Nat), (renE k es).map OE.l = es.map OE.l
  | [], _ => rfl
  | e :: es, k => by simp [renE, renE_l es (k + 1)]
theorem renE_owns (es : List OE) (a b c : SB) (hown : ∀ e ∈ es, 0 < e.l.length + e.p.length → e.o = true) (hlt : ∀ e ∈ es, e.l.length < 140737488351233) : Owns (a :: b :: c :: es.map winE) (renE 3 es) := by
  have key : ∀ (i : Nat) (f : OE), (renE 3 es)[i]? = some f → ∃ e, es[i]? = some e ∧ f = ⟨3 + i, e.l, e.p, e.o⟩ := by
    intro i f hf
    rw [renE_get] at hf
    cases he : es[i]? with
    | none => rw [he] at hf; cases hf
    | some e => rw [he] at hf; exact ⟨e, rfl, (Option.some.inj hf).symm⟩
  refine ⟨fun i f hf => ?_, fun i f hf => ?_, fun i f hf => ?_, fun i j f g hij hf hg => ?_⟩
  · obtain ⟨e, he, rfl⟩ := key i f hf
    show (a :: b :: c :: es.map winE)[3 + i]? = _
    rw [Nat.add_comm 3 i]
    simp only [List.getElem?_cons_succ, List.getElem?_map, he]
    rfl
  · obtain ⟨e, he, rfl⟩ := key i f hf
    exact hown e (List.mem_of_getElem? he)
  · obtain ⟨e, he, rfl⟩ := key i f hf
    exact hlt e (List.mem_of_getElem? he)
  · obtain ⟨e, he, rfl⟩ := key i f hf
    obtain ⟨e', he', rfl⟩ := key j g hg
    show 3 + i ≠ 3 + j
    omega

theorem preOk_es {r : Nat → Nat} {H : List SB} : ∀ {es : List OE}, (∀ e ∈ es, H[e.w]? = some (winE e)) → preOk r H (es.map OE.w) (es.map winE)
  | [], _ => trivial
  | e :: es, h => by
    refine ⟨?_, preOk_es fun x hx => h x (List.mem_cons_of_mem _ hx)⟩
    rw [h e (List.mem_cons_self ..)]
    exact ⟨(ren_bsC _ _).symm, fun h => ⟨h, rfl⟩⟩
theorem piOk_es : ∀ {es : List OE}, (∀ (i j : Nat) (e f : OE), i ≠ j → es[i]? = some e → es[j]? = some f → e.w ≠ f.w) → piOk (es.map OE.w) (es.map winE) = true
  | [], _ => rfl
  | e :: es, h => by
    simp only [List.map_cons, piOk, Bool.and_eq_true]
    refine ⟨?_, piOk_es fun i j a b hij ha hb => h (i + 1) (j + 1) a b (by omega) (by simpa using ha) (by simpa using hb)⟩
    rw [List.all_eq_true]
    rintro ⟨x, y⟩ hq
    have hx := (List.of_mem_zip hq).1
    simp only [List.mem_map] at hx
    obtain ⟨f, hf, rfl⟩ := hx
    obtain ⟨j, hj, hf'⟩ := List.getElem_of_mem hf
    have := h 0 (j + 1) e f (by omega) rfl (by simp [List.getElem?_eq_getElem hj, hf'])
    simp [this]
theorem renE_ren {r : Nat → Nat} : ∀ {es : List OE} {k : Nat}, (∀ (i : Nat) (e : OE), es[i]? = some e → r (k + i) = e.w) → ((renE k es).map OE.sc).map (SC.ren r) = es.map OE.sc
  | [], _, _ => rfl
  | e :: es, k, h => by
    simp only [renE, List.map_cons]
    rw [renE_ren fun i f hf => by rw [show k + 1 + i = k + (i + 1) by omega]; exact h (i + 1) f (by simpa using hf)]
    congr 1
    show SC.sl (r k) 0 _ _ = SC.sl e.w 0 _ _
    rw [show r k = e.w from h 0 e rfl]

theorem all_ne {x : Nat} {l : List Nat} {hs : List SB} {p : Nat × SB → Bool} (h : ∀ y ∈ l, x ≠ y) : ((l.zip hs).all fun q => !x == q.1 || p q) = true := by
  rw [List.all_eq_true]
  rintro ⟨y, b⟩ hq
  have := h y (List.of_mem_zip hq).1
  simp [this]
theorem renE_lt : ∀ (es : List OE) (k n : Nat), k + es.length ≤ n → ((renE k es).map OE.sc).all (SC.lt n) = true
  | [], _, _, _ => rfl
  | e :: es, k, n, h => by
    simp only [List.length_cons] at h
    simp only [renE, List.map_cons, List.all_cons, Bool.and_eq_true]
    refine ⟨?_, renE_lt es (k + 1) n (by omega)⟩
    simp only [OE.sc, SC.lt, decide_eq_true_eq]
    omega

theorem ownedF_spec {H : List SB} {bk : Nat} {es : List OE} {iL cL iW cW : Nat} (B : Book H bk (es.map OE.sc) (es.map OE.l) iL cL iW cW) (O : Owns H es) (hn : es.length < 4398046511104) :
    Spec cx.P 19 [.c (.ptr bk 0)] H fun t h' => t = .c (bC true) ∧ H.length ≤ h'.length ∧ ∀ (i : Nat) (b : SB), H[i]? = some b → i ≠ bk → i ≠ iL → i ≠ iW → (∀ e ∈ es, e.w ≠ i) → h'[i]? = some b := by
  have oe : ∀ e ∈ es, ∃ i, es[i]? = some e := fun e he => by
    obtain ⟨i, hi, h⟩ := List.getElem_of_mem he
    exact ⟨i, by rw [List.getElem?_eq_getElem hi, h]⟩
  have n1 := ty_ne B.b B.L (by decide : (52 : Nat) ≠ 35)
  have n2 := ty_ne B.b B.W (by decide : (52 : Nat) ≠ 9)
  have n3 := ty_ne B.L B.W (by decide : (35 : Nat) ≠ 9)
  have m1 : ∀ e ∈ es, bk ≠ e.w := fun e he => by obtain ⟨i, hi⟩ := oe e he; exact ty_ne B.b (O.at_ i e hi) (by decide : (52 : Nat) ≠ 5)
  have m2 : ∀ e ∈ es, iL ≠ e.w := fun e he => by obtain ⟨i, hi⟩ := oe e he; exact ty_ne B.L (O.at_ i e hi) (by decide : (35 : Nat) ≠ 5)
  have m3 : ∀ e ∈ es, iW ≠ e.w := fun e he => by obtain ⟨i, hi⟩ := oe e he; exact ty_ne B.W (O.at_ i e hi) (by decide : (9 : Nat) ≠ 5)
  have L := B.L
  have W := B.W
  have hb := B.b
  have cl := B.cl
  have cw := B.cw
  simp only [List.length_map] at L W hb cl cw
  have s := owned_spec ([bookB (.sl 1 0 es.length cL) (.sl 2 0 es.length cW), listsB ((renE 3 es).map OE.sc ++ List.replicate (cL - es.length) nilC), wasB ((es.map OE.l).map strB ++ List.replicate (cW - es.length) noS)] ++ es.map winE) 0 (renE 3 es) 1 cL 2 cW
    ⟨by simp [renE_len], by simp [renE_len], by rw [renE_l]; simp [renE_len], by simp, by simpa [renE_len] using cl, by simpa [renE_len] using cw⟩
    (renE_owns es _ _ _ (fun e he => by obtain ⟨i, hi⟩ := oe e he; exact O.own i e hi) (fun e he => by obtain ⟨i, hi⟩ := oe e he; exact O.lt i e hi)) (by rw [renE_len]; exact hn)
  have r0 : ∀ (i : Nat) (e : OE), es[i]? = some e → renF ([bk, iL, iW] ++ es.map OE.w) H.length (3 + i) = e.w := fun i e he => by
    unfold renF
    rw [List.getElem?_append_right (by simp), show 3 + i - [bk, iL, iW].length = i by simp, List.getElem?_map, he]
    rfl
  refine (s.frame (args := [.c (.ptr bk 0)]) (h := H) false (fun h => by cases h) ([bk, iL, iW] ++ es.map OE.w) ⟨.inl ⟨by simp [SV.lt, SC.lt], rfl⟩, trivial⟩ ?_ ?_ ?_).mono fun t h' ⟨s0, h0', e1, e2, e3⟩ => ?_
  · show ((([iL, iW] ++ es.map OE.w).zip _).all _ && ((([iW] ++ es.map OE.w).zip _).all _ && (((es.map OE.w).zip _).all _ && piOk _ _))) = true
    rw [Bool.and_eq_true, Bool.and_eq_true, Bool.and_eq_true]
    refine ⟨all_ne fun y hy => ?_, all_ne fun y hy => ?_, all_ne fun y hy => ?_, piOk_es O.ne⟩
    · simp only [List.mem_append, List.mem_cons, List.not_mem_nil, or_false, List.mem_map] at hy
      rcases hy with (rfl | rfl) | ⟨e, he, rfl⟩
      · exact n1
      · exact n2
      · exact m1 e he
    · simp only [List.mem_append, List.mem_cons, List.not_mem_nil, or_false, List.mem_map] at hy
      rcases hy with rfl | ⟨e, he, rfl⟩
      · exact n3
      · exact m2 e he
    · simp only [List.mem_map] at hy
      obtain ⟨e, he, rfl⟩ := hy
      exact m3 e he
  · refine ⟨?_, ?_, ?_, preOk_es fun e he => ?_⟩
    · rw [hb]
      exact ⟨by simp only [List.length_map]; rfl, fun _ => ⟨rfl, rfl⟩⟩
    · rw [L]
      refine ⟨?_, fun _ => ⟨rfl, rfl⟩⟩
      show _ = List.map _ (_ ++ _)
      rw [List.map_append, renE_ren r0, List.map_replicate]
      rfl
    · rw [W]
      refine ⟨?_, fun _ => ⟨rfl, rfl⟩⟩
      show _ = List.map _ (_ ++ _)
      have hs : ∀ (r : Nat → Nat) (l : List (List UInt8)), (l.map strB).map (SC.ren r) = l.map strB := fun r l => by rw [List.map_map]; rfl
      rw [List.map_append, List.map_replicate, hs]
      rfl
    · obtain ⟨i, hi⟩ := oe e he
      exact O.at_ i e hi
  · rw [List.all_append, Bool.and_eq_true]
    refine ⟨?_, ?_⟩
    · simp only [List.all_cons, List.all_nil, Bool.and_true, Bool.and_eq_true, List.all_append]
      refine ⟨⟨by simp [SC.lt], by simp [SC.lt]⟩, ⟨renE_lt _ _ _ (by simp; omega), ?_⟩, ?_, ?_⟩
      · rw [List.all_eq_true]; intro x hx; rw [List.eq_of_mem_replicate hx]; rfl
      · rw [List.all_eq_true]; intro x hx; obtain ⟨y, _, rfl⟩ := List.mem_map.1 hx; rfl
      · rw [List.all_eq_true]; intro x hx; rw [List.eq_of_mem_replicate hx]; rfl
    · rw [List.all_eq_true]
      intro x hx
      obtain ⟨e, _, rfl⟩ := List.mem_map.1 hx
      rw [List.all_eq_true]
      intro y hy
      obtain ⟨z, _, rfl⟩ := List.mem_map.1 hy
      rfl
  · subst e1 e2 e3
    refine ⟨rfl, ?_, fun i b hi h1 h2 h3 h4 => plug_off hi ?_⟩
    · unfold plug
      rw [List.length_append, plugGo_len]
      omega
    · intro hm
      simp only [List.mem_append, List.mem_cons, List.not_mem_nil, or_false, List.mem_map] at hm
      rcases hm with (h | h | h) | ⟨e, he, h⟩
      · exact h1 h
      · exact h2 h
      · exact h3 h
      · exact h4 e he h

end Go.Proofs.Ytdfhmpheepobnaa.Sx
