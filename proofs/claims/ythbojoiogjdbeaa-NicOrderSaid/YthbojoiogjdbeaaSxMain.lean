/- A symbolic executor for the model's code: its soundness, and how calls and loops are met. No condition. -/
import Derived.Test.YthbojoiogjdbeaaSxWk
namespace Go.Proofs.Ythbojoiogjdbeaa.Sx
open Go
set_option linter.unusedSectionVars false
set_option linter.unusedVariables false

variable {cx : Cx}

/-- What the executor says from here on holds of every run. -/
def Holds (cx : Cx) (xn : XN) : Prop := ∀ (k : List KI) (σ : St) (Q : XE → St → Prop), xn k σ Q → ∀ (e : Env) (a : Act) (w : World), (∀ i ∈ k, i.ok e.nt) → Sat e σ a w → contQ cx.P e k (hatQ e Q) .normal a w

theorem mask_get {h : List SB} {i : Nat} {b : SB} (hb : (mask h)[i]? = some b) : ∃ b0, h[i]? = some b0 ∧ b = { b0 with own := false } := by
  simp only [mask, List.getElem?_map] at hb
  cases hq : h[i]? with
  | none => rw [hq] at hb; cases hb
  | some b0 => rw [hq] at hb; simp only [Option.map_some, Option.some.injEq] at hb; exact ⟨b0, rfl, hb.symm⟩

theorem Models.mask {h : List SB} {ρ : Rho} {w : World} (M : Models h ρ w) : Models (Sx.mask h) ρ w where
  n := by simp [Sx.mask, M.n]
  own i b hb ho := by obtain ⟨b0, _, rfl⟩ := mask_get hb; cases ho
  ro i b hb j c hc := by obtain ⟨b0, h1, rfl⟩ := mask_get hb; exact M.ro i b0 h1 j c hc
  sep i j bi bj _ hi _ ho := by obtain ⟨b0, _, rfl⟩ := mask_get hi; cases ho
  lt i b hb hv := by
    obtain ⟨b0, h1, rfl⟩ := mask_get hb
    exact M.lt i b0 h1 (by simp only [SB.void, Bool.not_false, Bool.true_and] at hv ⊢; rw [hv]; simp)
  zone := M.zone
  zsep k i b _ hb ho := by obtain ⟨b0, _, rfl⟩ := mask_get hb; cases ho

/-- Behind a call that may write nothing, the windows are what they were, and the new ones. -/
theorem Step.unmask {h h' : List SB} {ρ ρ' : Rho} {w w' : World} (M : Models h ρ w) (s : Step (mask h) ρ w h' ρ' w') : Step h ρ w (h ++ h'.drop h.length) ρ' w' ∧ Ext (fun _ => False) w w' := by
  have E : Ext (fun _ => False) w w' := s.ext.mono fun k _ ⟨i, b, h1, h2, _⟩ => by obtain ⟨b0, _, rfl⟩ := mask_get h1; cases h2
  have M' := M.ext E
  have hn : h.length ≤ h'.length := by rw [← M.n, ← s.models.n]; exact s.le.1
  have cas : ∀ {i : Nat} {b : SB}, (h ++ h'.drop h.length)[i]? = some b → (i < ρ.n ∧ h[i]? = some b ∧ ρ'.f i = ρ.f i) ∨ (ρ.n ≤ i ∧ h'[i]? = some b) := by
    intro i b hb
    by_cases hi : i < h.length
    · rw [List.getElem?_append_left hi] at hb
      exact .inl ⟨by rw [M.n]; exact hi, hb, s.le.2 i (by rw [M.n]; exact hi)⟩
    · rw [List.getElem?_append_right (by omega), List.getElem?_drop] at hb
      exact .inr ⟨by rw [M.n]; omega, by rwa [show h.length + (i - h.length) = i from by omega] at hb⟩
  have fr : ∀ {i : Nat} {b : SB}, ρ.n ≤ i → h'[i]? = some b → w.heap.size ≤ (ρ'.f i).1 := fun hi hb => s.fresh _ hi (s.models.some_lt hb)
  refine ⟨⟨s.le, ⟨?_, ?_, ?_, ?_, ?_, ?_, ?_⟩, s.fresh, E.mono (fun _ _ h => h.elim), ?_, ?_⟩, E⟩
  · rw [s.models.n]; simp; omega
  · intro i b hb ho
    rcases cas hb with ⟨h1, h2, h3⟩ | ⟨h1, h2⟩
    · rw [h3]
      obtain ⟨g1, cs, g2, g3⟩ := M'.own i b h2 ho
      exact ⟨g1, cs, g2, g3.le s.le⟩
    · exact s.models.own i b h2 ho
  · intro i b hb j c hc
    rcases cas hb with ⟨h1, h2, h3⟩ | ⟨h1, h2⟩
    · obtain ⟨y, g1, g2⟩ := M'.ro i b h2 j c hc
      exact ⟨y, by simp only [Rho.at, h3]; exact g1, SC.rel_le s.le g2⟩
    · exact s.models.ro i b h2 j c hc
  · intro i j bi bj hne hi hj ho hv
    rcases cas hi with ⟨h1, h2, h3⟩ | ⟨h1, h2⟩ <;> rcases cas hj with ⟨k1, k2, k3⟩ | ⟨k1, k2⟩
    · rw [h3, k3]; exact M.sep i j bi bj hne h2 k2 ho hv
    · rw [h3]; exact Nat.ne_of_lt (Nat.lt_of_lt_of_le (M.lt i bi h2 (void_of_own ho)) (fr k1 k2))
    · rw [k3]; exact (Nat.ne_of_lt (Nat.lt_of_lt_of_le (M.lt j bj k2 hv) (fr h1 h2))).symm
    · exact s.models.sep i j bi bj hne h2 k2 ho hv
  · intro i b hb hv
    rcases cas hb with ⟨h1, h2, h3⟩ | ⟨h1, h2⟩
    · rw [h3]; exact M'.lt i b h2 hv
    · exact s.models.lt i b h2 hv
  · exact s.models.zone
  · intro k i b hk hb ho
    rcases cas hb with ⟨h1, h2, h3⟩ | ⟨h1, h2⟩
    · rw [h3]; exact M.zsep k i b (by rw [← s.le.4]; exact hk) h2 ho
    · exact s.models.zsep k i b hk h2 ho
  · intro i b hi hb ho
    rcases cas hb with ⟨h1, h2, h3⟩ | ⟨h1, h2⟩
    · exact ⟨b, h2, ho⟩
    · omega
  · intro i b hi hb ho
    rcases cas hb with ⟨h1, h2, h3⟩ | ⟨h1, h2⟩
    · exact ⟨b, h2, ho⟩
    · omega

theorem dst_lt {nt : Nat} {o : Oper} (h : dstOk nt o = true) : ∀ d, o.dst = some d → d < nt := by
  intro d hd
  simp only [dstOk, hd, decide_eq_true_eq] at h
  exact h

section
variable {e : Env} {σ : St} {a : Act} {w : World} {xn : XN}

theorem XWk.to {k : List KI} {Q : XE → St → Prop} (h : XWk xn k σ Q) (S : Sat e σ a w) : ∃ σ', Sat e σ' a w ∧ xn k σ' Q := by
  rcases h with h | ⟨τ, h1, h2⟩
  · exact ⟨σ, S, h⟩
  · exact ⟨τ, h1 _ _ _ S, h2⟩

/-- One operation that is carried out: where it leads. -/
theorem stepR_to (hc : CxOk cx) {ben : Bool} {o : Oper} {k : List KI} {Q : XE → St → Prop} {N : Exit → Act → World → Prop} (hN : ∀ (ch : List PanicEntry) (σ' : St) (a' : Act) (w' : World), Q (.panic ch) σ' → Sat e σ' a' w' → N (.panic ch) a' w') (ho : dstOk e.nt o = true)
    (hs : stepR cx.P xn ben o k σ Q (opG cx true σ o.op)) (S : Sat e σ a w) :
    o.wp cx.P a w (fun a' w' => (ben = true → Ext (fun _ => False) w w') ∧ ∃ σ', Sat e σ' a' w' ∧ xn k σ' Q) N := by
  obtain ⟨ρ, S⟩ := S
  have hd := dst_lt ho
  have key := opG_ok hc S rfl o
  have M := S.step.models
  unfold Oper.wp
  cases hr : opG cx true σ o.op with
  | bad => rw [hr] at hs; exact hs.elim
  | val p s =>
    rw [hr] at hs key
    obtain ⟨hp, hs⟩ := hs
    obtain ⟨y, h1, h2⟩ := key hp
    rw [h1 w Same.refl]
    exact ⟨fun _ => Ext.refl _ _, _, ⟨ρ, S.put hd (Step.refl M) h2⟩, hs⟩
  | mem p s h =>
    rw [hr] at hs key
    obtain ⟨hp, hb, hs⟩ := hs
    obtain ⟨w', ρ', st, hl, hv⟩ := key hp
    rcases hv with ⟨h1, h2⟩ | ⟨h1, y, h2, h3⟩
    · rw [h2]
      rw [h1] at hs
      exact ⟨fun hb' => hl (hb hb'), _, ⟨ρ', S.drop hd st⟩, hs⟩
    · rw [h2]
      rw [h1] at hs
      exact ⟨fun hb' => hl (hb hb'), _, ⟨ρ', S.put hd st h3⟩, hs⟩
  | app p need cap room grow =>
    rw [hr] at hs key
    obtain ⟨hp, hb, hs1, hs2⟩ := hs
    obtain ⟨k1, k2⟩ := key hp
    by_cases hn : need ≤ cap
    · obtain ⟨w', y, st, h1, h2⟩ := k1 hn
      rw [h1]
      exact ⟨(fun h => by rw [hb] at h; cases h), (hs1 hn).to ⟨ρ, S.put hd st h2⟩⟩
    · obtain ⟨c, w', ρ', y, g1, g2, st, h1, h2⟩ := k2 (by omega)
      rw [h1]
      exact ⟨(fun h => by rw [hb] at h; cases h), (hs2 (by omega) c g1 g2).to ⟨ρ', S.put hd st h2⟩⟩
  | conv p n grow =>
    rw [hr] at hs key
    obtain ⟨hp, hs⟩ := hs
    obtain ⟨c, w', ρ', y, g1, g2, st, hE, h1, h2⟩ := key hp
    rw [h1]
    exact ⟨fun _ => hE, _, ⟨ρ', S.put hd st h2⟩, (hs c g1 g2)⟩
  | call p f args =>
    rw [hr] at hs key
    obtain ⟨hp, hs⟩ := hs
    obtain ⟨vs, h1, h2, h3⟩ := key hp
    rw [h1]
    cases ben
    · rcases hs with ⟨K, ⟨q1, q2⟩, q3⟩ | ⟨ch, ⟨q1, q2⟩, q3⟩
      · rw [q1]
        refine (q2 ρ w vs M h2 h3).mono ?_
        rintro e' w' ⟨y, s, h', ρ', rfl, st, r, hK⟩
        exact ⟨(fun h => by cases h), (q3 s h' hK).to ⟨ρ', S.put hd st r⟩⟩
      · rw [q1]
        refine (q2 ρ w vs M h2 h3).mono ?_
        rintro e' w' ⟨rfl, hE⟩
        exact hN ch σ a w' q3 ⟨ρ, S.ext hE⟩
    · obtain ⟨K, ⟨q1, q2⟩, q3⟩ := hs
      rw [q1]
      refine (q2 ρ w vs M.mask h2 h3).mono ?_
      rintro e' w' ⟨y, s, h', ρ', rfl, st, r, hK⟩
      obtain ⟨st', hE⟩ := st.unmask M
      exact ⟨fun _ => hE, _, ⟨ρ', S.put hd st' r⟩, (q3 s h' hK)⟩

/-- One operation that is carried out. -/
theorem stepR_ok (hc : CxOk cx) (hx : Holds cx xn) {ben : Bool} {o : Oper} {k : List KI} {Q : XE → St → Prop} (hk : ∀ i ∈ k, i.ok e.nt) {k0 : List KI} (ho : dstOk e.nt o = true)
    (hs : stepR cx.P xn ben o k σ Q (opG cx true σ o.op)) (S : Sat e σ a w) :
    o.wp cx.P a w (fun a' w' => (ben = true → Ext (fun _ => False) w w') ∧ contQ cx.P e k (hatQ e Q) .normal a' w') (contQ cx.P e k0 (hatQ e Q)) :=
  Oper.wp_mono (fun a' w' ⟨h1, σ', h2, h3⟩ => ⟨h1, hx _ _ _ h3 e _ _ hk h2⟩) (stepR_to hc (fun ch σ' a' w' hq hS => contQ_panic ⟨σ', hS, hq⟩ k0) ho hs S)

theorem undV_rel {g : Bool} {s : SV} {ρ : Rho} {y : Value} (hc : isC s = true) (h1 : g = true → s.rel ρ y) (h2 : g = false → y = undef) : (undV g s).rel ρ y := by
  cases s with
  | c x => exact ⟨h1, h2⟩
  | agg _ => cases hc
  | tup _ => cases hc
  | und _ _ => cases hc

end

theorem wp_guardless {P : Program} {o : Oper} {a : Act} {w : World} {K : Act → World → Prop} {N : Exit → Act → World → Prop} : ({ o with guard := none } : Oper).wp P a w K N = o.wp P a w K N := by
  cases o; rfl

theorem holds_succ (hc : CxOk cx) {xn : XN} (hx : Holds cx xn) : Holds cx (stepX cx xn) := by
  intro k σ Q h e a w hk S
  have ok1 : ∀ {i : KI} {k' : List KI}, (∀ j ∈ i :: k', j.ok e.nt) → i.ok e.nt ∧ ∀ j ∈ k', j.ok e.nt := fun h => ⟨h _ (.head _), fun j hj => h j (.tail _ hj)⟩
  have ok2 : ∀ {i : KI} {k' : List KI}, i.ok e.nt → (∀ j ∈ k', j.ok e.nt) → ∀ j ∈ i :: k', j.ok e.nt := fun h1 h2 j hj => by
    cases hj with
    | head => exact h1
    | tail _ hj => exact h2 j hj
  unfold stepX at h
  split at h
  · exact ⟨σ, S, h⟩
  · exact wp_skip (hx _ _ _ h e a w (ok1 hk).2 S)
  · -- a region in the text's order
    rename_i id ops k
    obtain ⟨o1, o2⟩ := ok1 hk
    refine wp_region_list ?_
    obtain ⟨ρ, S⟩ := S
    have := hx _ _ _ h e a w (ok2 (fun p hp => by
      simp only [List.mem_map] at hp
      obtain ⟨o, ho, rfl⟩ := hp
      exact List.all_eq_true.1 o1 o ho) o2) ⟨ρ, S.tm_sub fun t s hs => (look_trim' hs).2⟩
    have := wpList_of_wpL _ _ _ this
    simpa [List.map_map, Function.comp_def] using this
  · rename_i id ops k
    obtain ⟨o1, o2⟩ := ok1 hk
    obtain ⟨ρ, S⟩ := S
    exact h e a w (fun o ho => List.all_eq_true.1 o1 o ho) o2 ⟨ρ, S.tm_sub fun t s hs => (look_trim' hs).2⟩
  · rename_i x y k
    obtain ⟨o1, o2⟩ := ok1 hk
    have o3 : codeOk e.nt x = true ∧ codeOk e.nt y = true := by simpa [KI.ok, codeOk] using o1
    exact wp_seq (hx _ _ _ h e a w (ok2 o3.1 (ok2 o3.2 o2)) S)
  · rename_i c x y k
    obtain ⟨o1, o2⟩ := ok1 hk
    have o3 : codeOk e.nt x = true ∧ codeOk e.nt y = true := by simpa [KI.ok, codeOk] using o1
    split at h
    · rename_i p t hev
      obtain ⟨hp, h1, h2⟩ := h
      obtain ⟨ρ, S⟩ := S
      have hb := (ev_ok S rfl hev hp).1
      exact wp_cond_split hb (fun ht => hx _ _ _ (h1 ht) e a w (ok2 o3.1 o2) ⟨ρ, S⟩) (fun ht => hx _ _ _ (h2 ht) e a w (ok2 o3.2 o2) ⟨ρ, S⟩)
    · exact h.elim
  · obtain ⟨o1, o2⟩ := ok1 hk
    exact wp_block (hx _ _ _ h e a w (ok2 o1 (ok2 trivial o2)) S)
  · obtain ⟨o1, o2⟩ := ok1 hk
    exact wp_scope_straight (hx _ _ _ h e a w (ok2 o1 (ok2 trivial o2)) S)
  · obtain ⟨o1, o2⟩ := ok1 hk
    exact h e a w o1 o2 S
  · rename_i id k
    obtain ⟨o1, o2⟩ := ok1 hk
    refine wp_exit (popTo_ok (fun k' hk' => ?_) (fun hn => ?_))
    · rw [hk'] at h
      exact hx _ _ _ h e a w (fun i hi => o2 i (popTo_mem hk' i hi)) S
    · rw [hn] at h
      exact ⟨σ, S, h⟩
  · exact wp_ret (contQ_ret ⟨σ, S, h⟩ _)
  · exact h e a w (ok1 hk).1 (ok1 hk).2 S
  · exact h.elim
  · exact hx _ _ _ h e a w (ok1 hk).2 S
  · -- one operation
    rename_i all o ben r k
    obtain ⟨o1, o2⟩ := ok1 hk
    have od : dstOk e.nt o = true := o1 (o, ben) (.head _)
    have or : KI.ok e.nt (.ops all r) := fun p hp => o1 p (.tail _ hp)
    show wpL cx.P all (contQ cx.P e k (hatQ e Q)) ((o, ben) :: r) a w
    simp only [wpL]
    split at h
    · rename_i hg
      rw [if_pos (by simp [Region.wanted, hg])]
      exact stepR_ok hc hx (ok2 or o2) od h S
    · rename_i gd hg
      split at h
      · rename_i g hgv
        obtain ⟨ρ, S⟩ := S
        have hw := guard_ok S (by rw [hg]; simp) hgv
        rw [hw]
        have hd := dst_lt od
        have M := S.step.models
        -- under a guard: either carried out as if there were none, or not
        have br : XBr xn g (.ops all (({ o with guard := none }, ben) :: r) :: k) (.ops all r :: k) σ ⟨σ.nm, put o.dst skipV σ.tm, σ.hp⟩ Q →
            (if g = true then o.wp cx.P a w (fun a' w' => (ben = true → Ext (fun _ => False) w w') ∧ wpL cx.P all (contQ cx.P e k (hatQ e Q)) r a' w') (contQ cx.P e k (hatQ e Q)) else wpL cx.P all (contQ cx.P e k (hatQ e Q)) r (a.put o.dst undef) w) := by
          rintro ⟨h1, h2⟩
          cases g
          · simp only [Bool.false_eq_true, if_false]
            exact hx _ _ _ (h2 rfl) e _ _ (ok2 or o2) ⟨ρ, S.put hd (Step.refl M) skip_rel⟩
          · simp only [if_true]
            have := hx _ _ _ (h1 rfl) e a w (ok2 (fun p hp => by
              cases hp with
              | head => exact od
              | tail _ hp => exact or p hp) o2) ⟨ρ, S⟩
            have this : wpL cx.P all (contQ cx.P e k (hatQ e Q)) (({ o with guard := none }, ben) :: r) a w := this
            simp only [wpL] at this
            rw [if_pos (by simp [Region.wanted])] at this
            rwa [wp_guardless] at this
        cases hr : opG cx g σ o.op with
        | bad =>
          rw [hr] at h
          obtain ⟨rfl, h⟩ := h
          simp only [Bool.false_eq_true, if_false]
          exact hx _ _ _ h e _ _ (ok2 or o2) ⟨ρ, S.put hd (Step.refl M) skip_rel⟩
        | val p s =>
          rw [hr] at h
          simp only [stepU] at h
          cases hic : isC s
          · rw [hic] at h; exact br h
          rw [hic] at h
          obtain ⟨hp, h⟩ := h
          cases g
          · simp only [Bool.false_eq_true, if_false]
            exact hx _ _ _ h e _ _ (ok2 or o2) ⟨ρ, S.put hd (Step.refl M) (undV_rel hic (fun h => by cases h) (fun _ => rfl))⟩
          · simp only [if_true]
            have key := opG_ok hc S rfl o
            rw [hr] at key
            obtain ⟨y, h1, h2⟩ := key (hp rfl)
            unfold Oper.wp
            rw [h1 w Same.refl]
            exact ⟨fun _ => Ext.refl _ _, hx _ _ _ h e _ _ (ok2 or o2) ⟨ρ, S.put hd (Step.refl M) (undV_rel hic (fun _ => h2) (fun h => by cases h))⟩⟩
        | mem p s h' => rw [hr] at h; exact br h
        | app p need cap room grow => rw [hr] at h; exact br h
        | conv p n grow => rw [hr] at h; exact br h
        | call p f args => rw [hr] at h; exact br h
      · exact h.elim
  · exact hx _ _ _ h e a w (ok1 hk).2 S
  · exact hx _ _ _ h e a w (ok1 hk).2 S
  · exact ⟨σ, S, h⟩
  · exact h.elim
  · obtain ⟨o1, o2⟩ := ok1 hk
    exact hx _ _ _ h e a w (ok2 o1 (ok2 o1 o2)) S

theorem X_ok (hc : CxOk cx) : ∀ n, Holds cx (X cx n)
  | 0 => fun _ _ _ h => h.elim
  | n + 1 => fun k σ Q h => holds_succ hc (X_ok hc n) k σ Q h

end Go.Proofs.Ythbojoiogjdbeaa.Sx
