/- A symbolic executor for the model's code: what it says of a body holds of the body's runs. No condition. -/
import Derived.Test.YthbojoiogjdbeaaSxOps6
import Derived.Orders
namespace Go.Proofs.Ythbojoiogjdbeaa.Sx
open Go
set_option linter.unusedSectionVars false
set_option linter.unusedVariables false

/-- What the executor's tables must meet. -/
structure CxOk (cx : Cx) : Prop where
  T : TOk cx.P cx.T
  flat : ∀ t ti, cx.flat t = true → cx.T t = some ti → FlatOk cx.P t ti.zero

variable {e : Env} {σ : St} {ρ : Rho} {a : Act} {w : World}

theorem constV_ok {x : Value} {s : SV} (h : constV x = some s) : s.rel ρ x := by
  unfold constV at h
  split at h
  · rename_i cs
    cases hc : cs.toList.all Value.oneCell'
    · rw [hc] at h; simp at h
    · rw [hc] at h
      simp only [cond_true, Option.some.injEq] at h
      subst h
      exact ⟨cs, rfl, RelL.vs (by intro y hy; exact List.all_eq_true.1 hc y hy)⟩
  · cases h
  · rename_i h1 h2
    cases h
    refine ⟨rfl, ?_⟩
    cases x <;> first | rfl | exact absurd rfl (h1 _) | exact absurd rfl (h2 _)

theorem ev_ok (S : SatR e σ ρ a w) {g : Bool} (hg : g = true) {x : Operand} {p : Prop} {s : SV} (h : ev g σ.tm x = some (p, s)) (hp : p) : s.rel ρ (a.eval x) := by
  cases x with
  | tmp t =>
    have gd : ∀ {y}, a.tmps[t]? = some y → a.eval (.tmp t) = y := by
      intro y hy
      simp [Act.eval, Array.getD_eq_getD_getElem?, hy]
    simp only [ev] at h
    split at h
    · rename_i u x hl
      cases h
      obtain ⟨y, hy, hr⟩ := S.tm t _ hl
      rw [gd hy]
      exact hr.1 (hp hg)
    · rename_i s' hno hl
      cases h
      obtain ⟨y, hy, hr⟩ := S.tm t _ hl
      rw [gd hy]
      exact hr
    · cases h
  | const v =>
    simp only [ev] at h
    split at h
    · rename_i hc
      cases h
      exact constV_ok hc
    · cases h
  | global g => simp [ev] at h
  | func f =>
    simp only [ev, Option.some.injEq, Prod.mk.injEq] at h
    obtain ⟨_, rfl⟩ := h
    exact ⟨fun p hp => by simp at hp, rfl⟩

theorem evs_ok (S : SatR e σ ρ a w) {g : Bool} (hg : g = true) : ∀ {os : List Operand} {p : Prop} {ss : List SV}, evs g σ.tm os = some (p, ss) → p → RelO ρ a.eval ss os
  | [], p, ss, h, hp => by
    simp only [evs, Option.some.injEq, Prod.mk.injEq] at h
    obtain ⟨_, rfl⟩ := h
    exact RelO.nil
  | o :: os, p, ss, h, hp => by
    simp only [evs] at h
    split at h
    · rename_i q s q' ss' h1 h2
      cases h
      exact RelO.cons (ev_ok S hg h1 hp.1) (evs_ok S hg h2 hp.2)
    · cases h

theorem opG_ok {cx : Cx} (hc : CxOk cx) (S : SatR e σ ρ a w) {g : Bool} (hg : g = true) (o : Oper) : OutOK cx.P σ.hp ρ w a.eval o.op ((execOp a.eval o).run cx.P) (opG cx g σ o.op) := by
  unfold opG
  split
  · rename_i c x y ho
    unfold pickE
    split
    · rename_i p t q b1 r b2 h1 h2 h3
      rintro ⟨hp, hq, hr⟩
      have rc := ev_ok S hg h1 hp
      have hb : boolOf (ev g σ.tm c) = t := by rw [h1]; rfl
      rw [hb] at h2 h3
      refine ⟨.bool (bif t then b1 else b2), fun _ _ => ?_, rfl, rfl⟩
      cases t
      · have rb := ev_ok S (by simp [hg]) h3 hr
        simp [execOp, ho, rc.1, asBool, rb.1]
      · have ra := ev_ok S (by simp [hg]) h2 hq
        simp [execOp, ho, rc.1, asBool, ra.1]
    · rename_i p t r s2 h1 h2 h3
      rintro ⟨hp, ht, hr⟩
      subst ht
      have rc := ev_ok S hg h1 hp
      have hb : boolOf (ev g σ.tm c) = false := by rw [h1]; rfl
      rw [hb] at h3
      refine ⟨a.eval y, fun _ _ => ?_, ev_ok S (by simp [hg]) h3 hr⟩
      simp [execOp, ho, rc.1, asBool]
    · rename_i p t q s1 h1 h2 h3
      rintro ⟨hp, ht, hq⟩
      subst ht
      have rc := ev_ok S hg h1 hp
      have hb : boolOf (ev g σ.tm c) = true := by rw [h1]; rfl
      rw [hb] at h2
      refine ⟨a.eval x, fun _ _ => ?_, ev_ok S (by simp [hg]) h2 hq⟩
      simp [execOp, ho, rc.1, asBool]
    · rename_i p t q s1 r' h1 h2 h3
      rintro ⟨hp, ht, hq⟩
      subst ht
      have rc := ev_ok S hg h1 hp
      have hb : boolOf (ev g σ.tm c) = true := by rw [h1]; rfl
      rw [hb] at h2
      refine ⟨a.eval x, fun _ _ => ?_, ev_ok S (by simp [hg]) h2 hq⟩
      simp [execOp, ho, rc.1, asBool]
    · trivial
  · unfold opE
    split
    · rename_i p ss hs
      have key : p → OutOK cx.P σ.hp ρ w a.eval o.op ((execOp a.eval o).run cx.P) (opR cx.T cx.flat σ.hp o.op ss) :=
        fun hp => opR_ok hc.T hc.flat S.step.models (evs_ok S hg hs hp)
      cases hr : opR cx.T cx.flat σ.hp o.op ss <;> rw [hr] at key <;> simp only [andR]
      · trivial
      · exact fun hp => key hp.1 hp.2
      · exact fun hp => key hp.1 hp.2
      · exact fun hp => key hp.1 hp.2
      · exact fun hp => key hp.1 hp.2
      · exact fun hp => key hp.1 hp.2
    · trivial

theorem look_put {d t : Nat} {s : SV} : ∀ {tm : List (Nat × SV)}, look t (put.go d s tm) = bif t == d then some s else look t tm
  | [] => by simp only [put.go, look]
  | (u, x) :: r => by
    simp only [put.go]
    by_cases hd : d = u
    · subst hd
      simp only [beq_self_eq_true, cond_true, look]
      cases t == d <;> rfl
    · have : (d == u) = false := by simpa using hd
      simp only [this, cond_false, look, look_put (tm := r)]
      by_cases ht : t = u
      · subst ht
        have h2 : (t == d) = false := by simpa using fun h => hd h.symm
        simp [h2]
      · have h2 : (t == u) = false := by simpa using ht
        simp [h2]

theorem look_drop {d t : Nat} : ∀ {tm : List (Nat × SV)} {s : SV}, look t (drop.go d tm) = some s → t ≠ d ∧ look t tm = some s
  | [], s, h => by simp [drop.go, look] at h
  | (u, x) :: r, s, h => by
    simp only [drop.go] at h
    by_cases hd : d = u
    · subst hd
      simp only [beq_self_eq_true, cond_true] at h
      obtain ⟨h1, h2⟩ := look_drop (tm := r) h
      refine ⟨h1, ?_⟩
      have : (t == d) = false := by simpa using h1
      simp [look, this, h2]
    · have : (d == u) = false := by simpa using hd
      simp only [this, cond_false, look] at h
      simp only [look]
      cases htu : t == u
      · rw [htu] at h
        simp only [cond_false] at h ⊢
        exact look_drop (tm := r) h
      · rw [htu] at h
        simp only [cond_true] at h ⊢
        have : t = u := by simpa using htu
        exact ⟨by omega, h⟩

theorem look_trim' {nm t : Nat} : ∀ {tm : List (Nat × SV)} {s : SV}, look t (trim nm tm) = some s → t < nm ∧ look t tm = some s
  | [], s, h => by simp [trim, look] at h
  | (u, x) :: r, s, h => by
    simp only [trim] at h
    cases hu : decide (u < nm)
    · rw [hu] at h
      simp only [cond_false] at h
      obtain ⟨h1, h2⟩ := look_trim' h
      have : (t == u) = false := by simp at hu ⊢; omega
      exact ⟨h1, by simp only [look, this, cond_false]; exact h2⟩
    · rw [hu] at h
      simp only [cond_true, look] at h ⊢
      cases htu : t == u
      · rw [htu] at h; simp only [cond_false] at h ⊢; exact look_trim' h
      · rw [htu] at h
        have : t = u := by simpa using htu
        exact ⟨by simp at hu; omega, h⟩

theorem MarksOk.ext {B : Nat} {Ds : List Nat} {S : Nat → Prop} {w w' : World} (h : MarksOk B Ds w) (E : Ext S w w') (hS : ∀ k, S k → ∀ D ∈ Ds, k ≠ D) : MarksOk B Ds w' :=
  ⟨h.1, fun D hD => by
    obtain ⟨h1, h2⟩ := h.2 D hD
    refine ⟨h1, ?_⟩
    rw [E.block D (Array.getElem?_eq_some_iff.1 h2).1 (fun hs => hS D hs D hD rfl)]
    exact h2⟩
theorem MarksOk.step {B : Nat} {Ds : List Nat} {h h' : List SB} {ρ ρ' : Rho} {w w' : World} (m : MarksOk B Ds w) (M : Models h ρ w) (st : Step h ρ w h' ρ' w') : MarksOk B Ds w' :=
  m.ext st.ext fun k ⟨i, b, h1, h2, h3⟩ D hD e => by
    obtain ⟨_, cs, ⟨fr, hr, _⟩, _⟩ := M.own i b h1 h2
    rw [h3, e, (m.2 D hD).2] at hr
    cases hr

theorem PinsOk.ext {ps : List (Nat × Obj)} {S : Nat → Prop} {w w' : World} (h : PinsOk ps w) (E : Ext S w w') (hS : ∀ k, S k → ∀ p ∈ ps, k ≠ p.1) : PinsOk ps w' := fun p hp => by
  obtain ⟨h1, h2⟩ := h p hp
  refine ⟨?_, h2⟩
  rw [E.block p.1 (Array.getElem?_eq_some_iff.1 h1).1 (fun hs => hS p.1 hs p hp rfl)]
  exact h1
theorem PinsOk.step {ps : List (Nat × Obj)} {h h' : List SB} {ρ ρ' : Rho} {w w' : World} (m : PinsOk ps w) (M : Models h ρ w) (st : Step h ρ w h' ρ' w') : PinsOk ps w' :=
  m.ext st.ext fun k ⟨i, b, h1, h2, h3⟩ p hp e => by
    obtain ⟨_, cs, ⟨fr, hr, _⟩, _⟩ := M.own i b h1 h2
    obtain ⟨q1, q2⟩ := m p hp
    rw [h3, e, q1] at hr
    rw [Option.some.inj hr] at q2
    cases q2

theorem SatR.tm_sub (S : SatR e σ ρ a w) {tm : List (Nat × SV)} (h : ∀ t s, look t tm = some s → look t σ.tm = some s) : SatR e ⟨σ.nm, tm, σ.hp⟩ ρ a w :=
  ⟨S.base, S.defers, S.size, S.step, fun t s hs => S.tm t s (h t s hs)⟩

theorem SatR.ext (S : SatR e σ ρ a w) {w' : World} (E : Ext (fun _ => False) w w') : SatR e σ ρ a w' :=
  ⟨S.base, let ⟨⟨Ds, h1, h2⟩, h3⟩ := S.defers; ⟨⟨Ds, h1, h2.ext E fun _ h => h.elim⟩, h3.ext E fun _ h => h.elim⟩, S.size, S.step.trans ⟨⟨Nat.le_refl _, fun _ _ => rfl, rfl, rfl⟩, S.step.models.ext E, fun i h1 h2 => by omega, E.mono fun _ _ h => h.elim, fun i b _ hb ho => ⟨b, hb, ho⟩, fun i b _ hb hv => ⟨b, hb, hv⟩⟩, S.tm⟩

theorem act_put_get {dst : Option Tmp} {v : Value} {t : Nat} (hd : ∀ d, dst = some d → d < a.tmps.size) : (a.put dst v).tmps[t]? = if dst = some t then some v else a.tmps[t]? := by
  cases dst with
  | none => simp [Act.put]
  | some d =>
    simp only [Act.put, Option.some.injEq, Array.getElem?_setIfInBounds]
    by_cases h : d = t
    · subst h; simp [hd d rfl]
    · simp [h]

theorem SatR.put (S : SatR e σ ρ a w) {dst : Option Tmp} (hd : ∀ d, dst = some d → d < e.nt) {y : Value} {s : SV} {hp' : List SB} {ρ' : Rho} {w' : World} (st : Step σ.hp ρ w hp' ρ' w') (hs : s.rel ρ' y) :
    SatR e ⟨σ.nm, Sx.put dst s σ.tm, hp'⟩ ρ' (a.put dst y) w' where
  base := S.base
  defers := by
    obtain ⟨⟨Ds, h1, h2⟩, h3⟩ := S.defers
    exact ⟨⟨Ds, by cases dst <;> exact h1, h2.step S.step.models st⟩, h3.step S.step.models st⟩
  size := by cases dst <;> simp [Act.put, S.size]
  step := S.step.trans st
  tm t x hx := by
    rw [act_put_get (fun d h => by rw [S.size]; exact hd d h)]
    cases dst with
    | none =>
      simp only [Sx.put] at hx
      obtain ⟨y', h1, h2⟩ := S.tm t x hx
      exact ⟨y', by simpa using h1, SV.rel_le st.le h2⟩
    | some d =>
      simp only [Sx.put, look_put] at hx
      cases htd : t == d
      · rw [htd] at hx
        simp only [cond_false] at hx
        obtain ⟨y', h1, h2⟩ := S.tm t x hx
        have : d ≠ t := by intro h; subst h; simp at htd
        exact ⟨y', by simpa [this] using h1, SV.rel_le st.le h2⟩
      · rw [htd] at hx
        have : t = d := by simpa using htd
        subst this
        simp only [cond_true, Option.some.injEq] at hx
        subst hx
        exact ⟨y, by simp, hs⟩

theorem SatR.drop (S : SatR e σ ρ a w) {dst : Option Tmp} (hd : ∀ d, dst = some d → d < e.nt) {y : Value} {hp' : List SB} {ρ' : Rho} {w' : World} (st : Step σ.hp ρ w hp' ρ' w') :
    SatR e ⟨σ.nm, Sx.drop dst σ.tm, hp'⟩ ρ' (a.put dst y) w' where
  base := S.base
  defers := by
    obtain ⟨⟨Ds, h1, h2⟩, h3⟩ := S.defers
    exact ⟨⟨Ds, by cases dst <;> exact h1, h2.step S.step.models st⟩, h3.step S.step.models st⟩
  size := by cases dst <;> simp [Act.put, S.size]
  step := S.step.trans st
  tm t x hx := by
    rw [act_put_get (fun d h => by rw [S.size]; exact hd d h)]
    cases dst with
    | none =>
      simp only [Sx.drop] at hx
      obtain ⟨y', h1, h2⟩ := S.tm t x hx
      exact ⟨y', by simpa using h1, SV.rel_le st.le h2⟩
    | some d =>
      simp only [Sx.drop] at hx
      obtain ⟨h0, hx'⟩ := look_drop hx
      obtain ⟨y', h1, h2⟩ := S.tm t x hx'
      exact ⟨y', by simpa [Ne.symm h0] using h1, SV.rel_le st.le h2⟩

theorem guard_ok (S : SatR e σ ρ a w) {all : List Oper} {o : Oper} {g : Bool} (hg : o.guard ≠ none) (h : guardVal σ.tm (guardSlot all o) = some g) : Region.wanted o (yielded all.toArray a.tmps) = g := by
  unfold Region.wanted
  cases hgd : o.guard with
  | none => exact absurd hgd hg
  | some jw =>
    obtain ⟨j, want⟩ := jw
    simp only [guardSlot, hgd] at h
    split at h
    · rename_i t op ty pos aft gd hj
      have hy : yielded all.toArray a.tmps j = match a.tmps[t]? with
          | some (.bool b) => some b
          | _ => none := by
        simp [yielded, hj]
        cases a.tmps[t]? with
        | none => rfl
        | some v => cases v <;> rfl
      simp only [hy]
      simp only [guardVal] at h
      split at h
      · rename_i b hl
        simp only [Option.some.injEq] at h
        obtain ⟨y, h1, h2⟩ := S.tm t _ hl
        rw [h1, h2.1]
        subst h
        cases b <;> cases want <;> rfl
      · rename_i u b hl
        simp only [Option.some.injEq] at h
        obtain ⟨y, h1, h2⟩ := S.tm t _ hl
        rw [h1]
        subst h
        cases u
        · rw [h2.2 rfl]
          cases b <;> cases want <;> rfl
        · rw [(h2.1 rfl).1]
          cases b <;> cases want <;> rfl
      · cases h
    · simp [guardVal] at h

theorem popTo_ok {P : Program} {id : Nat} {Q : Exit → Act → World → Prop} : ∀ {k : List KI}, (∀ k', popTo id k = some k' → contQ P e k' Q .normal a w) → (popTo id k = none → Q (.exit id) a w) → contQ P e k Q (.exit id) a w
  | [], _, h => h rfl
  | .code c :: k, h1, h2 => popTo_ok (k := k) h1 h2
  | .ops _ _ :: k, h1, h2 => popTo_ok (k := k) h1 h2
  | .scp :: k, h1, h2 => popTo_ok (k := k) h1 h2
  | .lp _ :: k, h1, h2 => popTo_ok (k := k) h1 h2
  | .rnd _ _ :: k, h1, h2 => popTo_ok (k := k) h1 h2
  | .blk j :: k, h1, h2 => by
    simp only [contQ, Exit.inBlock]
    by_cases hj : id = j
    · subst hj
      simp only [if_true]
      exact h1 k (by simp [popTo])
    · simp only [hj, if_false]
      have : (j == id) = false := by simpa using Ne.symm hj
      exact popTo_ok (k := k) (fun k' hk => h1 k' (by simpa [popTo, this] using hk)) (fun hn => h2 (by simpa [popTo, this] using hn))

theorem popTo_mem {id : Nat} : ∀ {k k' : List KI}, popTo id k = some k' → ∀ i ∈ k', i ∈ k
  | [], k', h, i, hi => by simp [popTo] at h
  | .code c :: k, k', h, i, hi => .tail _ (popTo_mem (k := k) h i hi)
  | .ops _ _ :: k, k', h, i, hi => .tail _ (popTo_mem (k := k) h i hi)
  | .scp :: k, k', h, i, hi => .tail _ (popTo_mem (k := k) h i hi)
  | .lp _ :: k, k', h, i, hi => .tail _ (popTo_mem (k := k) h i hi)
  | .rnd _ _ :: k, k', h, i, hi => .tail _ (popTo_mem (k := k) h i hi)
  | .blk j :: k, k', h, i, hi => by
    simp only [popTo] at h
    cases hj : j == id
    · rw [hj] at h; exact .tail _ (popTo_mem (k := k) h i hi)
    · rw [hj] at h; simp only [cond_true, Option.some.injEq] at h; subst h; exact .tail _ hi

theorem contQ_ret {P : Program} {Q : Exit → Act → World → Prop} (h : Q .ret a w) : ∀ (k : List KI), contQ P e k Q .ret a w
  | [] => h
  | .code c :: k => contQ_ret h k
  | .ops _ _ :: k => contQ_ret h k
  | .scp :: k => contQ_ret h k
  | .lp _ :: k => contQ_ret h k
  | .rnd _ _ :: k => contQ_ret h k
  | .blk j :: k => contQ_ret h k

theorem contQ_panic {P : Program} {Q : Exit → Act → World → Prop} {ch : List PanicEntry} (h : Q (.panic ch) a w) : ∀ (k : List KI), contQ P e k Q (.panic ch) a w
  | [] => h
  | .code c :: k => contQ_panic h k
  | .ops _ _ :: k => contQ_panic h k
  | .scp :: k => contQ_panic h k
  | .lp _ :: k => contQ_panic h k
  | .rnd _ _ :: k => contQ_panic h k
  | .blk j :: k => contQ_panic h k

/-- The plain order. -/
theorem wpList_of_wpL {P : Program} {all : List Oper} {Q : Exit → Act → World → Prop} : ∀ (l : List (Oper × Bool)) (a : Act) (w : World), wpL P all Q l a w → wpList P all.toArray Q (l.map (·.1)) a w
  | [], a, w, h => h
  | (o, b) :: r, a, w, h => by
    simp only [wpL] at h
    simp only [List.map_cons, wpList]
    split
    · rename_i hw; rw [if_pos hw] at h; exact .inl (Oper.wp_mono (fun a' w' hh => wpList_of_wpL r a' w' hh.2) h)
    · rename_i hw; rw [if_neg hw] at h; exact wpList_of_wpL r _ _ h

end Go.Proofs.Ythbojoiogjdbeaa.Sx
