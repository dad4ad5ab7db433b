/- A symbolic executor for the model's code: less may be known, and by other names. No condition. -/
import Derived.Test.YthbojoiogjdbeaaSxSound
namespace Go.Proofs.Ythbojoiogjdbeaa.Sx
open Go
set_option linter.unusedSectionVars false
set_option linter.unusedVariables false

variable {cx : Cx}

section
variable {π : List (Option Nat)}

theorem piBase_get {B : Nat} : ∀ {π : List (Option Nat)} {k : Nat}, piBase B k π = true → (∀ j : Nat, k + j < B → π[j]? = some (some (k + j))) ∧ (∀ j i : Nat, π[j]? = some (some i) → B ≤ k + j → B ≤ i) ∧
    (∀ j l i i' : Nat, j ≠ l → π[j]? = some (some i) → π[l]? = some (some i') → i ≠ i')
  | [], k, h => by
    simp only [piBase, decide_eq_true_eq] at h
    exact ⟨fun j hj => by omega, fun j i hi => by simp at hi, fun j l i i' _ hj => by simp at hj⟩
  | none :: π, k, h => by
    simp only [piBase, Bool.and_eq_true, decide_eq_true_eq] at h
    obtain ⟨h1, h2⟩ := h
    obtain ⟨g1, g2, g3⟩ := piBase_get h2
    refine ⟨fun j hj => by omega, fun j i hi hB => ?_, fun j l i i' hne hj hl => ?_⟩
    · cases j with
      | zero => simp at hi
      | succ j => exact g2 j i (by simpa using hi) (by omega)
    · cases j with
      | zero => simp at hj
      | succ j => cases l with
        | zero => simp at hl
        | succ l => exact g3 j l i i' (by omega) (by simpa using hj) (by simpa using hl)
  | some i0 :: π, k, h => by
    simp only [piBase, Bool.and_eq_true] at h
    obtain ⟨⟨h0, h1⟩, h2⟩ := h
    obtain ⟨g1, g2, g3⟩ := piBase_get h2
    have hno : ∀ l : Nat, π[l]? ≠ some (some i0) := fun l hl => by
      have : some i0 ∈ π := List.mem_of_getElem? hl
      simp [this] at h1
    refine ⟨fun j hj => ?_, fun j i hi hB => ?_, fun j l i i' hne hj hl => ?_⟩
    · cases j with
      | zero =>
        have : decide (k < B) = true := by simpa using hj
        rw [this] at h0
        simp at h0
        simp [h0]
      | succ j =>
        have := g1 j (by omega)
        rw [List.getElem?_cons_succ, this]
        congr 2
        omega
    · cases j with
      | zero =>
        simp at hi
        subst hi
        have : decide (k < B) = false := by simp; omega
        rw [this] at h0
        simpa using h0
      | succ j => exact g2 j i (by simpa using hi) (by omega)
    · cases j with
      | zero =>
        simp at hj
        subst hj
        cases l with
        | zero => omega
        | succ l => intro e; subst e; exact hno l (by simpa using hl)
      | succ j =>
        cases l with
        | zero =>
          simp at hl
          subst hl
          intro e; subst e; exact hno j (by simpa using hj)
        | succ l => exact g3 j l i i' (by omega) (by simpa using hj) (by simpa using hl)

theorem wkHp_get {π0 : List (Option Nat)} {h : List SB} : ∀ {π : List (Option Nat)} {ht : List SB}, wkHp π0 h π ht → π.length = ht.length ∧ ∀ (k : Nat) (bt : SB), ht[k]? = some bt →
    (π[k]? = some none ∧ bt.own = false ∧ bt.cells = []) ∨ (∃ i b, π[k]? = some (some i) ∧ h[i]? = some b ∧ leL π0 b.cells bt.cells ∧ (bt.own = true → b.own = true ∧ b.ty = bt.ty))
  | [], [], _ => ⟨rfl, fun k bt hk => by simp at hk⟩
  | none :: π, bt :: ht, hw => by
    simp only [wkHp] at hw
    obtain ⟨h1, h2⟩ := wkHp_get hw.2
    refine ⟨by simp [h1], fun k b hk => ?_⟩
    cases k with
    | zero => simp at hk; subst hk; exact .inl ⟨rfl, hw.1⟩
    | succ k => simpa using h2 k b (by simpa using hk)
  | some i :: π, bt :: ht, hw => by
    simp only [wkHp] at hw
    obtain ⟨h1, h2⟩ := wkHp_get hw.2
    refine ⟨by simp [h1], fun k b hk => ?_⟩
    cases k with
    | zero =>
      simp at hk; subst hk
      have := hw.1
      split at this
      · rename_i b hb; exact .inr ⟨i, b, rfl, hb, this⟩
      · exact this.elim
    | succ k => simpa using h2 k b (by simpa using hk)
  | [], _ :: _, h => by simp [wkHp] at h
  | some _ :: _, [], h => by simp [wkHp] at h
  | none :: _, [], h => by simp [wkHp] at h

variable {ρ ρ' : Rho}

theorem ids_rel (hw : ρ'.w0 = ρ.w0) (hz : ρ'.zone = ρ.zone) {p : Nat → Bool} {r : Nat → Nat} (h : ∀ k, p k = true → k < ρ'.n ∧ ρ'.f k = ρ.f (r k)) {t : SC} {y : Value} (hi : t.ids p = true) (hr : (t.ren r).rel ρ y) : t.rel ρ' y := by
  cases t with
  | any => exact hr
  | v x => exact hr
  | ptr i o => obtain ⟨h1, h2⟩ := hr; obtain ⟨g1, g2⟩ := h i hi; exact ⟨g1, by rw [h2]; simp [Rho.at, g2]⟩
  | sl i o n c =>
    rcases hr with hr | ⟨h1, h2, h3⟩
    · exact .inl hr
    · obtain ⟨g1, g2⟩ := h i hi; exact .inr ⟨g1, h2, by rw [h3]; simp [Rho.at, g2]⟩
  | fn f caps =>
    obtain ⟨h1, h2⟩ := hr
    simp only [SC.ids, List.all_eq_true] at hi
    refine ⟨fun q hq => (h q.1 (hi q hq)).1, ?_⟩
    rw [h2]
    congr 2
    rw [List.map_map]
    refine List.map_congr_left fun q hq => ?_
    simp [Rho.at, (h q.1 (hi q hq)).2]
  | ro cs n c => simp only [SC.ren, SC.rel, hw, hz] at hr ⊢; exact hr
  | rp cs => simp only [SC.ren, SC.rel, hw, hz] at hr ⊢; exact hr

theorem idsL_rel (hw : ρ'.w0 = ρ.w0) (hz : ρ'.zone = ρ.zone) {p : Nat → Bool} {r : Nat → Nat} (h : ∀ k, p k = true → k < ρ'.n ∧ ρ'.f k = ρ.f (r k)) {ts : List SC} {ys : List Value} (hi : ts.all (SC.ids p) = true) (hr : RelL ρ (ts.map (SC.ren r)) ys) : RelL ρ' ts ys :=
  ⟨by have := hr.1; simpa using this, fun j c y hc hy => ids_rel hw hz h (List.all_eq_true.1 hi c (List.mem_of_getElem? hc)) (hr.2 j (c.ren r) y (by simp [hc]) hy)⟩

theorem leC_rel (hw : ρ'.w0 = ρ.w0) (hz : ρ'.zone = ρ.zone) (h : ∀ k, isW π k = true → k < ρ'.n ∧ ρ'.f k = ρ.f (srcW π k)) {s t : SC} {y : Value} (hl : leC π s t) (hr : s.rel ρ y) : t.rel ρ' y := by
  rcases hl with ⟨h1, rfl⟩ | rfl | ⟨i, o, rfl, h1⟩
  · exact ids_rel hw hz h h1 hr
  · exact SC.rel_one hr
  · rcases h1 with rfl | ⟨i', o', rfl⟩ | ⟨cs, rfl⟩
    · exact .inl ⟨rfl, rfl, none, hr.1⟩
    · rcases hr with hr | ⟨_, _, hr⟩
      · exact .inl hr
      · exact .inl ⟨rfl, rfl, _, hr⟩
    · simp only [SC.rel, RC.rel] at hr
      rcases hr with ⟨_, _, hr⟩ | ⟨_, b, o, hr, _⟩
      · exact .inl ⟨rfl, rfl, hr⟩
      · exact .inl ⟨rfl, rfl, _, hr⟩

theorem leP_rel (hw : ρ'.w0 = ρ.w0) (hz : ρ'.zone = ρ.zone) (h : ∀ k, isW π k = true → k < ρ'.n ∧ ρ'.f k = ρ.f (srcW π k)) : ∀ {ss ts : List SC} {ys : List Value}, leP π ss ts → RelL ρ ss ys → RelL ρ' ts ys
  | [], [], ys, _, hr => ⟨hr.1, fun j c y hc => by simp at hc⟩
  | s :: ss, t :: ts, [], _, hr => by have := hr.1; simp at this
  | s :: ss, t :: ts, y :: ys, ⟨h1, h2⟩, hr =>
    RelL.cons (leC_rel hw hz h h1 (hr.2 0 _ _ rfl rfl)) (leP_rel hw hz h h2 ⟨by have := hr.1; simpa using this, fun j c y h1 h2 => hr.2 (j + 1) c y (by simpa using h1) (by simpa using h2)⟩)
  | [], _ :: _, _, h, _ => h.elim
  | _ :: _, [], _, h, _ => h.elim

theorem leL_rel (hw : ρ'.w0 = ρ.w0) (hz : ρ'.zone = ρ.zone) (h : ∀ k, isW π k = true → k < ρ'.n ∧ ρ'.f k = ρ.f (srcW π k)) {ss ts : List SC} {ys : List Value} (hl : leL π ss ts) (hr : RelL ρ ss ys) : RelL ρ' ts ys := by
  rcases hl with ⟨h1, rfl⟩ | hl
  · exact idsL_rel hw hz h h1 hr
  · exact leP_rel hw hz h hl hr

theorem leT_get : ∀ {xs ys : List (Bool × List SC)}, leT π xs ys → xs.length = ys.length ∧ ∀ (j : Nat) (c : Bool × List SC), ys[j]? = some c → ∃ d : Bool × List SC, xs[j]? = some d ∧ d.1 = c.1 ∧ leP π d.2 c.2
  | [], [], _ => ⟨rfl, fun j c h => by simp at h⟩
  | (b, xs) :: r, (b', ys) :: r', ⟨h1, h2, h3⟩ => by
    obtain ⟨g1, g2⟩ := leT_get h3
    refine ⟨by simp [g1], fun j c hc => ?_⟩
    cases j with
    | zero => simp at hc; subst hc; exact ⟨(b, xs), rfl, h1, h2⟩
    | succ j => simpa using g2 j c (by simpa using hc)
  | [], _ :: _, h => h.elim
  | _ :: _, [], h => h.elim

theorem leV_rel (hw : ρ'.w0 = ρ.w0) (hz : ρ'.zone = ρ.zone) (h : ∀ k, isW π k = true → k < ρ'.n ∧ ρ'.f k = ρ.f (srcW π k)) {s t : SV} {y : Value} (hl : leV π s t) (hr : s.rel ρ y) : t.rel ρ' y := by
  rcases hl with ⟨h1, rfl⟩ | hl
  · cases t with
    | c x => exact ids_rel hw hz h h1 hr
    | agg xs => obtain ⟨ys, e, r⟩ := hr; exact ⟨ys, e, idsL_rel hw hz h h1 r⟩
    | tup xs =>
      obtain ⟨ys, e, r1, r2⟩ := hr
      refine ⟨ys, e, by simpa using r1, fun j c z hc hz' => ?_⟩
      have h3 := List.all_eq_true.1 h1 c (List.mem_of_getElem? hc)
      have h4 := r2 j (c.1, c.2.map (SC.ren (srcW π))) z (by simp [hc]) hz'
      obtain ⟨b, l⟩ := c
      cases b with
      | true => obtain ⟨zs, q1, q2⟩ := h4; exact ⟨zs, q1, idsL_rel hw hz h h3 q2⟩
      | false =>
        match l, h4, h3 with
        | [x], h4, h3 => exact ids_rel hw hz h (by simpa using h3) h4
        | [], h4, _ => exact h4.elim
        | _ :: _ :: _, h4, _ => exact h4.elim
    | und g x => exact ⟨fun hg => ids_rel hw hz h h1 (hr.1 hg), hr.2⟩
  · cases s <;> cases t <;> first | exact hl.elim | skip
    · exact leC_rel hw hz h hl hr
    · obtain ⟨ys, e, r⟩ := hr; exact ⟨ys, e, leP_rel hw hz h hl r⟩
    · obtain ⟨ys, e, r1, r2⟩ := hr
      obtain ⟨q1, q2⟩ := leT_get hl
      refine ⟨ys, e, q1.symm.trans r1, fun j c z hc hz' => ?_⟩
      obtain ⟨⟨b, l⟩, k1, k2, k3⟩ := q2 j c hc
      have h4 := r2 j _ z k1 hz'
      obtain ⟨b', l'⟩ := c
      cases k2
      cases b with
      | true => obtain ⟨zs, p1, p2⟩ := h4; exact ⟨zs, p1, leP_rel hw hz h k3 p2⟩
      | false =>
        match l, h4 with
        | [x], h4 =>
          match l', k3 with
          | [y], k3 => exact leC_rel hw hz h k3.1 h4
          | [], k3 => exact k3.elim
          | _ :: _ :: _, k3 => exact k3.2.elim
        | [], h4 => exact h4.elim
        | _ :: _ :: _, h4 => exact h4.elim

theorem wkTm_get {tm : List (Nat × SV)} : ∀ {l : List (Nat × SV)}, wkTm π tm l → ∀ t s, look t l = some s → ∃ s', look t tm = some s' ∧ leV π s' s
  | [], _, t, s, h => by simp [look] at h
  | (u, x) :: r, h, t, s, hl => by
    simp only [wkTm] at h
    simp only [look] at hl
    cases ht : t == u
    · rw [ht] at hl; exact wkTm_get h.2 t s hl
    · rw [ht] at hl
      simp only [cond_true, Option.some.injEq] at hl
      have : t = u := by simpa using ht
      subst this
      subst hl
      have := h.1
      split at this
      · rename_i s' hs'; exact ⟨s', hs', this⟩
      · exact this.elim

theorem Step.wk {h0 h h3 : List SB} {ρ0 ρ : Rho} {w0 w : World} (hen : ρ0.n = h0.length) (S : Step h0 ρ0 w0 h ρ w) (hpi : piBase h0.length 0 π = true) (hwk : wkHp π h π h3) :
    ∃ ρ3 : Rho, Step h0 ρ0 w0 h3 ρ3 w ∧ ∀ s t y, leV π s t → s.rel ρ y → t.rel ρ3 y := by
  obtain ⟨plen, pg⟩ := wkHp_get hwk
  obtain ⟨b1, b2, b3⟩ := piBase_get hpi
  simp only [Nat.zero_add] at b1 b2
  have M := S.models
  let ρ' : Rho := ⟨h3.length, fun k => match π[k]? with
    | some (some i) => ρ.f i
    | _ => (w.heap.size, 0), ρ.w0, ρ.zone⟩
  have hf : ∀ k, isW π k = true → k < ρ'.n ∧ ρ'.f k = ρ.f (srcW π k) := by
    intro k hk
    unfold isW at hk
    split at hk
    · rename_i i hi
      refine ⟨?_, by simp [ρ', hi, srcW]⟩
      show k < h3.length
      rw [← plen]
      exact (List.getElem?_eq_some_iff.1 hi).1
    · cases hk
  have hfi : ∀ k i, π[k]? = some (some i) → ρ'.f k = ρ.f i := fun k i hi => by simp [ρ', hi]
  have rel : ∀ {ss ts : List SC} {ys : List Value}, leL π ss ts → RelL ρ ss ys → RelL ρ' ts ys := fun hl hr => leL_rel (ρ := ρ) (ρ' := ρ') rfl rfl hf hl hr
  have cas : ∀ {k : Nat} {bt : SB}, h3[k]? = some bt → (π[k]? = some none ∧ bt.own = false ∧ bt.cells = []) ∨ (∃ i b, π[k]? = some (some i) ∧ h[i]? = some b ∧ leL π b.cells bt.cells ∧ (bt.own = true → b.own = true ∧ b.ty = bt.ty)) := fun h => pg _ _ h
  have lenL : ∀ {ss ts : List SC}, leL π ss ts → ss.length = ts.length := by
    intro ss ts hl
    rcases hl with ⟨_, rfl⟩ | hl
    · simp
    · have : ∀ (ss ts : List SC), leP π ss ts → ss.length = ts.length := by
        intro ss
        induction ss with
        | nil => intro ts h; cases ts with
          | nil => rfl
          | cons t ts => exact h.elim
        | cons s ss ih => intro ts h; cases ts with
          | nil => exact h.elim
          | cons t ts => simp [ih ts h.2]
      exact this _ _ hl
  have vd : ∀ {b bt : SB}, leL π b.cells bt.cells → (bt.own = true → b.own = true ∧ b.ty = bt.ty) → bt.void = false → b.void = false := by
    intro b bt hl ho hv
    have := lenL hl
    unfold SB.void at hv ⊢
    simp only [Bool.and_eq_false_iff, Bool.not_eq_false'] at hv ⊢
    rcases hv with hv | hv
    · exact .inl (ho hv).1
    · right
      rw [List.isEmpty_eq_false_iff] at hv ⊢
      intro h0
      rw [h0] at this
      exact hv (List.eq_nil_of_length_eq_zero this.symm)
  refine ⟨ρ', ⟨⟨?_, fun i hi => ?_, S.le.3, S.le.4⟩, ⟨rfl, ?_, ?_, ?_, ?_, M.zone, ?_⟩, ?_, S.ext, ?_, ?_⟩, fun s t y h2 g2 => leV_rel (ρ := ρ) (ρ' := ρ') rfl rfl hf h2 g2⟩
  · -- as many at least
    show ρ0.n ≤ h3.length
    rw [← plen]
    rcases Nat.lt_or_ge π.length ρ0.n with hlt | hge
    · have := b1 π.length (by omega)
      simp at this
    · exact hge
  · rw [hfi i i (b1 i (by omega))]
    exact S.le.2 i hi
  · intro k bt hk ho
    rcases cas hk with ⟨_, h2, _⟩ | ⟨i, b, h1, h2, h3, h4⟩
    · rw [h2] at ho; cases ho
    · obtain ⟨q1, q2⟩ := h4 ho
      obtain ⟨g1, csv, g2, g3⟩ := M.own i b h2 q1
      rw [hfi k i h1]
      exact ⟨g1, csv, by rw [← q2]; exact g2, rel h3 g3⟩
  · intro k bt hk j c hc
    rcases cas hk with ⟨_, _, h2⟩ | ⟨i, b, h1, h2, h3, h4⟩
    · rw [h2] at hc; simp at hc
    · obtain ⟨ys, g1, g2⟩ := M.cells h2
      have g3 := rel h3 g1
      obtain ⟨y, q1, q2⟩ := g3.get hc
      exact ⟨y, by simp only [Rho.at, hfi k i h1]; exact g2 j y q1, q2⟩
  · intro k l bk bl hne hk hl ho hv
    rcases cas hk with ⟨_, h2, _⟩ | ⟨i, b, h1, h2, h3, h4⟩
    · rw [h2] at ho; cases ho
    · rcases cas hl with ⟨_, q2, q3⟩ | ⟨j, c, q1, q2, q3, q4⟩
      · simp [SB.void, q2, q3] at hv
      · rw [hfi k i h1, hfi l j q1]
        exact M.sep i j b c (b3 k l i j hne h1 q1) h2 q2 (h4 ho).1 (vd q3 q4 hv)
  · intro k bt hk hv
    rcases cas hk with ⟨_, q2, q3⟩ | ⟨i, b, h1, h2, h3, h4⟩
    · simp [SB.void, q2, q3] at hv
    · rw [hfi k i h1]; exact M.lt i b h2 (vd h3 h4 hv)
  · intro z k bt hz hk ho
    rcases cas hk with ⟨_, h2, _⟩ | ⟨i, b, h1, h2, h3, h4⟩
    · rw [h2] at ho; cases ho
    · rw [hfi k i h1]; exact M.zsep z i b hz h2 (h4 ho).1
  · intro k hk hk'
    cases hp : π[k]? with
    | none =>
      exfalso
      have : k < π.length := by rw [plen]; exact hk'
      rw [List.getElem?_eq_getElem this] at hp
      cases hp
    | some o =>
      cases o with
      | none =>
        have : ρ'.f k = (w.heap.size, 0) := by simp [ρ', hp]
        rw [this]
        exact S.ext.size
      | some i =>
        rw [hfi k i hp]
        have hBi := b2 k i hp (by omega)
        have hkt : k < h3.length := hk'
        rcases cas (List.getElem?_eq_getElem hkt) with ⟨h1, _⟩ | ⟨i', b, h1, h2, _⟩
        · rw [hp] at h1; cases h1
        · rw [hp] at h1
          cases h1
          exact S.fresh i (by omega) (M.some_lt h2)
  · intro i bt hi hk ho
    rcases cas hk with ⟨_, h2, _⟩ | ⟨i', b, h1, h2, h3, h4⟩
    · rw [h2] at ho; cases ho
    · rw [b1 i (by omega)] at h1
      cases h1
      exact S.flags i b hi h2 (h4 ho).1
  · intro i bt hi hk hv
    rcases cas hk with ⟨_, q2, q3⟩ | ⟨i', b, h1, h2, h3, h4⟩
    · simp [SB.void, q2, q3] at hv
    · rw [b1 i (by omega)] at h1
      cases h1
      exact S.nonv i b hi h2 (vd h3 h4 hv)

theorem Sat.wk {e : Env} {σ τ : St} {a : Act} {w : World} (S : Sat e σ a w) (W : Wk π σ τ) : Sat e τ a w := by
  obtain ⟨ρ, S⟩ := S
  obtain ⟨ρ3, S3, hv⟩ := Step.wk S.base.2 S.step (by rw [S.base.1]; exact W.pi) W.hp
  refine ⟨ρ3, ⟨by rw [← W.nm]; exact S.base, S.defers, S.size, S3, fun t s hs => ?_⟩⟩
  obtain ⟨s', h1, h2⟩ := wkTm_get W.tm t s hs
  obtain ⟨y, g1, g2⟩ := S.tm t s' h1
  exact ⟨y, g1, hv _ _ _ h2 g2⟩
end

/-- A window that says nothing may stand behind the others. -/
theorem Step.void {h0 h : List SB} {ρ0 ρ : Rho} {w0 w : World} (S : Step h0 ρ0 w0 h ρ w) (hn : ρ0.n = h0.length) (ty : TypeId) :
    ∃ ρ', Step h0 ρ0 w0 (h ++ [⟨false, ty, []⟩]) ρ' w ∧ ρ'.n = ρ.n + 1 ∧ ∀ (s : SV) (y : Value), s.rel ρ y → s.rel ρ' y := by
  have M := S.models
  have hl : ρ.le { ρ with n := ρ.n + 1, f := fun i => if i < ρ.n then ρ.f i else (w0.heap.size, 0) } :=
    ⟨Nat.le_succ _, fun i hi => if_pos hi, rfl, rfl⟩
  have old : ∀ {i : Nat} {b : SB}, (h ++ [(⟨false, ty, []⟩ : SB)])[i]? = some b → (h[i]? = some b ∧ i < ρ.n) ∨ b = ⟨false, ty, []⟩ := by
    intro i b hb
    by_cases hi : i < h.length
    · rw [List.getElem?_append_left hi] at hb
      exact .inl ⟨hb, by rw [M.n]; exact hi⟩
    · rw [List.getElem?_append_right (by omega)] at hb
      cases hj : i - h.length with
      | zero => rw [hj] at hb; simp at hb; exact .inr hb.symm
      | succ j => rw [hj] at hb; simp at hb
  have hle := S.le.h1
  refine ⟨{ ρ with n := ρ.n + 1, f := fun i => if i < ρ.n then ρ.f i else (w0.heap.size, 0) }, ⟨⟨by show ρ0.n ≤ ρ.n + 1; omega, fun i hi => (hl.h2 i (by omega)).trans (S.le.h2 i hi), S.le.h3, S.le.h4⟩, ?_, ?_, S.ext, ?_, ?_⟩, rfl, fun s y hr => SV.rel_le hl hr⟩
  · refine ⟨by simp [M.n], ?_, ?_, ?_, ?_, M.zone, ?_⟩
    · intro i b hb ho
      rcases old hb with ⟨h1, h2⟩ | rfl
      · rw [hl.h2 i h2]
        obtain ⟨g1, cs, g2, g3⟩ := M.own i b h1 ho
        exact ⟨g1, cs, g2, g3.le hl⟩
      · cases ho
    · intro i b hb j c hc
      rcases old hb with ⟨h1, h2⟩ | rfl
      · obtain ⟨y, g1, g2⟩ := M.ro i b h1 j c hc
        refine ⟨y, ?_, SC.rel_le hl g2⟩
        rw [← g1]
        simp only [Rho.at, if_pos h2]
      · simp at hc
    · intro i j bi bj hij hi hj ho hv
      rcases old hi with ⟨h1, h2⟩ | rfl
      · rcases old hj with ⟨h3, h4⟩ | rfl
        · rw [hl.h2 i h2, hl.h2 j h4]
          exact M.sep i j bi bj hij h1 h3 ho hv
        · simp [SB.void] at hv
      · cases ho
    · intro i b hb hv
      rcases old hb with ⟨h1, h2⟩ | rfl
      · rw [hl.h2 i h2]; exact M.lt i b h1 hv
      · simp [SB.void] at hv
    · intro k i b hk hb ho
      rcases old hb with ⟨h1, h2⟩ | rfl
      · rw [hl.h2 i h2]; exact M.zsep k i b hk h1 ho
      · cases ho
  · intro i hi1 hi2
    by_cases hi : i < ρ.n
    · rw [hl.h2 i hi]; exact S.fresh i hi1 hi
    · simp only [if_neg hi]; exact Nat.le_refl _
  · intro i b hi hb ho
    rcases old hb with ⟨h1, h2⟩ | rfl
    · exact S.flags i b hi h1 ho
    · cases ho
  · intro i b hi hb hv
    rcases old hb with ⟨h1, h2⟩ | rfl
    · exact S.nonv i b hi h1 hv
    · simp [SB.void] at hv

/-- Nil may be an empty slice of a window that says nothing. -/
theorem Sat.void {e : Env} {nm : NB} {tm tm' : List (Nat × SV)} {h : List SB} {a : Act} {w : World} (ty : TypeId) (S : Sat e ⟨nm, tm, h⟩ a w)
    (ht : ∀ t s, look t tm' = some s → look t tm = some s ∨ (look t tm = some (.c (.v (.slice none 0 0))) ∧ ∃ i o, s = .c (.sl i o 0 0))) : Sat e ⟨nm, tm', h ++ [⟨false, ty, []⟩]⟩ a w := by
  obtain ⟨ρ, S⟩ := S
  obtain ⟨ρ', S1, hn, hr⟩ := S.step.void S.base.2 ty
  refine ⟨ρ', ⟨S.base, S.defers, S.size, S1, fun t s hs => ?_⟩⟩
  rcases ht t s hs with h1 | ⟨h1, i, o, rfl⟩
  · obtain ⟨y, g1, g2⟩ := S.tm t s h1
    exact ⟨y, g1, hr _ _ g2⟩
  · obtain ⟨y, g1, g2⟩ := S.tm t _ h1
    exact ⟨y, g1, .inl ⟨rfl, rfl, none, g2.1⟩⟩

theorem look_put_same {d : Nat} {s : SV} : ∀ {tm : List (Nat × SV)}, look d (put.go d s tm) = some s
  | [] => by simp [put.go, look]
  | (u, x) :: r => by
    cases h : d == u
    · simp only [put.go, h, cond_false, look]; exact look_put_same
    · simp only [put.go, h, cond_true, look, beq_self_eq_true]
theorem look_put_ne {d t : Nat} {s : SV} (hne : t ≠ d) : ∀ {tm : List (Nat × SV)}, look t (put.go d s tm) = look t tm
  | [] => by
    have : (t == d) = false := by simpa using hne
    simp [put.go, look, this]
  | (u, x) :: r => by
    cases h : d == u
    · simp only [put.go, h, cond_false, look]; rw [look_put_ne hne]
    · have : d = u := by simpa using h
      subst this
      have : (t == d) = false := by simpa using hne
      simp [put.go, look, this]

/-- The same for what an operation gives. -/
theorem Sat.voidD {e : Env} {nm : NB} {tm : List (Nat × SV)} {h : List SB} {a : Act} {w : World} (ty : TypeId) {d : Option Nat} {i o : Nat} (S : Sat e ⟨nm, put d (.c (.v (.slice none 0 0))) tm, h⟩ a w) :
    Sat e ⟨nm, put d (.c (.sl i o 0 0)) tm, h ++ [⟨false, ty, []⟩]⟩ a w := by
  refine S.void ty fun t s hs => ?_
  cases d with
  | none => exact .inl hs
  | some d =>
    simp only [put] at hs ⊢
    by_cases hd : t = d
    · subst hd
      rw [look_put_same] at hs ⊢
      cases hs
      exact .inr ⟨rfl, i, o, rfl⟩
    · rw [look_put_ne hd] at hs ⊢
      exact .inl hs

end Go.Proofs.Ythbojoiogjdbeaa.Sx
