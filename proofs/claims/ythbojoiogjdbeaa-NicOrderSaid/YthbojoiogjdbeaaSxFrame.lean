/- A symbolic executor for the model's code: a contract over few windows, used among many. No condition. -/
import Derived.Test.YthbojoiogjdbeaaSxDraw
namespace Go.Proofs.Ythbojoiogjdbeaa.Sx
open Go
set_option linter.unusedVariables false
set_option linter.unusedSectionVars false

def SB.ren (r : Nat → Nat) (b : SB) : SB := ⟨b.own, b.ty, b.cells.map (SC.ren r)⟩

/-- Nothing of what nobody writes. -/
def SC.noRo : SC → Bool
  | .ro .. => false
  | .rp _ => false
  | _ => true
def SV.noRo : SV → Bool
  | .c x => x.noRo
  | .agg xs => xs.all SC.noRo
  | .tup xs => xs.all fun p => p.2.all SC.noRo
  | .und _ x => x.noRo

/-- Zones alike. -/
def Zo (ρ ρ' : Rho) : Prop := ρ'.w0 = ρ.w0 ∧ ρ'.zone = ρ.zone

/-- Windows named are below 'n'. -/
def SC.lt (n : Nat) : SC → Bool
  | .ptr i _ => decide (i < n)
  | .sl i _ _ _ => decide (i < n)
  | .fn _ caps => caps.all fun p => decide (p.1 < n)
  | _ => true

def SV.lt (n : Nat) : SV → Bool
  | .c x => x.lt n
  | .agg xs => xs.all (SC.lt n)
  | .tup xs => xs.all fun p => p.2.all (SC.lt n)
  | .und _ _ => false

section
variable {ρ ρ' : Rho} {r : Nat → Nat}

theorem SC.rel_ren (h : ∀ i, i < ρ.n → r i < ρ'.n ∧ ρ'.f (r i) = ρ.f i) {c : SC} {y : Value} (hz : Zo ρ ρ' ∨ c.noRo = true) (hr : c.rel ρ y) : (c.ren r).rel ρ' y := by
  cases c with
  | any => exact hr
  | v x => exact hr
  | ptr i o => obtain ⟨h1, h2⟩ := hr; exact ⟨(h i h1).1, by rw [h2]; simp [Rho.at, (h i h1).2]⟩
  | sl i o n c =>
    rcases hr with hr | ⟨h1, h2, h3⟩
    · exact .inl hr
    · exact .inr ⟨(h i h1).1, h2, by rw [h3]; simp [Rho.at, (h i h1).2]⟩
  | fn f caps =>
    obtain ⟨h1, h2⟩ := hr
    refine ⟨fun p hp => ?_, ?_⟩
    · simp only [List.mem_map] at hp
      obtain ⟨q, hq, rfl⟩ := hp
      exact (h _ (h1 q hq)).1
    · rw [h2]
      congr 2
      rw [List.map_map]
      refine List.map_congr_left fun p hp => ?_
      simp [Rho.at, (h _ (h1 p hp)).2]
  | ro cs n c =>
    rcases hz with ⟨e1, e2⟩ | hz
    · simp only [SC.ren, SC.rel, e1, e2] at hr ⊢; exact hr
    · cases hz
  | rp cs =>
    rcases hz with ⟨e1, e2⟩ | hz
    · simp only [SC.ren, SC.rel, e1, e2] at hr ⊢; exact hr
    · cases hz

theorem RelL.ren (h : ∀ i, i < ρ.n → r i < ρ'.n ∧ ρ'.f (r i) = ρ.f i) {xs : List SC} {ys : List Value} (hz : Zo ρ ρ' ∨ (xs.all SC.noRo) = true) (hr : RelL ρ xs ys) : RelL ρ' (xs.map (SC.ren r)) ys := by
  refine ⟨by simpa using hr.1, fun j c y hc hy => ?_⟩
  simp only [List.getElem?_map, Option.map_eq_some_iff] at hc
  obtain ⟨x, hx, rfl⟩ := hc
  exact SC.rel_ren h (hz.imp id fun hz => List.all_eq_true.1 hz x (List.mem_of_getElem? hx)) (hr.2 j x y hx hy)

theorem SV.rel_ren (h : ∀ i, i < ρ.n → r i < ρ'.n ∧ ρ'.f (r i) = ρ.f i) {s : SV} {y : Value} (hz : Zo ρ ρ' ∨ s.noRo = true) (hr : s.rel ρ y) : (s.ren r).rel ρ' y := by
  cases s with
  | c x => exact SC.rel_ren h hz hr
  | agg xs => obtain ⟨ys, h1, h2⟩ := hr; exact ⟨ys, h1, RelL.ren h hz h2⟩
  | tup xs =>
    obtain ⟨ys, h1, h2, h3⟩ := hr
    refine ⟨ys, h1, by simpa using h2, fun j c z hc hz' => ?_⟩
    simp only [List.getElem?_map, Option.map_eq_some_iff] at hc
    obtain ⟨⟨b, l⟩, hx, rfl⟩ := hc
    have := h3 j _ z hx hz'
    have hzl : Zo ρ ρ' ∨ (l.all SC.noRo) = true := hz.imp id fun hz => List.all_eq_true.1 hz (b, l) (List.mem_of_getElem? hx)
    cases b
    · match l, this, hzl with
      | [x], this, hzl => exact SC.rel_ren h (by simpa using hzl) this
      | [], this, _ => exact this
      | _ :: _ :: _, this, _ => exact this
    · obtain ⟨zs, g1, g2⟩ := this
      exact ⟨zs, g1, RelL.ren h hzl g2⟩
  | und g x => exact ⟨fun hg => SC.rel_ren h hz (hr.1 hg), hr.2⟩

/-- What nobody writes there, nobody writes here. -/
def Zi (ρ ρ' : Rho) : Prop := ∀ k, ρ'.zone k → ρ.zone k ∧ ρ.w0.heap[k]? = ρ'.w0.heap[k]?

theorem SC.rel_unren (hz : Zi ρ ρ') (h : ∀ i, i < ρ.n → ρ'.f (r i) = ρ.f i) {c : SC} {y : Value} (hl : c.lt ρ.n = true) (hr : (c.ren r).rel ρ' y) : c.rel ρ y := by
  cases c with
  | any => exact hr
  | v x => exact hr
  | ptr i o =>
    simp only [SC.lt, decide_eq_true_eq] at hl
    obtain ⟨h1, h2⟩ := hr
    exact ⟨hl, by rw [h2]; simp [Rho.at, h i hl]⟩
  | sl i o n c =>
    simp only [SC.lt, decide_eq_true_eq] at hl
    rcases hr with hr | ⟨h1, h2, h3⟩
    · exact .inl hr
    · exact .inr ⟨hl, h2, by rw [h3]; simp [Rho.at, h i hl]⟩
  | fn f caps =>
    simp only [SC.lt, List.all_eq_true, decide_eq_true_eq] at hl
    obtain ⟨h1, h2⟩ := hr
    refine ⟨hl, ?_⟩
    rw [h2]
    congr 2
    rw [List.map_map]
    refine List.map_congr_left fun p hp => ?_
    simp [Rho.at, h _ (hl p hp)]
  | ro cs n c => exact RC.rel_mono hz _ _ hr
  | rp cs =>
    obtain ⟨b, o, h1, h2, h3⟩ := hr
    exact ⟨b, o, h1, (hz b h2).1, RC.relL_mono hz b h2 _ _ h3⟩

theorem RelL.unren (hz : Zi ρ ρ') (h : ∀ i, i < ρ.n → ρ'.f (r i) = ρ.f i) {xs : List SC} {ys : List Value} (hl : (xs.all (SC.lt ρ.n)) = true) (hr : RelL ρ' (xs.map (SC.ren r)) ys) : RelL ρ xs ys := by
  refine ⟨by simpa using hr.1, fun j c y hc hy => ?_⟩
  exact SC.rel_unren hz h (List.all_eq_true.1 hl c (List.mem_of_getElem? hc)) (hr.2 j _ y (by simp [hc]) hy)

theorem SV.rel_unren (hz : Zi ρ ρ') (h : ∀ i, i < ρ.n → ρ'.f (r i) = ρ.f i) {s : SV} {y : Value} (hl : s.lt ρ.n = true) (hr : (s.ren r).rel ρ' y) : s.rel ρ y := by
  cases s with
  | c x => exact SC.rel_unren hz h hl hr
  | agg xs => obtain ⟨ys, h1, h2⟩ := hr; exact ⟨ys, h1, RelL.unren hz h hl h2⟩
  | tup xs =>
    obtain ⟨ys, h1, h2, h3⟩ := hr
    refine ⟨ys, h1, by simpa using h2, fun j c z hc hz' => ?_⟩
    have hlc : c.2.all (SC.lt ρ.n) = true := List.all_eq_true.1 hl c (List.mem_of_getElem? hc)
    have := h3 j (c.1, c.2.map (SC.ren r)) z (by simp [hc]) hz'
    obtain ⟨b, l⟩ := c
    cases b
    · match l, this, hlc with
      | [x], this, hlc => exact SC.rel_unren hz h (by simpa using hlc) this
      | [], this, _ => exact this
      | _ :: _ :: _, this, _ => exact this
    · obtain ⟨zs, g1, g2⟩ := this
      exact ⟨zs, g1, RelL.unren hz h hlc g2⟩
  | und g x => cases hl
end

theorem SC.ren_id {c : SC} : c.ren (fun i => i) = c := by
  cases c with
  | fn f caps => simp [SC.ren]
  | _ => rfl
theorem SC.ren_idL {l : List SC} : l.map (SC.ren fun i => i) = l := by
  induction l with
  | nil => rfl
  | cons c l ih => simp [SC.ren_id, ih]
theorem SV.ren_id {s : SV} : s.ren (fun i => i) = s := by
  cases s with
  | c x => simp [SV.ren, SC.ren_id]
  | agg xs => simp [SV.ren, SC.ren_idL]
  | tup xs =>
    simp only [SV.ren]
    congr 1
    induction xs with
    | nil => rfl
    | cons p xs ih => simp [SC.ren_idL, ih]
  | und g x => simp [SV.ren, SC.ren_id]

/-- The last windows forgotten. -/
theorem Spec.forget {P : Program} {f : FuncId} {args : List SV} {h : List SB} {K K' : SV → List SB → Prop} (s : Spec P f args h K)
    (hk : ∀ t h', K t h' → ∃ h1 junk, h' = h1 ++ junk ∧ h.length ≤ h1.length ∧ t.lt h1.length = true ∧ (h1.all fun b => b.cells.all (SC.lt h1.length)) = true ∧ K' t h1) : Spec P f args h K' := by
  refine ⟨s.1, fun ρ w vs M hl hr => (s.2 ρ w vs M hl hr).mono ?_⟩
  rintro e w' ⟨y, t, h', ρ', rfl, st, hrel, hK⟩
  obtain ⟨h1, junk, rfl, hlen, htl, hcl, hK'⟩ := hk t h' hK
  have hn : ρ'.n = h1.length + junk.length := by rw [st.models.n]; simp
  have un : ∀ i, i < (⟨h1.length, ρ'.f, ρ'.w0, ρ'.zone⟩ : Rho).n → ρ'.f ((fun i => i) i) = (⟨h1.length, ρ'.f, ρ'.w0, ρ'.zone⟩ : Rho).f i := fun _ _ => rfl
  have zi : Zi ⟨h1.length, ρ'.f, ρ'.w0, ρ'.zone⟩ ρ' := fun k hk => ⟨hk, rfl⟩
  have up : ∀ {i : Nat} {b : SB}, h1[i]? = some b → (h1 ++ junk)[i]? = some b := fun {i b} hb => by rw [List.getElem?_append_left (List.getElem?_eq_some_iff.1 hb).1]; exact hb
  refine ⟨y, t, h1, ⟨h1.length, ρ'.f, ρ'.w0, ρ'.zone⟩, rfl, ⟨⟨by rw [M.n]; exact hlen, st.le.2, st.le.3, st.le.4⟩, ⟨rfl, ?_, ?_, ?_, ?_, st.models.zone, ?_⟩, fun i a b => st.fresh i a (by rw [hn]; have : i < h1.length := b; omega), st.ext, fun i b a hb ho => st.flags i b a (up hb) ho, fun i b a hb ho => st.nonv i b a (up hb) ho⟩, ?_, hK'⟩
  · intro i b hb ho
    obtain ⟨g1, cs, g2, g3⟩ := st.models.own i b (up hb) ho
    refine ⟨g1, cs, g2, RelL.unren zi un (List.all_eq_true.1 hcl b (List.mem_of_getElem? hb)) ?_⟩
    rw [SC.ren_idL]; exact g3
  · intro i b hb j c hc
    obtain ⟨z, g1, g2⟩ := st.models.ro i b (up hb) j c hc
    refine ⟨z, g1, SC.rel_unren zi un (List.all_eq_true.1 (List.all_eq_true.1 hcl b (List.mem_of_getElem? hb)) c (List.mem_of_getElem? hc)) ?_⟩
    rw [SC.ren_id]; exact g2
  · intro i j bi bj hne hi hj ho hv
    exact st.models.sep i j bi bj hne (up hi) (up hj) ho hv
  · intro i b hb hv
    exact st.models.lt i b (up hb) hv
  · intro k i b hk hb ho
    exact st.models.zsep k i b hk (up hb) ho
  · exact SV.rel_unren zi un htl (by rw [SV.ren_id]; exact hrel)

/-- Where the contract's windows lie among the caller's. -/
def renF (π : List Nat) (L : Nat) (i : Nat) : Nat := match π[i]? with
  | some j => j
  | none => L + (i - π.length)

def piOk : List Nat → List SB → Bool
  | i :: π, b :: h => ((π.zip h).all fun q => !(i == q.1) || (!b.own && !q.2.own)) && piOk π h
  | [], [] => true
  | _, _ => false

def preOk (r : Nat → Nat) (h : List SB) : List Nat → List SB → Prop
  | [], [] => True
  | i :: π, b0 :: h0 => (match h[i]? with
    | some b => b.cells = b0.cells.map (SC.ren r) ∧ (b0.own = true → b.own = true ∧ b.ty = b0.ty)
    | none => False) ∧ preOk r h π h0
  | _, _ => False

def plugGo (r : Nat → Nat) : List Nat → List SB → List SB → List SB → List SB
  | i :: π, b0 :: h0, b' :: h', h => plugGo r π h0 h' (bif b0.own then h.set i (b'.ren r) else h)
  | _, _, _, h => h

def plug (r : Nat → Nat) (π : List Nat) (h0 h0' h : List SB) : List SB := plugGo r π h0 h0' h ++ (h0'.drop h0.length).map (SB.ren r)

theorem plugGo_len {r : Nat → Nat} : ∀ {π : List Nat} {h0 h0' h : List SB}, (plugGo r π h0 h0' h).length = h.length
  | i :: π, b0 :: h0, b' :: h', h => by
    simp only [plugGo]
    rw [plugGo_len]
    cases b0.own <;> simp
  | [], _, _, h => by cases h <;> rfl
  | _ :: _, [], _, h => by simp [plugGo]
  | _ :: _, _ :: _, [], h => by simp [plugGo]

theorem plugGo_cases {r : Nat → Nat} : ∀ {π : List Nat} {h0 h0' h : List SB} {i : Nat} {b : SB}, (plugGo r π h0 h0' h)[i]? = some b →
    (h[i]? = some b ∧ ∀ (k : Nat) (b0 : SB), π[k]? = some i → h0[k]? = some b0 → k < h0'.length → b0.own = false) ∨
    ∃ (k : Nat) (b0 b' : SB), π[k]? = some i ∧ h0[k]? = some b0 ∧ b0.own = true ∧ h0'[k]? = some b' ∧ b = b'.ren r ∧ i < h.length
  | i0 :: π, b0 :: h0, b' :: h', h, i, b, hb => by
    simp only [plugGo] at hb
    rcases plugGo_cases hb with ⟨h1, h2⟩ | ⟨k, c0, c', h1, h2, h3, h4, h5, h6⟩
    · cases ho : b0.own
      · rw [ho] at h1
        refine .inl ⟨h1, fun k c0 q1 q2 q3 => ?_⟩
        cases k with
        | zero => simp at q2; rw [← q2]; exact ho
        | succ k => exact h2 k c0 (by simpa using q1) (by simpa using q2) (by simpa using q3)
      · rw [ho] at h1
        simp only [cond_true] at h1
        by_cases hi : i0 = i
        · subst hi
          have hl : i0 < h.length := by
            have := (List.getElem?_eq_some_iff.1 h1).1
            simpa using this
          rw [List.getElem?_set_self hl] at h1
          exact .inr ⟨0, b0, b', rfl, rfl, ho, rfl, by simpa using h1.symm, hl⟩
        · rw [List.getElem?_set_ne hi] at h1
          refine .inl ⟨h1, fun k c0 q1 q2 q3 => ?_⟩
          cases k with
          | zero => simp at q1; exact absurd q1 hi
          | succ k => exact h2 k c0 (by simpa using q1) (by simpa using q2) (by simpa using q3)
    · refine .inr ⟨k + 1, c0, c', by simpa using h1, by simpa using h2, h3, by simpa using h4, h5, ?_⟩
      cases ho : b0.own <;> rw [ho] at h6 <;> simpa using h6
  | [], h0, h0', h, i, b, hb => .inl ⟨by cases h0 <;> cases h0' <;> simpa [plugGo] using hb, fun k c q => by simp at q⟩
  | _ :: _, [], h0', h, i, b, hb => .inl ⟨by simpa [plugGo] using hb, fun k c _ q => by simp at q⟩
  | _ :: _, _ :: _, [], h, i, b, hb => .inl ⟨by simpa [plugGo] using hb, fun k c _ _ q => by simp at q⟩

theorem preOk_get {r : Nat → Nat} {h : List SB} : ∀ {π : List Nat} {h0 : List SB}, preOk r h π h0 → π.length = h0.length ∧ ∀ (k : Nat) (b0 : SB), h0[k]? = some b0 → ∃ i b, π[k]? = some i ∧ h[i]? = some b ∧ b.cells = b0.cells.map (SC.ren r) ∧ (b0.own = true → b.own = true ∧ b.ty = b0.ty)
  | [], [], _ => ⟨rfl, fun k b0 q => by simp at q⟩
  | i :: π, b0 :: h0, ⟨h1, h2⟩ => by
    obtain ⟨g1, g2⟩ := preOk_get h2
    refine ⟨by simp [g1], fun k c0 q => ?_⟩
    cases k with
    | zero =>
      simp at q
      subst q
      split at h1
      · rename_i b hb; exact ⟨i, b, rfl, hb, h1⟩
      · exact h1.elim
    | succ k => obtain ⟨j, b, q1, q2⟩ := g2 k c0 (by simpa using q); exact ⟨j, b, by simpa using q1, q2⟩
  | [], _ :: _, h => h.elim
  | _ :: _, [], h => h.elim

theorem piOk_get : ∀ {π : List Nat} {h0 : List SB}, piOk π h0 = true → ∀ {k l : Nat} {i j : Nat} {b c : SB}, k < l → π[k]? = some i → π[l]? = some j → h0[k]? = some b → h0[l]? = some c → (b.own = true ∨ c.own = true) → i ≠ j
  | i0 :: π, b0 :: h0, hp, k, l, i, j, b, c, hkl, h1, h2, h3, h4, ho => by
    simp only [piOk, Bool.and_eq_true, List.all_eq_true] at hp
    cases l with
    | zero => omega
    | succ l =>
      simp only [List.getElem?_cons_succ] at h2 h4
      cases k with
      | zero =>
        simp only [List.getElem?_cons_zero, Option.some.injEq] at h1 h3
        subst h1; subst h3
        have hz : (π.zip h0)[l]? = some (j, c) := by simp [List.getElem?_zip_eq_some, h2, h4]
        have := hp.1 _ (List.mem_of_getElem? hz)
        intro e
        subst e
        rcases ho with ho | ho <;> simp [ho] at this
      | succ k => exact piOk_get hp.2 (Nat.lt_of_succ_lt_succ hkl) (by simpa using h1) h2 (by simpa using h3) h4 ho
  | [], h0, _, k, l, i, j, b, c, _, h1, _, _, _, _ => by simp at h1
  | _ :: _, [], _, k, l, i, j, b, c, _, _, _, h3, _, _ => by simp at h3

theorem void_pre {b b0 : SB} {r : Nat → Nat} {q : Prop} (h1 : b.cells = b0.cells.map (SC.ren r)) (h2 : b0.own = true → b.own = true ∧ q) (hv : b0.void = false) : b.void = false := by
  simp only [SB.void, Bool.and_eq_false_iff, Bool.not_eq_false'] at hv ⊢
  rcases hv with hv | hv
  · exact .inl (h2 hv).1
  · rw [h1]
    right
    rw [List.isEmpty_eq_false_iff] at hv ⊢
    simpa using hv
theorem void_ren {b : SB} {r : Nat → Nat} : (b.ren r).void = b.void := by
  simp [SB.void, SB.ren]

/-! ### What is handed in to be read alone -/
mutual
def frR (ok : Nat → Bool) (h : List SB) : RC → SC → Prop
  | .v x, s => s = .v x
  | .sl rc n c, s => s = .ro rc n c ∨ (n = 0 ∧ c = 0 ∧ s = .v (.slice none 0 0)) ∨ ∃ i o, s = .sl i o n c ∧ ((n = 0 ∧ c = 0) ∨ ok i = true ∧ ∃ b, h[i]? = some b ∧ b.void = false ∧ frL ok h rc (b.cells.drop o))
def frL (ok : Nat → Bool) (h : List SB) : List RC → List SC → Prop
  | [], _ => True
  | _ :: _, [] => False
  | r :: rs, s :: ss => frR ok h r s ∧ frL ok h rs ss
end

/-- A cell 's' of the caller's may stand for 't' of the contract's. -/
def frC (fz : Bool) (ok : Nat → Bool) (r : Nat → Nat) (n : Nat) (h : List SB) (s t : SC) : Prop :=
  (t.lt n = true ∧ s = t.ren r) ∨ (fz = true ∧ ((∃ rc m c, t = .ro rc m c ∧ frR ok h (.sl rc m c) s) ∨ ∃ rc i o, t = .rp rc ∧ s = .ptr i o ∧ ok i = true ∧ ∃ b, h[i]? = some b ∧ b.void = false ∧ frL ok h rc (b.cells.drop o)))

def frP (fz : Bool) (ok : Nat → Bool) (r : Nat → Nat) (n : Nat) (h : List SB) : List SC → List SC → Prop
  | [], [] => True
  | s :: ss, t :: ts => frC fz ok r n h s t ∧ frP fz ok r n h ss ts
  | _, _ => False

def frV (fz : Bool) (ok : Nat → Bool) (r : Nat → Nat) (n : Nat) (h : List SB) (s t : SV) : Prop :=
  (t.lt n = true ∧ s = t.ren r) ∨ (∃ x y, s = .c x ∧ t = .c y ∧ frC fz ok r n h x y) ∨ (∃ xs ys, s = .agg xs ∧ t = .agg ys ∧ frP fz ok r n h xs ys)

def frA (fz : Bool) (ok : Nat → Bool) (r : Nat → Nat) (n : Nat) (h : List SB) : List SV → List SV → Prop
  | [], [] => True
  | s :: ss, t :: ts => frV fz ok r n h s t ∧ frA fz ok r n h ss ts
  | _, _ => False

theorem frA_get {fz : Bool} {ok : Nat → Bool} {r : Nat → Nat} {n : Nat} {h : List SB} : ∀ {ss ts : List SV}, frA fz ok r n h ss ts → ss.length = ts.length ∧ ∀ (j : Nat) (s t : SV), ss[j]? = some s → ts[j]? = some t → frV fz ok r n h s t
  | [], [], _ => ⟨rfl, fun j s t hs => by simp at hs⟩
  | s :: ss, t :: ts, ⟨h1, h2⟩ => by
    obtain ⟨g1, g2⟩ := frA_get h2
    refine ⟨by simp [g1], fun j s' t' hs ht => ?_⟩
    cases j with
    | zero => simp at hs ht; subst hs; subst ht; exact h1
    | succ j => exact g2 j s' t' (by simpa using hs) (by simpa using ht)
  | [], _ :: _, h => h.elim
  | _ :: _, [], h => h.elim

/-- Windows that the contract does not write. -/
def notW (π : List Nat) (h0 : List SB) (i : Nat) : Bool := (π.zip h0).all fun q => !(q.1 == i && q.2.own)

section
variable {h : List SB} {ρ : Rho} {w : World} {π : List Nat} {h0 : List SB}

/-- The blocks that the contract leaves. -/
def zoneF (ρ : Rho) (w : World) (π : List Nat) (h0 : List SB) (k : Nat) : Prop := k < w.heap.size ∧ ∀ (m i : Nat) (b0 : SB), π[m]? = some i → h0[m]? = some b0 → b0.own = true → (ρ.f i).1 ≠ k

theorem zoneF_of (M : Models h ρ w) (hpre : ∀ (m i : Nat) (b0 : SB), π[m]? = some i → h0[m]? = some b0 → b0.own = true → ∃ b, h[i]? = some b ∧ b.own = true)
    {i : Nat} {b : SB} (hok : notW π h0 i = true) (hb : h[i]? = some b) (hv : b.void = false) : zoneF ρ w π h0 (ρ.f i).1 := by
  refine ⟨M.lt i b hb hv, fun m j b0 h1 h2 h3 => ?_⟩
  obtain ⟨c, g1, g2⟩ := hpre m j b0 h1 h2 h3
  refine M.sep j i c b ?_ g1 hb g2 hv
  rintro rfl
  have hz : (π.zip h0)[m]? = some (j, b0) := by simp [List.getElem?_zip_eq_some, h1, h2]
  have := List.all_eq_true.1 hok _ (List.mem_of_getElem? hz)
  simp [h3] at this

theorem zoneF_zone (M : Models h ρ w) (hpre : ∀ (m i : Nat) (b0 : SB), π[m]? = some i → h0[m]? = some b0 → b0.own = true → ∃ b, h[i]? = some b ∧ b.own = true) {k : Nat} (hk : ρ.zone k) : zoneF ρ w π h0 k := by
  refine ⟨(M.zone k hk).1, fun m j b0 h1 h2 h3 => ?_⟩
  obtain ⟨c, g1, g2⟩ := hpre m j b0 h1 h2 h3
  exact M.zsep k j c hk g1 g2

mutual
theorem frR_rel (M : Models h ρ w) (hpre : ∀ (m i : Nat) (b0 : SB), π[m]? = some i → h0[m]? = some b0 → b0.own = true → ∃ b, h[i]? = some b ∧ b.own = true) : ∀ (rc : RC) (s : SC) (y : Value), frR (notW π h0) h rc s → s.rel ρ y → RC.rel w (zoneF ρ w π h0) rc y
  | .v x, s, y, hf, hr => by
    simp only [frR] at hf
    subst hf
    simp only [RC.rel]
    exact hr
  | .sl rc n c, s, y, hf, hr => by
    simp only [frR] at hf
    have hz : ∀ k, ρ.zone k → zoneF ρ w π h0 k ∧ w.heap[k]? = ρ.w0.heap[k]? := fun k hk => ⟨zoneF_zone M hpre hk, (M.zone k hk).2⟩
    rcases hf with rfl | ⟨rfl, rfl, rfl⟩ | ⟨i, o, rfl, hf⟩
    · exact RC.rel_mono hz _ _ hr
    · simp only [RC.rel]
      exact .inl ⟨trivial, trivial, none, hr.1⟩
    · simp only [RC.rel]
      rcases hr with hr | ⟨hi, hnc, hy⟩
      · exact .inl hr
      · rcases hf with ⟨rfl, rfl⟩ | ⟨hok, b, hb, hv, hL⟩
        · exact .inl ⟨rfl, rfl, _, hy⟩
        · refine .inr ⟨hnc, (ρ.f i).1, (ρ.f i).2 + o, hy, zoneF_of M hpre hok hb hv, ?_⟩
          exact frL_rel M hpre rc _ _ _ hL fun j c hc => by
            rw [List.getElem?_drop] at hc
            obtain ⟨z, g1, g2⟩ := M.ro i b hb _ c hc
            exact ⟨z, by simpa only [Rho.at, Nat.add_assoc] using g1, g2⟩
theorem frL_rel (M : Models h ρ w) (hpre : ∀ (m i : Nat) (b0 : SB), π[m]? = some i → h0[m]? = some b0 → b0.own = true → ∃ b, h[i]? = some b ∧ b.own = true) : ∀ (rc : List RC) (ss : List SC) (b o : Nat), frL (notW π h0) h rc ss →
    (∀ (j : Nat) (c : SC), ss[j]? = some c → ∃ y, w.cell? ⟨b, o + j, none⟩ = some y ∧ c.rel ρ y) → RC.relL w (zoneF ρ w π h0) b o rc
  | [], _, _, _, _, _ => by simp only [RC.relL]
  | r :: rs, [], b, o, hf, _ => by simp only [frL] at hf
  | r :: rs, s :: ss, b, o, hf, hr => by
    simp only [frL] at hf
    simp only [RC.relL]
    obtain ⟨y, h1, h2⟩ := hr 0 s rfl
    refine ⟨⟨y, by simpa using h1, frR_rel M hpre r s y hf.1 h2⟩, frL_rel M hpre rs ss b (o + 1) hf.2 fun j c hc => ?_⟩
    have := hr (j + 1) c (by simpa using hc)
    rwa [show o + (j + 1) = o + 1 + j from by omega] at this
end
end

/-- A contract over few windows, among many. -/
theorem Spec.frame {P : Program} {f : FuncId} {args args0 : List SV} {h0 : List SB} {K : SV → List SB → Prop} (s : Spec P f args0 h0 K) (fz : Bool) (hno : fz = true → ∀ t h', K t h' → t.noRo = true ∧ (h'.all fun b => b.cells.all SC.noRo) = true)
    {h : List SB} (π : List Nat) (ha : frA fz (notW π h0) (renF π h.length) h0.length h args args0) (hpi : piOk π h0 = true) (hpre : preOk (renF π h.length) h π h0)
    (hcl : (h0.all fun b => b.cells.all (SC.lt h0.length)) = true) :
    Spec P f args h fun t h' => ∃ s0 h0', K s0 h0' ∧ t = s0.ren (renF π h.length) ∧ h' = plug (renF π h.length) π h0 h0' h := by
  refine ⟨s.1, fun ρ w vs M hl hr => ?_⟩
  obtain ⟨plen, pg⟩ := preOk_get hpre
  obtain ⟨alen, ag⟩ := frA_get ha
  generalize hR : renF π h.length = r at *
  have rold : ∀ {k i : Nat}, π[k]? = some i → r k = i := fun hk => by rw [← hR]; simp [renF, hk]
  have rnew : ∀ {k : Nat}, h0.length ≤ k → r k = h.length + (k - h0.length) := fun hk => by
    rw [← hR]
    simp only [renF]
    rw [List.getElem?_eq_none (by omega), plen]
  have hpo : ∀ (m i : Nat) (b0 : SB), π[m]? = some i → h0[m]? = some b0 → b0.own = true → ∃ b, h[i]? = some b ∧ b.own = true := fun m i b0 h1 h2 h3 => by
    obtain ⟨j, b, q1, q2, _, q4⟩ := pg m b0 h2
    rw [h1] at q1
    cases q1
    exact ⟨b, q2, (q4 h3).1⟩
  let ρ0 : Rho := ⟨h0.length, fun i => ρ.f (r i), bif fz then w else ρ.w0, bif fz then zoneF ρ w π h0 else ρ.zone⟩
  have zi : Zi ρ0 ρ := fun k hk => by
    cases fz
    · exact ⟨hk, rfl⟩
    · exact ⟨zoneF_zone M hpo hk, (M.zone k hk).2⟩
  have un : ∀ i, i < ρ0.n → ρ.f (r i) = ρ0.f i := fun _ _ => rfl
  have M0 : Models h0 ρ0 w := by
    constructor
    · rfl
    · intro k b0 hb ho
      obtain ⟨i, b, q1, q2, q3, q4⟩ := pg k b0 hb
      obtain ⟨q5, q6⟩ := q4 ho
      obtain ⟨g1, cs, g2, g3⟩ := M.own i b q2 q5
      refine ⟨by simp only [ρ0, rold q1]; exact g1, cs, by simp only [ρ0, rold q1]; rw [← q6]; exact g2, ?_⟩
      rw [q3] at g3
      exact RelL.unren zi un (List.all_eq_true.1 hcl b0 (List.mem_of_getElem? hb)) g3
    · intro k b0 hb j c hc
      obtain ⟨i, b, q1, q2, q3, q4⟩ := pg k b0 hb
      obtain ⟨y, g1, g2⟩ := M.ro i b q2 j (c.ren r) (by rw [q3]; simp [hc])
      refine ⟨y, by simp only [ρ0, Rho.at, rold q1]; exact g1, SC.rel_unren zi un ?_ g2⟩
      exact List.all_eq_true.1 (List.all_eq_true.1 hcl b0 (List.mem_of_getElem? hb)) c (List.mem_of_getElem? hc)
    · intro k l b c hne hb hc ho hv
      obtain ⟨i, bi, q1, q2, q3, q4⟩ := pg k b hb
      obtain ⟨j, bj, k1, k2, k3, k4⟩ := pg l c hc
      simp only [ρ0, rold q1, rold k1]
      refine M.sep i j bi bj ?_ q2 k2 (q4 ho).1 (void_pre k3 k4 hv)
      rcases Nat.lt_or_ge k l with hlt | hge
      · exact piOk_get hpi hlt q1 k1 hb hc (.inl ho)
      · have hkl : l < k := by omega
        exact (piOk_get hpi hkl k1 q1 hc hb (.inr ho)).symm
    · intro k b hb hv
      obtain ⟨i, bi, q1, q2, q3, q4⟩ := pg k b hb
      simp only [ρ0, rold q1]
      exact M.lt i bi q2 (void_pre q3 q4 hv)
    · intro k hk
      cases fz
      · exact M.zone k hk
      · exact ⟨hk.1, rfl⟩
    · intro k m b0 hk hb ho
      obtain ⟨i, b, q1, q2, q3, q4⟩ := pg m b0 hb
      simp only [ρ0, rold q1]
      cases fz
      · exact M.zsep k i b hk q2 (q4 ho).1
      · exact hk.2 m i b0 q1 hb ho
  have frc : ∀ {x y : SC} {v : Value}, frC fz (notW π h0) r h0.length h x y → x.rel ρ v → y.rel ρ0 v := by
    intro x y v hf hx
    rcases hf with ⟨h1, rfl⟩ | ⟨rfl, ⟨rc, m, c, rfl, hf⟩ | ⟨rc, i, o, rfl, rfl, hok, b, hb, hv, hL⟩⟩
    · exact SC.rel_unren zi un h1 hx
    · exact frR_rel M hpo _ _ _ hf hx
    · obtain ⟨hi, hy⟩ := hx
      refine ⟨(ρ.f i).1, (ρ.f i).2 + o, hy, zoneF_of M hpo hok hb hv, ?_⟩
      exact frL_rel M hpo rc _ _ _ hL fun j c hc => by
        rw [List.getElem?_drop] at hc
        obtain ⟨z, g1, g2⟩ := M.ro i b hb _ c hc
        exact ⟨z, by simpa only [Rho.at, Nat.add_assoc] using g1, g2⟩
  have frp : ∀ {xs ys : List SC} {vs : List Value}, frP fz (notW π h0) r h0.length h xs ys → RelL ρ xs vs → RelL ρ0 ys vs := by
    intro xs
    induction xs with
    | nil => intro ys vs hf hx; cases ys with
      | nil => exact ⟨hx.1, fun j c y hc => by simp at hc⟩
      | cons y ys => exact hf.elim
    | cons x xs ih => intro ys vs hf hx; cases ys with
      | nil => exact hf.elim
      | cons y ys => cases vs with
        | nil => have := hx.1; simp at this
        | cons v vs => exact RelL.cons (frc hf.1 (hx.2 0 _ _ rfl rfl)) (ih hf.2 ⟨by have := hx.1; simpa using this, fun j c y h1 h2 => hx.2 (j + 1) c y (by simpa using h1) (by simpa using h2)⟩)
  have frv : ∀ {x y : SV} {v : Value}, frV fz (notW π h0) r h0.length h x y → x.rel ρ v → y.rel ρ0 v := by
    intro x y v hf hx
    rcases hf with ⟨h1, rfl⟩ | ⟨a, b, rfl, rfl, hf⟩ | ⟨xs, ys, rfl, rfl, hf⟩
    · exact SV.rel_unren zi un h1 hx
    · exact frc hf hx
    · obtain ⟨vs, e1, e2⟩ := hx
      exact ⟨vs, e1, frp hf e2⟩
  refine (s.2 ρ0 w vs M0 (by rw [← alen]; exact hl) fun j t y h1 h2 => by
    have hj : j < args.length := by rw [alen]; exact (List.getElem?_eq_some_iff.1 h1).1
    exact frv (ag j _ t (List.getElem?_eq_getElem hj) h1) (hr j _ y (List.getElem?_eq_getElem hj) h2)).mono ?_
  rintro e w' ⟨y, s0, h0', ρ0', rfl, st, hrel, hK⟩
  have hn0 : h0.length ≤ h0'.length := by have := st.le.1; rw [st.models.n] at this; exact this
  have lt_of : ∀ {k i : Nat}, π[k]? = some i → k < h0.length → i < h.length := fun {k i} hk hkl => by
    obtain ⟨j, b, q1, q2, _⟩ := pg k h0[k] (List.getElem?_eq_getElem hkl)
    rw [hk] at q1
    cases q1
    exact (List.getElem?_eq_some_iff.1 q2).1
  let ρ' : Rho := ⟨h.length + (ρ0'.n - h0.length), fun i => if i < h.length then ρ.f i else ρ0'.f (h0.length + (i - h.length)), ρ.w0, ρ.zone⟩
  have zo : ∀ {q : Prop}, (fz = true → q) → Zo ρ0' ρ' ∨ q := fun {q} hq => by
    cases hfz : fz
    · refine .inl ⟨?_, ?_⟩
      · rw [st.le.3]; simp only [ρ0, hfz, cond_false]; rfl
      · rw [st.le.4]; simp only [ρ0, hfz, cond_false]; rfl
    · exact .inr (hq hfz)
  have noh : fz = true → ∀ (k : Nat) (b' : SB), h0'[k]? = some b' → (b'.cells.all SC.noRo) = true := fun hf k b' hb => List.all_eq_true.1 (hno hf _ _ hK).2 b' (List.mem_of_getElem? hb)
  have fold : ∀ {i : Nat}, i < h.length → ρ'.f i = ρ.f i := fun hi => by simp [ρ', hi]
  have hrr : ∀ i, i < ρ0'.n → r i < ρ'.n ∧ ρ'.f (r i) = ρ0'.f i := by
    intro i hi
    by_cases hil : i < h0.length
    · obtain ⟨j, b, q1, q2, _⟩ := pg i h0[i] (List.getElem?_eq_getElem hil)
      have hj := (List.getElem?_eq_some_iff.1 q2).1
      rw [rold q1]
      refine ⟨by show j < h.length + _; omega, ?_⟩
      rw [fold hj, st.le.2 i hil]
      simp only [ρ0, rold q1]
    · rw [rnew (by omega)]
      refine ⟨by show _ < h.length + (ρ0'.n - h0.length); omega, ?_⟩
      simp only [ρ']
      rw [if_neg (by omega)]
      congr 1
      omega
  have cas : ∀ {i : Nat} {b : SB}, (plug r π h0 h0' h)[i]? = some b →
      (i < h.length ∧ h[i]? = some b ∧ ∀ (k : Nat) (b0 : SB), π[k]? = some i → h0[k]? = some b0 → b0.own = false) ∨
      (∃ (k : Nat) (b' : SB), k < ρ0'.n ∧ r k = i ∧ h0'[k]? = some b' ∧ b = b'.ren r ∧ ((i < h.length ∧ ∃ b1, h[i]? = some b1 ∧ b1.own = true) ∨ (h.length ≤ i ∧ h0.length ≤ k))) := by
    intro i b hb
    simp only [plug] at hb
    by_cases hi : i < h.length
    · rw [List.getElem?_append_left (by rw [plugGo_len]; exact hi)] at hb
      rcases plugGo_cases hb with ⟨h1, h2⟩ | ⟨k, b0, b', h1, h2, h3, h4, h5, h6⟩
      · exact .inl ⟨hi, h1, fun k b0 q1 q2 => h2 k b0 q1 q2 (Nat.lt_of_lt_of_le (List.getElem?_eq_some_iff.1 q2).1 hn0)⟩
      · obtain ⟨i', b1, q1, q2, _, q4⟩ := pg k b0 h2
        rw [h1] at q1
        cases q1
        exact .inr ⟨k, b', st.models.some_lt h4, rold h1, h4, h5, .inl ⟨hi, b1, q2, (q4 h3).1⟩⟩
    · rw [List.getElem?_append_right (by rw [plugGo_len]; omega), plugGo_len] at hb
      simp only [List.getElem?_map, List.getElem?_drop, Option.map_eq_some_iff] at hb
      obtain ⟨b', h1, rfl⟩ := hb
      refine .inr ⟨h0.length + (i - h.length), b', st.models.some_lt h1, ?_, h1, rfl, .inr ⟨by omega, by omega⟩⟩
      rw [rnew (by omega)]
      omega
  have keep : ∀ {i : Nat} {b : SB}, h[i]? = some b → b.void = false → (∀ (k : Nat) (b0 : SB), π[k]? = some i → h0[k]? = some b0 → b0.own = false) → w'.heap[(ρ.f i).1]? = w.heap[(ρ.f i).1]? := by
    intro i b hb hv hno
    refine st.ext.block _ (M.lt i b hb hv) ?_
    rintro ⟨k, b0, h1, h2, h3⟩
    obtain ⟨j, bj, q1, q2, _, q4⟩ := pg k b0 h1
    simp only [ρ0, rold q1] at h3
    by_cases hji : j = i
    · subst hji
      rw [hno k b0 q1 h1] at h2
      cases h2
    · exact M.sep j i bj b hji q2 hb (q4 h2).1 hv h3
  have fnew : ∀ {i k : Nat}, k < ρ0'.n → r k = i → ρ'.f i = ρ0'.f k := fun hk hr => by rw [← hr]; exact (hrr _ hk).2
  have fr : ∀ {k : Nat}, k < ρ0'.n → h0.length ≤ k → w.heap.size ≤ (ρ0'.f k).1 := fun hk hk' => st.fresh _ hk' hk
  have leρ : ρ.le ρ' := ⟨by show ρ.n ≤ h.length + _; rw [M.n]; omega, fun i hi => fold (by rw [← M.n]; exact hi), rfl, rfl⟩
  refine ⟨y, s0.ren r, plug r π h0 h0' h, ρ', rfl, ⟨⟨?_, fun i hi => fold (by rw [← M.n]; exact hi), rfl, rfl⟩, ⟨?_, ?_, ?_, ?_, ?_, ?_, ?_⟩, ?_, ?_, ?_, ?_⟩, SV.rel_ren hrr (zo fun hf => (hno hf _ _ hK).1) hrel, s0, h0', hK, rfl, rfl⟩
  · show ρ.n ≤ h.length + _; rw [M.n]; omega
  · show h.length + (ρ0'.n - h0.length) = _
    simp [plug, plugGo_len, st.models.n]
  · intro i b hb ho
    rcases cas hb with ⟨h1, h2, h3⟩ | ⟨k, b', h1, h2, h3, rfl, h5⟩
    · rw [fold h1]
      obtain ⟨g1, cs, g2, g3⟩ := M.own i b h2 ho
      exact ⟨g1, cs, g2.of (keep h2 (void_of_own ho) h3), g3.le leρ⟩
    · rw [fnew h1 h2]
      obtain ⟨g1, cs, g2, g3⟩ := st.models.own k b' h3 ho
      exact ⟨g1, cs, g2, RelL.ren hrr (zo fun hf => noh hf k b' h3) g3⟩
  · intro i b hb j c hc
    rcases cas hb with ⟨h1, h2, h3⟩ | ⟨k, b', h1, h2, h3, rfl, h5⟩
    · obtain ⟨y, g1, g2⟩ := M.ro i b h2 j c hc
      refine ⟨y, ?_, SC.rel_le leρ g2⟩
      simp only [Rho.at, fold h1]
      rw [← g1]
      exact World.cell?_of_block (keep h2 (void_of_cell hc) h3)
    · simp only [SB.ren, List.getElem?_map, Option.map_eq_some_iff] at hc
      obtain ⟨c', hc, rfl⟩ := hc
      obtain ⟨y, g1, g2⟩ := st.models.ro k b' h3 j c' hc
      exact ⟨y, by simp only [Rho.at, fnew h1 h2]; exact g1, SC.rel_ren hrr (zo fun hf => List.all_eq_true.1 (noh hf k b' h3) c' (List.mem_of_getElem? hc)) g2⟩
  · -- apart
    have oldOwn : ∀ {i : Nat} {b : SB}, (plug r π h0 h0' h)[i]? = some b → b.own = true → i < h.length → ∃ b1, h[i]? = some b1 ∧ b1.own = true := by
      intro i b hb ho hi
      rcases cas hb with ⟨h1, h2, h3⟩ | ⟨k, b', h1, h2, h3, rfl, h5⟩
      · exact ⟨b, h2, ho⟩
      · rcases h5 with ⟨_, h5⟩ | ⟨h5, _⟩
        · exact h5
        · omega
    have isNew : ∀ {i : Nat} {b : SB}, (plug r π h0 h0' h)[i]? = some b → h.length ≤ i → ∃ k b', k < ρ0'.n ∧ h0.length ≤ k ∧ r k = i ∧ h0'[k]? = some b' ∧ b = b'.ren r := by
      intro i b hb hi
      rcases cas hb with ⟨h1, h2, h3⟩ | ⟨k, b', h1, h2, h3, rfl, h5⟩
      · omega
      · rcases h5 with ⟨h5, _⟩ | ⟨_, h5⟩
        · omega
        · exact ⟨k, b', h1, h5, h2, h3, rfl⟩
    have oldNv : ∀ {i : Nat} {b : SB}, (plug r π h0 h0' h)[i]? = some b → b.void = false → i < h.length → ∃ b1, h[i]? = some b1 ∧ b1.void = false := by
      intro i b hb hv hi
      rcases cas hb with ⟨h1, h2, h3⟩ | ⟨k, b', h1, h2, h3, rfl, h5⟩
      · exact ⟨b, h2, hv⟩
      · rcases h5 with ⟨_, b1, h5, h6⟩ | ⟨h5, _⟩
        · exact ⟨b1, h5, void_of_own h6⟩
        · omega
    intro i j bi bj hne hi hj ho hv
    by_cases hil : i < h.length <;> by_cases hjl : j < h.length
    · obtain ⟨b1, q1, q2⟩ := oldOwn hi ho hil
      obtain ⟨b2, q3, q4⟩ := oldNv hj hv hjl
      rw [fold hil, fold hjl]
      exact M.sep i j b1 b2 hne q1 q3 q2 q4
    · obtain ⟨k, b', k1, k2, k3, k4, k5⟩ := isNew hj (by omega)
      obtain ⟨b1, q1, q2⟩ := oldOwn hi ho hil
      rw [fold hil, fnew k1 k3]
      exact Nat.ne_of_lt (Nat.lt_of_lt_of_le (M.lt i b1 q1 (void_of_own q2)) (fr k1 k2))
    · obtain ⟨k, b', k1, k2, k3, k4, k5⟩ := isNew hi (by omega)
      obtain ⟨b2, q3, q4⟩ := oldNv hj hv hjl
      rw [fold hjl, fnew k1 k3]
      exact (Nat.ne_of_lt (Nat.lt_of_lt_of_le (M.lt j b2 q3 q4) (fr k1 k2))).symm
    · obtain ⟨k, b', k1, k2, k3, k4, rfl⟩ := isNew hi (by omega)
      obtain ⟨l, c', l1, l2, l3, l4, rfl⟩ := isNew hj (by omega)
      rw [fnew k1 k3, fnew l1 l3]
      exact st.models.sep k l b' c' (fun e => hne (by rw [← k3, ← l3, e])) k4 l4 ho (by rwa [void_ren] at hv)
  · intro i b hb hv
    rcases cas hb with ⟨h1, h2, h3⟩ | ⟨k, b', h1, h2, h3, rfl, h5⟩
    · rw [fold h1]; exact Nat.lt_of_lt_of_le (M.lt i b h2 hv) st.ext.size
    · rw [fnew h1 h2]; exact st.models.lt k b' h3 (by rwa [void_ren] at hv)
  · intro k hk
    obtain ⟨q1, q2⟩ := M.zone k hk
    refine ⟨Nat.lt_of_lt_of_le q1 st.ext.size, (st.ext.block k q1 ?_).trans q2⟩
    rintro ⟨m, b0, h1, h2, h3⟩
    obtain ⟨j, bj, g1, g2, _, g4⟩ := pg m b0 h1
    simp only [ρ0, rold g1] at h3
    exact M.zsep k j bj hk g2 (g4 h2).1 h3
  · intro k i b hk hb ho
    rcases cas hb with ⟨h1, h2, h3⟩ | ⟨m, b', h1, h2, h3, rfl, h5⟩
    · rw [fold h1]; exact M.zsep k i b hk h2 ho
    · rcases h5 with ⟨h5, b1, h6, h7⟩ | ⟨h5, h6⟩
      · rw [fold h5]; exact M.zsep k i b1 hk h6 h7
      · rw [fnew h1 h2]
        have := fr h1 h6
        have := (M.zone k hk).1
        omega
  · intro i hi hi'
    rw [M.n] at hi
    have h1 : h0.length + (i - h.length) < ρ0'.n := by
      have : i < h.length + (ρ0'.n - h0.length) := hi'
      omega
    have h2 : r (h0.length + (i - h.length)) = i := by rw [rnew (by omega)]; omega
    rw [fnew h1 h2]
    exact fr h1 (by omega)
  · refine st.ext.mono ?_
    rintro k _ ⟨i, b0, h1, h2, h3⟩
    obtain ⟨j, bj, q1, q2, _, q4⟩ := pg i b0 h1
    simp only [ρ0, rold q1] at h3
    exact ⟨j, bj, q2, (q4 h2).1, h3⟩
  · intro i b hi hb ho
    rw [M.n] at hi
    rcases cas hb with ⟨h1, h2, h3⟩ | ⟨k, b', h1, h2, h3, rfl, h5⟩
    · exact ⟨b, h2, ho⟩
    · rcases h5 with ⟨_, h5⟩ | ⟨h5, _⟩
      · exact h5
      · omega
  · intro i b hi hb hv
    rw [M.n] at hi
    rcases cas hb with ⟨h1, h2, h3⟩ | ⟨k, b', h1, h2, h3, rfl, h5⟩
    · exact ⟨b, h2, hv⟩
    · rcases h5 with ⟨_, b1, h5, h6⟩ | ⟨h5, _⟩
      · exact ⟨b1, h5, void_of_own h6⟩
      · omega

/-- A call by a contract over few windows. -/
theorem call_fr {P : Program} {xn : XN} {f : FuncId} {args args0 : List SV} {dst : Option Tmp} {k : List KI} {nm : NB} {tm : List (Nat × SV)} {hp : List SB} {Q : XE → St → Prop} {h0 : List SB} {K : SV → List SB → Prop}
    (s : Spec P f args0 h0 K) (fz : Bool) (hno : fz = true → ∀ t h', K t h' → t.noRo = true ∧ (h'.all fun b => b.cells.all SC.noRo) = true) (π : List Nat) (ha : frA fz (notW π h0) (renF π hp.length) h0.length hp args args0)
    (hpi : piOk π h0 = true) (hpre : preOk (renF π hp.length) hp π h0) (hcl : (h0.all fun b => b.cells.all (SC.lt h0.length)) = true)
    (hk : ∀ s0 h0', K s0 h0' → xn k ⟨nm, put dst (s0.ren (renF π hp.length)) tm, plug (renF π hp.length) π h0 h0' hp⟩ Q) : CallGoal P xn f args dst k ⟨nm, tm, hp⟩ Q := by
  refine .inl ⟨_, s.frame fz hno π ha hpi hpre hcl, ?_⟩
  rintro t h' ⟨s0, h0', h1, rfl, rfl⟩
  exact .inl (hk s0 h0' h1)

theorem frA_map {ok : Nat → Bool} {r : Nat → Nat} {n : Nat} {h : List SB} : ∀ {ts : List SV}, (ts.all (SV.lt n)) = true → frA false ok r n h (ts.map (SV.ren r)) ts
  | [], _ => trivial
  | t :: ts, ht => by
    simp only [List.all_cons, Bool.and_eq_true] at ht
    exact ⟨.inl ⟨ht.1, rfl⟩, frA_map ht.2⟩

/-- The same; less may be known behind it. -/
theorem call_frw {P : Program} {xn : XN} {f : FuncId} {args args0 : List SV} {dst : Option Tmp} {k : List KI} {nm : NB} {tm : List (Nat × SV)} {hp : List SB} {Q : XE → St → Prop} {h0 : List SB} {K : SV → List SB → Prop}
    (s : Spec P f args0 h0 K) (fz : Bool) (hno : fz = true → ∀ t h', K t h' → t.noRo = true ∧ (h'.all fun b => b.cells.all SC.noRo) = true) (π : List Nat) (ha : frA fz (notW π h0) (renF π hp.length) h0.length hp args args0)
    (hpi : piOk π h0 = true) (hpre : preOk (renF π hp.length) hp π h0) (hcl : (h0.all fun b => b.cells.all (SC.lt h0.length)) = true)
    (hk : ∀ s0 h0', K s0 h0' → XWk xn k ⟨nm, put dst (s0.ren (renF π hp.length)) tm, plug (renF π hp.length) π h0 h0' hp⟩ Q) : CallGoal P xn f args dst k ⟨nm, tm, hp⟩ Q := by
  refine .inl ⟨_, s.frame fz hno π ha hpi hpre hcl, ?_⟩
  rintro t h' ⟨s0, h0', h1, rfl, rfl⟩
  exact hk s0 h0' h1

/-- A call by a contract over few windows. -/
theorem call_frame {P : Program} {xn : XN} {f : FuncId} {args args0 : List SV} {dst : Option Tmp} {k : List KI} {nm : NB} {tm : List (Nat × SV)} {hp : List SB} {Q : XE → St → Prop} {h0 : List SB} {K : SV → List SB → Prop}
    (s : Spec P f args0 h0 K) (π : List Nat) (ha : args = args0.map (SV.ren (renF π hp.length))) (hpi : piOk π h0 = true) (hpre : preOk (renF π hp.length) hp π h0)
    (hal : (args0.all (SV.lt h0.length)) = true) (hcl : (h0.all fun b => b.cells.all (SC.lt h0.length)) = true)
    (hk : ∀ s0 h0', K s0 h0' → xn k ⟨nm, put dst (s0.ren (renF π hp.length)) tm, plug (renF π hp.length) π h0 h0' hp⟩ Q) : CallGoal P xn f args dst k ⟨nm, tm, hp⟩ Q := by
  subst ha
  exact call_fr s false (fun h => by cases h) π (frA_map hal) hpi hpre hcl hk

/-! ### Functions of plain values -/
def SC.plain : SC → Bool
  | .v _ => true
  | _ => false

def SV.plain : SV → Bool
  | .c x => x.plain
  | .agg xs => xs.all SC.plain
  | .tup xs => xs.all fun p => p.2.all SC.plain
  | .und _ _ => false

theorem SC.plain_rel {ρ ρ' : Rho} {c : SC} {y : Value} (h : c.plain = true) (hr : c.rel ρ y) : c.rel ρ' y := by
  cases c <;> first | exact hr | (cases h; done)

theorem RelL.plain {ρ ρ' : Rho} {xs : List SC} {ys : List Value} (h : xs.all SC.plain = true) (hr : RelL ρ xs ys) : RelL ρ' xs ys :=
  ⟨hr.1, fun j c y hc hy => SC.plain_rel (List.all_eq_true.1 h c (List.mem_of_getElem? hc)) (hr.2 j c y hc hy)⟩

theorem SV.plain_rel {ρ ρ' : Rho} {s : SV} {y : Value} (h : s.plain = true) (hr : s.rel ρ y) : s.rel ρ' y := by
  cases s with
  | c x => exact SC.plain_rel h hr
  | agg xs => obtain ⟨ys, h1, h2⟩ := hr; exact ⟨ys, h1, RelL.plain h h2⟩
  | tup xs =>
    obtain ⟨ys, h1, h2, h3⟩ := hr
    refine ⟨ys, h1, h2, fun j c z hc hz => ?_⟩
    obtain ⟨b, l⟩ := c
    have hl : l.all SC.plain = true := List.all_eq_true.1 h (b, l) (List.mem_of_getElem? hc)
    have := h3 j _ z hc hz
    cases b
    · match l, this, hl with
      | [x], this, hl => exact SC.plain_rel (by simpa using hl) this
      | [], this, _ => exact this
      | _ :: _ :: _, this, _ => exact this
    · obtain ⟨zs, g1, g2⟩ := this
      exact ⟨zs, g1, RelL.plain hl g2⟩
  | und g x => cases h

/-- A function of plain values, in any place: it leaves the windows as they are. -/
theorem Spec.pure {P : Program} {f : FuncId} {args : List SV} {K : SV → Prop} (s : Spec P f args [] fun r _ => r.plain = true ∧ K r) (ha : (args.all SV.plain) = true) (h : List SB) : Spec P f args h fun r h' => K r ∧ h' = h := by
  refine ⟨s.1, fun ρ w vs M hl hr => ?_⟩
  have M0 : Models [] ⟨0, fun _ => (0, 0), ρ.w0, ρ.zone⟩ w := ⟨rfl, fun i b h => by simp at h, fun i b h => by simp at h, fun i j bi bj _ h => by simp at h, fun i b h => by simp at h, M.zone, fun k i b _ h => by simp at h⟩
  refine (s.2 _ w vs M0 hl fun j t y h1 h2 => SV.plain_rel (List.all_eq_true.1 ha t (List.mem_of_getElem? h1)) (hr j t y h1 h2)).mono ?_
  rintro e w' ⟨y, r, h', ρ', rfl, st, hrel, hpl, hK⟩
  have E : Ext (fun _ => False) w w' := st.ext.mono fun k _ ⟨i, b, h1, _⟩ => by simp at h1
  exact ⟨y, r, h, ρ, rfl, ⟨Rho.le_refl ρ, M.ext E, fun i h1 h2 => by omega, E.mono fun _ _ h => h.elim, fun i b _ hb ho => ⟨b, hb, ho⟩, fun i b _ hb ho => ⟨b, hb, ho⟩⟩, SV.plain_rel hpl hrel, hK, rfl⟩

/-- A call of such a function. -/
theorem call_plain {P : Program} {xn : XN} {f : FuncId} {args : List SV} {dst : Option Tmp} {k : List KI} {nm : NB} {tm : List (Nat × SV)} {hp : List SB} {Q : XE → St → Prop} {K : SV → Prop}
    (s : Spec P f args [] fun r _ => r.plain = true ∧ K r) (ha : (args.all SV.plain) = true) (hk : ∀ r, K r → xn k ⟨nm, put dst r tm, hp⟩ Q) : CallGoal P xn f args dst k ⟨nm, tm, hp⟩ Q :=
  .inl ⟨_, s.pure ha hp, fun r h' ⟨h1, h2⟩ => by subst h2; exact .inl (hk r h1)⟩

/-- A function that gives a plain value, in any place, for what is read alone: it leaves the windows as they are. -/
theorem Spec.pureF {P : Program} {f : FuncId} {args args0 : List SV} {K : SV → Prop} (s : Spec P f args0 [] fun r _ => r.plain = true ∧ K r) {h : List SB} (ha : frA true (fun _ => true) (fun i => h.length + i) 0 h args args0) : Spec P f args h fun r h' => K r ∧ h' = h := by
  refine ⟨s.1, fun ρ w vs M hl hr => ?_⟩
  have e1 : notW [] [] = fun _ => true := rfl
  have e2 : renF [] h.length = fun i => h.length + i := by funext i; simp [renF]
  have s' : Spec P f args0 [] fun r h' => (r.plain = true ∧ K r) ∧ h' = [] := by
    refine ⟨s.1, fun ρ w vs M hl hr => (s.2 ρ w vs M hl hr).mono ?_⟩
    rintro e w' ⟨y, r, h', ρ', rfl, st, hrel, hK⟩
    have E : Ext (fun _ => False) w w' := st.ext.mono fun k _ ⟨i, b, h1, _⟩ => by simp at h1
    exact ⟨y, r, [], ρ, rfl, ⟨Rho.le_refl ρ, M.ext E, fun i h1 h2 => by omega, E.mono fun _ _ h => h.elim, fun i b _ hb ho => ⟨b, hb, ho⟩, fun i b _ hb ho => ⟨b, hb, ho⟩⟩, SV.plain_rel hK.1 hrel, hK, rfl⟩
  have plNo : ∀ {t : SV}, t.plain = true → t.noRo = true := by
    intro t ht
    have pc : ∀ {c : SC}, c.plain = true → c.noRo = true := fun {c} hc => by cases c <;> first | rfl | cases hc
    have pl : ∀ {l : List SC}, (l.all SC.plain) = true → (l.all SC.noRo) = true := fun {l} hl => List.all_eq_true.2 fun c hc => pc (List.all_eq_true.1 hl c hc)
    cases t with
    | c x => exact pc ht
    | agg xs => exact pl ht
    | tup xs => exact List.all_eq_true.2 fun p hp => pl (List.all_eq_true.1 ht p hp)
    | und _ _ => cases ht
  have F := s'.frame true (fun _ t h' hK => ⟨plNo hK.1.1, by rw [hK.2]; rfl⟩) (h := h) [] (by rw [e1, e2]; exact ha) rfl trivial rfl
  refine (F.2 ρ w vs M hl hr).mono ?_
  rintro e w' ⟨y, r, h', ρ', rfl, st, hrel, s0, h0', ⟨⟨hp, hK⟩, rfl⟩, rfl, rfl⟩
  have hh : plug (renF [] h.length) [] [] [] h = h := by simp [plug, plugGo]
  rw [hh] at st
  have hpr : s0.ren (renF [] h.length) = s0 := by
    have pc : ∀ {c : SC}, c.plain = true → c.ren (renF [] h.length) = c := fun {c} hc => by cases c <;> first | rfl | cases hc
    have pl : ∀ {l : List SC}, (l.all SC.plain) = true → l.map (SC.ren (renF [] h.length)) = l := fun {l} hl => by
      conv => rhs; rw [← List.map_id l]
      exact List.map_congr_left fun c hc => pc (List.all_eq_true.1 hl c hc)
    cases s0 with
    | c x => simp only [SV.ren, pc hp]
    | agg xs => simp only [SV.ren, pl hp]
    | tup xs =>
      simp only [SV.ren]
      congr 1
      conv => rhs; rw [← List.map_id xs]
      exact List.map_congr_left fun p hp' => by rw [pl (List.all_eq_true.1 hp p hp')]; rfl
    | und _ _ => cases hp
  rw [hpr] at hrel
  exact ⟨y, s0, h, ρ', rfl, st, hrel, hK, rfl⟩

theorem call_pureF {P : Program} {xn : XN} {f : FuncId} {args : List SV} (args0 : List SV) {dst : Option Tmp} {k : List KI} {nm : NB} {tm : List (Nat × SV)} {hp : List SB} {Q : XE → St → Prop} {K : SV → Prop}
    (s : Spec P f args0 [] fun r _ => r.plain = true ∧ K r) (ha : frA true (fun _ => true) (fun i => hp.length + i) 0 hp args args0) (hk : ∀ r, K r → xn k ⟨nm, put dst r tm, hp⟩ Q) : CallGoal P xn f args dst k ⟨nm, tm, hp⟩ Q :=
  .inl ⟨_, s.pureF ha, fun r h' ⟨h1, h2⟩ => by subst h2; exact .inl (hk r h1)⟩

end Go.Proofs.Ythbojoiogjdbeaa.Sx
