/- A symbolic executor for the model's code: which types are compared cell by cell. No condition. -/
import Derived.Test.YtgadpbfmnhkjfaaSxTy
import Derived.ChangeKeysEq
namespace Go.Proofs.Ytgadpbfmnhkjfaa.Sx
open Go
set_option linter.unusedVariables false

theorem run_part_one {P : Program} {T : TypeId → Option TI} (hT : TOk P T) {t : TypeId} {ti : TI} (ht : T t = some ti) (ha : ti.desc.agg = false) {xs : Array Value} {off : Nat} {v : Value} (hx : xs[off]? = some v) (w : World) :
    (part t xs off).run P w = .ok v w := by
  simp [part, (hT t ti ht).isAgg, ha, hx]

theorem eqCells_cons {x : Value} {xs ys : List Value} {b : Bool} (h : eqCells ((x :: xs).map .v) (ys.map .v) = some b) : ∃ k a a' ys' b', x = .int k a ∧ ys = .int k a' :: ys' ∧ eqCells (xs.map .v) (ys'.map .v) = some b' ∧ b = (decide (a = a') && b') := by
  cases ys with
  | nil => simp [eqCells] at h
  | cons y ys =>
    simp only [List.map_cons] at h
    unfold eqCells at h
    split at h
    · rename_i e1 e2; cases e1
    · rename_i k a r k' a' s e1 e2
      cases e1; cases e2
      split at h
      · rename_i hk
        subst hk
        cases hr : eqCells (xs.map .v) (ys.map .v) with
        | none => rw [hr] at h; cases h
        | some b0 => rw [hr] at h; simp only [Option.map_some, Option.some.injEq] at h; exact ⟨k, a, a', ys, b0, rfl, rfl, hr, h.symm⟩
      · cases h
    · cases h

theorem eqCells_nil {ys : List Value} {b : Bool} (h : eqCells [] (ys.map .v) = some b) : b = true := by
  cases ys with
  | nil => simpa [eqCells] using h.symm
  | cons y ys => simp [eqCells] at h

def isInt : TD → Bool
  | .int _ => true
  | _ => false

theorem isInt_und {P : Program} {T : TypeId → Option TI} (hT : TOk P T) {t : TypeId} {ti : TI} (ht : T t = some ti) (hi : isInt ti.desc = true) : (∃ k, P.underlying t = some (.int k)) ∧ ti.desc.agg = false := by
  have := (hT t ti ht).desc
  cases hd : ti.desc <;> rw [hd] at hi this <;> first | (cases hi; done) | exact ⟨⟨_, this⟩, rfl⟩

theorem drop_cons {xs : Array Value} {k : Nat} (h : k < xs.size) : ∃ v, xs[k]? = some v ∧ xs.toList.drop k = v :: xs.toList.drop (k + 1) := by
  refine ⟨xs[k], by simp [h], ?_⟩
  rw [List.drop_eq_getElem_cons (by simpa using h)]
  simp

theorem drop_get {ys : Array Value} {k : Nat} {y : Value} {r : List Value} (h : ys.toList.drop k = y :: r) : ys[k]? = some y ∧ ys.toList.drop (k + 1) = r := by
  have h1 : (ys.toList.drop k)[0]? = some y := by rw [h]; rfl
  rw [List.getElem?_drop] at h1
  refine ⟨by simpa using h1, ?_⟩
  rw [← List.tail_drop, h]
  rfl

theorem run_flat_fields {P : Program} {T : TypeId → Option TI} (hT : TOk P T) (w : World) (d : Nat) (xs ys : Array Value) : ∀ (fs : List Field) (k : Nat) (b : Bool),
    (∀ j f, fs[j]? = some f → f.offset = k + j ∧ f.name ≠ "_" ∧ ∃ ti, T f.type = some ti ∧ isInt ti.desc = true) → k + fs.length = xs.size →
    eqCells ((xs.toList.drop k).map .v) ((ys.toList.drop k).map .v) = some b → (Op.eqFields (d + 1) xs ys fs).run P w = .ok b w
  | [], k, b, hf, hs, he => by
    rw [List.drop_eq_nil_of_le (by simp at hs ⊢; omega)] at he
    rw [eqCells_nil he]
    simp [Op.eqFields]
  | f :: fs, k, b, hf, hs, he => by
    obtain ⟨v, hv, hd⟩ := drop_cons (xs := xs) (k := k) (by simp at hs; omega)
    rw [hd] at he
    obtain ⟨kd, a, a', ys', b', rfl, hy, hr, rfl⟩ := eqCells_cons he
    obtain ⟨hy1, hy2⟩ := drop_get hy
    subst hy2
    obtain ⟨h1, h2, ti, h3, h4⟩ := hf 0 f rfl
    obtain ⟨⟨k', hu⟩, hag⟩ := isInt_und hT h3 h4
    have ih := run_flat_fields hT w d xs ys fs (k + 1) b' (fun j g hj => by
      have := hf (j + 1) g (by simpa using hj)
      exact ⟨by omega, this.2⟩) (by simp at hs; omega) hr
    simp only [Nat.add_zero] at h1
    simp only [Op.eqFields, h2, ne_eq, not_false_eq_true, if_true, h1, Sem.run_bind, run_part_one hT h3 hag hv, run_part_one hT h3 hag hy1, Result.andThen_ok, run_equalIn_int w d f.type kd k' a a' hu]
    by_cases hq : a = a'
    · subst hq; simp [ih]
    · have : (a == a') = false := by simpa using hq
      simp [this, hq]

theorem run_flat_items {P : Program} {T : TypeId → Option TI} (hT : TOk P T) (w : World) (d : Nat) (xs ys : Array Value) {e : TypeId} {ti : TI} (h3 : T e = some ti) (h4 : isInt ti.desc = true) : ∀ (m k : Nat) (b : Bool),
    k + m = xs.size → eqCells ((xs.toList.drop k).map .v) ((ys.toList.drop k).map .v) = some b → (Op.eqItems (d + 1) e 1 xs ys (List.range' k m)).run P w = .ok b w
  | 0, k, b, hs, he => by
    rw [List.drop_eq_nil_of_le (by simp at hs ⊢; omega)] at he
    rw [eqCells_nil he]
    simp [Op.eqItems]
  | m + 1, k, b, hs, he => by
    obtain ⟨v, hv, hd⟩ := drop_cons (xs := xs) (k := k) (by omega)
    rw [hd] at he
    obtain ⟨kd, a, a', ys', b', rfl, hy, hr, rfl⟩ := eqCells_cons he
    obtain ⟨hy1, hy2⟩ := drop_get hy
    subst hy2
    obtain ⟨⟨k', hu⟩, hag⟩ := isInt_und hT h3 h4
    have ih := run_flat_items hT w d xs ys h3 h4 m (k + 1) b' (by omega) hr
    simp only [List.range'_succ, Op.eqItems, Nat.mul_one, Sem.run_bind, run_part_one hT h3 hag hv, run_part_one hT h3 hag hy1, Result.andThen_ok, run_equalIn_int w d e kd k' a a' hu]
    by_cases hq : a = a'
    · subst hq; simp [ih]
    · have : (a == a') = false := by simpa using hq
      simp [this, hq]

def flatFs (T : TypeId → Option TI) : Nat → List Field → Bool
  | _, [] => true
  | k, f :: r => decide (f.offset = k) && !(f.name == "_") && (match T f.type with
    | some ti => isInt ti.desc
    | none => false) && flatFs T (k + 1) r

theorem flatFs_ok {T : TypeId → Option TI} : ∀ {fs : List Field} {k : Nat}, flatFs T k fs = true → ∀ j f, fs[j]? = some f → f.offset = k + j ∧ f.name ≠ "_" ∧ ∃ ti, T f.type = some ti ∧ isInt ti.desc = true
  | [], k, h, j, f, hj => by simp at hj
  | g :: r, k, h, j, f, hj => by
    simp only [flatFs, Bool.and_eq_true, decide_eq_true_eq, Bool.not_eq_true', beq_eq_false_iff_ne] at h
    obtain ⟨⟨⟨h1, h2⟩, h3⟩, h4⟩ := h
    cases j with
    | zero =>
      simp only [List.getElem?_cons_zero, Option.some.injEq] at hj
      subst hj
      refine ⟨by simpa using h1, h2, ?_⟩
      split at h3
      · rename_i ti hti; exact ⟨ti, hti, h3⟩
      · cases h3
    | succ j =>
      have := flatFs_ok h4 j f (by simpa using hj)
      exact ⟨by omega, this.2⟩

def flatChk (P : Program) (T : TypeId → Option TI) (t : TypeId) : Bool := !P.eqGuardType P.depth t && !P.stoodInHeld t && match T t with
  | some ⟨.struct _, sz, _, _⟩ => (match P.underlying t with
    | some (.struct _) => true
    | _ => false) && flatFs T 0 (P.fieldsOf t).toList && decide ((P.fieldsOf t).size = sz)
  | some ⟨.array n e, sz, _, _⟩ => decide (n = sz) && match T e with
    | some ti => isInt ti.desc && decide (ti.size = 1)
    | none => false
  | _ => false

theorem flatChk_ok {P : Program} {T : TypeId → Option TI} (hT : TOk P T) {t : TypeId} {ti : TI} (h : flatChk P T t = true) (ht : T t = some ti) : FlatOk P t ti.size := by
  unfold flatChk at h
  simp only [Bool.and_eq_true, Bool.not_eq_true'] at h
  obtain ⟨⟨h1, h2⟩, h3⟩ := h
  intro w x y xs ys b hs he
  have key : (Op.equalIn 10000 t (.agg xs) (.agg ys)).run P w = .ok b w := by
    split at h3
    · rename_i fs sz by' z hq
      rw [ht] at hq
      simp only [Option.some.injEq] at hq
      subst hq
      simp only [Bool.and_eq_true, decide_eq_true_eq] at h3
      obtain ⟨⟨h5, h6⟩, h7⟩ := h3
      have hu : P.underlying t = some (.struct (P.fieldsOf t)) := by
        unfold Program.fieldsOf
        split at h5
        · rename_i fs' hf; simp only [hf]
        · cases h5
      rw [show (10000 : Nat) = 9998 + 1 + 1 from rfl, run_equalIn_struct w (9998 + 1) t xs ys hu h2]
      exact run_flat_fields hT w 9998 xs ys _ 0 b (flatFs_ok h6) (by simp [h7, hs]) he
    · rename_i n e sz by' z hq
      rw [ht] at hq
      simp only [Option.some.injEq] at hq
      subst hq
      simp only [Bool.and_eq_true, decide_eq_true_eq] at h3
      obtain ⟨h5, h6⟩ := h3
      split at h6
      · rename_i te hte
        simp only [Bool.and_eq_true, decide_eq_true_eq] at h6
        have hu : P.underlying t = some (.array n e) := (hT t _ ht).desc
        obtain ⟨inf, z0, i1, i2, _⟩ := (hT e te hte).info
        have hc : P.cellsOf e = 1 := by simp [Program.cellsOf, i1, i2, h6.2]
        rw [show (10000 : Nat) = 9998 + 1 + 1 from rfl, run_equalIn_array w (9998 + 1) xs ys hu i1, hc, List.range_eq_range']
        exact run_flat_items hT w 9998 xs ys hte h6.1 n 0 b (by simp at hs; omega) he
      · cases h6
    · cases h3
  exact ⟨run_eqGuard_agg w _ t x y xs ys h1, run_eqGuard_agg w _ t x y xs ys h1, by rw [run_eql_struct, key]; rfl, by rw [run_neq_struct, key]; rfl⟩

end Go.Proofs.Ytgadpbfmnhkjfaa.Sx
