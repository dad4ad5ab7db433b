/- A symbolic executor for the model's code: which types are compared cell by cell. No condition. -/
import Derived.Test.YthbojoiogjdbeaaSxTy
import Derived.ChangeKeysEq
namespace Go.Proofs.Ythbojoiogjdbeaa.Sx
open Go
set_option linter.unusedVariables false

/-- Two cells, compared. -/
def Cell (x y : Value) (b : Bool) : Prop := (∃ k a a', x = .int k a ∧ y = .int k a' ∧ b = decide (a = a')) ∨ ∃ a a', x = .bool a ∧ y = .bool a' ∧ b = (a == a')

theorem eqCells_cons {x : Value} {xs ys : List Value} {b : Bool} (h : eqCells ((x :: xs).map .v) (ys.map .v) = some b) : ∃ y ys' b0 b', ys = y :: ys' ∧ Cell x y b0 ∧ eqCells (xs.map .v) (ys'.map .v) = some b' ∧ b = (b0 && b') := by
  cases ys with
  | nil => simp [eqCells] at h
  | cons y ys =>
    simp only [List.map_cons] at h
    unfold eqCells at h
    split at h
    · rename_i e1 e2; cases e1
    · rename_i k a r k' a' s e1 e2
      cases e1; cases e2
      split at h
      · rename_i hk
        subst hk
        cases hr : eqCells (xs.map .v) (ys.map .v) with
        | none => rw [hr] at h; cases h
        | some b0 => rw [hr] at h; simp only [Option.map_some, Option.some.injEq] at h; exact ⟨_, ys, _, b0, rfl, .inl ⟨k, a, a', rfl, rfl, rfl⟩, hr, h.symm⟩
      · cases h
    · rename_i a r a' s e1 e2
      cases e1; cases e2
      cases hr : eqCells (xs.map .v) (ys.map .v) with
      | none => rw [hr] at h; cases h
      | some b0 => rw [hr] at h; simp only [Option.map_some, Option.some.injEq] at h; exact ⟨_, ys, _, b0, rfl, .inr ⟨a, a', rfl, rfl, rfl⟩, hr, h.symm⟩
    · cases h

theorem eqCells_mk {x y : Value} {xs ys : List Value} {b0 b' : Bool} (h0 : Cell x y b0) (h : eqCells (xs.map .v) (ys.map .v) = some b') : eqCells ((x :: xs).map .v) ((y :: ys).map .v) = some (b0 && b') := by
  rcases h0 with ⟨k, a, a', rfl, rfl, rfl⟩ | ⟨a, a', rfl, rfl, rfl⟩ <;> simp [eqCells, h]

theorem eqCells_nil {ys : List Value} {b : Bool} (h : eqCells [] (ys.map .v) = some b) : ys = [] ∧ b = true := by
  cases ys with
  | nil => exact ⟨rfl, by simpa [eqCells] using h.symm⟩
  | cons y ys => simp [eqCells] at h

theorem eqCells_len : ∀ {xs ys : List Value} {b : Bool}, eqCells (xs.map .v) (ys.map .v) = some b → xs.length = ys.length
  | [], ys, b, h => by rw [(eqCells_nil h).1]
  | x :: xs, ys, b, h => by
    obtain ⟨y, ys', b0, b', rfl, _, h2, _⟩ := eqCells_cons h
    simp [eqCells_len h2]

theorem eqCells_shape : ∀ {xs ys : List Value} {b : Bool}, eqCells (xs.map .v) (ys.map .v) = some b → xs.map isBv = ys.map isBv
  | [], ys, b, h => by rw [(eqCells_nil h).1]
  | x :: xs, ys, b, h => by
    obtain ⟨y, ys', b0, b', rfl, h1, h2, _⟩ := eqCells_cons h
    rw [List.map_cons, List.map_cons, eqCells_shape h2]
    rcases h1 with ⟨k, a, a', rfl, rfl, _⟩ | ⟨a, a', rfl, rfl, _⟩ <;> rfl

theorem eqCells_split : ∀ (n : Nat) {xs ys : List Value} {b : Bool}, eqCells (xs.map .v) (ys.map .v) = some b → n ≤ xs.length →
    ∃ b1 b2, eqCells ((xs.take n).map .v) ((ys.take n).map .v) = some b1 ∧ eqCells ((xs.drop n).map .v) ((ys.drop n).map .v) = some b2 ∧ b = (b1 && b2)
  | 0, xs, ys, b, h, _ => ⟨true, b, rfl, by simpa using h, by simp⟩
  | n + 1, [], ys, b, h, hn => by simp at hn
  | n + 1, x :: xs, ys, b, h, hn => by
    obtain ⟨y, ys', b0, b', rfl, hc, h2, rfl⟩ := eqCells_cons h
    obtain ⟨b1, b2, q1, q2, rfl⟩ := eqCells_split n h2 (by simpa using hn)
    exact ⟨b0 && b1, b2, eqCells_mk hc q1, by simpa using q2, by simp [Bool.and_assoc]⟩

def flatFs (p : TypeId → Bool) (T : TypeId → Option TI) : Nat → List Field → Nat → List Bool → Bool
  | k, [], sz, sh => decide (k = sz) && sh.isEmpty
  | k, f :: r, sz, sh => decide (f.offset = k) && !(f.name == "_") && match T f.type with
    | some ti => p f.type && (sh.take ti.size == ti.zero.map isBv) && flatFs p T (k + ti.size) r sz (sh.drop ti.size)
    | none => false

theorem flatFs_le {p : TypeId → Bool} {T : TypeId → Option TI} : ∀ {r : List Field} {k sz : Nat} {sh : List Bool}, flatFs p T k r sz sh = true → k ≤ sz
  | [], k, sz, sh, h => by simp only [flatFs, Bool.and_eq_true, decide_eq_true_eq] at h; omega
  | f :: r, k, sz, sh, h => by
    simp only [flatFs, Bool.and_eq_true] at h
    have h := h.2
    split at h
    · simp only [Bool.and_eq_true] at h
      have := flatFs_le h.2
      omega
    · cases h

def flatT (P : Program) (T : TypeId → Option TI) : Nat → TypeId → Bool
  | 0, _ => false
  | n + 1, t => match T t with
    | some ⟨.int _, sz, _, z⟩ => decide (sz = 1) && (z.map isBv == [false])
    | some ⟨.bool, sz, _, z⟩ => decide (sz = 1) && (z.map isBv == [true])
    | some ⟨.array m e, sz, _, z⟩ => (match T e with
      | some te => decide (sz = m * te.size) && flatT P T n e && (z.map isBv == (List.replicate m (te.zero.map isBv)).flatten) && decide (te.zero.length = te.size)
      | none => false)
    | some ⟨.struct _, sz, _, z⟩ => !P.stoodInHeld t && (match P.underlying t with
      | some (.struct _) => true
      | _ => false) && flatFs (flatT P T n) T 0 (P.fieldsOf t).toList sz (z.map isBv)
    | _ => false

/-- A value of these cells. -/
def asV (ti : TI) (l : List Value) (v : Value) : Prop := l.length = ti.size ∧ l.map isBv = ti.zero.map isBv ∧ bif ti.desc.agg then v = .agg l.toArray else l = [v]

section
variable {P : Program} {T : TypeId → Option TI} (hT : TOk P T)
include hT

theorem run_part {t : TypeId} {ti : TI} (ht : T t = some ti) {xs : Array Value} {off : Nat} (hs : off + ti.size ≤ xs.size) (h1 : ti.desc.agg = false → ti.size = 1) (hb : ((xs.toList.drop off).take ti.size).map isBv = ti.zero.map isBv) (w : World) :
    ∃ v, (part t xs off).run P w = .ok v w ∧ asV ti ((xs.toList.drop off).take ti.size) v := by
  have hl : ((xs.toList.drop off).take ti.size).length = ti.size := by simp; omega
  obtain ⟨inf, z0, i1, i2, _⟩ := (hT t ti ht).info
  have hc : P.cellsOf t = ti.size := by simp [Program.cellsOf, i1, i2]
  cases ha : ti.desc.agg with
  | true =>
    refine ⟨.agg (xs.extract off (off + ti.size)), by simp [part, (hT t ti ht).isAgg, ha, run_sizeOf w i1, hc], hl, hb, ?_⟩
    rw [ha]
    show Value.agg _ = Value.agg _
    congr 1
    apply Array.ext'
    rw [Array.toList_extract]
    simp [List.extract]
  | false =>
    have h1 := h1 ha
    have hlt : off < xs.size := by omega
    refine ⟨xs[off], by simp [part, (hT t ti ht).isAgg, ha, hlt], hl, hb, ?_⟩
    rw [ha]
    show List.take ti.size (List.drop off xs.toList) = [_]
    rw [h1, List.drop_eq_getElem_cons (by simpa using hlt)]
    simp

omit hT in
theorem flat_one {n : Nat} {t : TypeId} {ti : TI} (ht : T t = some ti) (h : flatT P T n t = true) : ti.desc.agg = false → ti.size = 1 := by
  cases n with
  | zero => simp [flatT] at h
  | succ n =>
    simp only [flatT, ht] at h
    obtain ⟨d, sz, a, b⟩ := ti
    cases d <;> simp [TD.agg] at h ⊢ <;> first | exact h.1 | skip

/-- What is said of a type. -/
def EqAt' (P : Program) (D : Nat) (t : TypeId) (ti : TI) : Prop := ∀ (w : World) (x y : Value) (lx ly : List Value) (b : Bool), asV ti lx x → asV ti ly y →
    eqCells (lx.map .v) (ly.map .v) = some b → (Op.equalIn D t x y).run P w = .ok b w

theorem run_flat_fields {D : Nat} {p : TypeId → Bool} (hp : ∀ t ti, T t = some ti → p t = true → EqAt' P D t ti ∧ (ti.desc.agg = false → ti.size = 1)) (w : World) (xs ys : Array Value) (hxy : xs.size = ys.size) : ∀ (fs : List Field) (k : Nat) (b : Bool) (sh : List Bool),
    flatFs p T k fs xs.size sh = true → (xs.toList.drop k).map isBv = sh → (ys.toList.drop k).map isBv = sh →
    eqCells ((xs.toList.drop k).map .v) ((ys.toList.drop k).map .v) = some b → (Op.eqFields D xs ys fs).run P w = .ok b w
  | [], k, b, sh, hf, hx, hy, he => by
    simp only [flatFs, Bool.and_eq_true, decide_eq_true_eq] at hf
    rw [List.drop_eq_nil_of_le (by simp; omega)] at he
    rw [(eqCells_nil he).2]
    simp [Op.eqFields]
  | f :: fs, k, b, sh, hf, hx, hy, he => by
    simp only [flatFs, Bool.and_eq_true, decide_eq_true_eq, Bool.not_eq_true', beq_eq_false_iff_ne] at hf
    obtain ⟨⟨h1, h2⟩, hf⟩ := hf
    split at hf
    · rename_i ti hti
      simp only [Bool.and_eq_true, beq_iff_eq] at hf
      obtain ⟨⟨h3, h4⟩, h5⟩ := hf
      obtain ⟨E, one⟩ := hp _ _ hti h3
      have hlen := eqCells_len he
      have hsz : k + ti.size ≤ xs.size := by
        have e1 : (sh.take ti.size).length = (ti.zero.map isBv).length := by rw [h4]
        obtain ⟨inf, z0, i1, i2, i3, i4, i5, i6, i7⟩ := (hT _ ti hti).info
        rw [List.length_take, List.length_map, i6] at e1
        have e2 : sh.length = xs.size - k := by rw [← hx]; simp
        by_cases h0 : ti.size = 0
        · have := flatFs_le h5; omega
        · omega
      obtain ⟨b1, b2, q1, q2, rfl⟩ := eqCells_split ti.size he (by simp; omega)
      simp only [List.length_drop, Array.length_toList] at hlen
      obtain ⟨vx, r1, s1⟩ := run_part hT hti (xs := xs) (off := k) hsz one (by rw [List.map_take, hx, h4]) w
      obtain ⟨vy, r2, s2⟩ := run_part hT hti (xs := ys) (off := k) (by omega) one (by rw [List.map_take, hy, h4]) w
      have e := E w vx vy _ _ b1 s1 s2 q1
      rw [List.drop_drop, List.drop_drop] at q2
      have ih := run_flat_fields hp w xs ys hxy fs (k + ti.size) b2 (sh.drop ti.size) h5 (by rw [← List.drop_drop, List.map_drop, hx]) (by rw [← List.drop_drop, List.map_drop, hy]) q2
      simp only [Op.eqFields, h2, ne_eq, not_false_eq_true, if_true, h1, Sem.run_bind, r1, r2, Result.andThen_ok, e]
      cases b1 <;> simp [ih]
    · cases hf

theorem run_flat_items {D : Nat} {e : TypeId} {ti : TI} (hte : T e = some ti) (E : EqAt' P D e ti) (one : ti.desc.agg = false → ti.size = 1) (hz : ti.zero.length = ti.size) (w : World) (xs ys : Array Value) (hxy : xs.size = ys.size) : ∀ (m k : Nat) (b : Bool),
    (k + m) * ti.size = xs.size → (xs.toList.drop (k * ti.size)).map isBv = (List.replicate m (ti.zero.map isBv)).flatten → (ys.toList.drop (k * ti.size)).map isBv = (List.replicate m (ti.zero.map isBv)).flatten →
    eqCells ((xs.toList.drop (k * ti.size)).map .v) ((ys.toList.drop (k * ti.size)).map .v) = some b → (Op.eqItems D e ti.size xs ys (List.range' k m)).run P w = .ok b w
  | 0, k, b, hs, hx, hy, he => by
    rw [List.drop_eq_nil_of_le (by simp at hs ⊢; omega)] at he
    rw [(eqCells_nil he).2]
    simp [Op.eqItems]
  | m + 1, k, b, hs, hx, hy, he => by
    have hk : k * ti.size + ti.size ≤ xs.size := by
      rw [← hs, ← Nat.succ_mul]
      exact Nat.mul_le_mul_right _ (by omega)
    have hzl : (ti.zero.map isBv).length = ti.size := by simp [hz]
    rw [List.replicate_succ, List.flatten_cons] at hx hy
    obtain ⟨b1, b2, q1, q2, rfl⟩ := eqCells_split ti.size he (by simp; omega)
    obtain ⟨vx, r1, s1⟩ := run_part hT hte (xs := xs) (off := k * ti.size) hk one (by rw [List.map_take, hx, List.take_left' hzl]) w
    obtain ⟨vy, r2, s2⟩ := run_part hT hte (xs := ys) (off := k * ti.size) (by omega) one (by rw [List.map_take, hy, List.take_left' hzl]) w
    have e := E w vx vy _ _ b1 s1 s2 q1
    rw [List.drop_drop, List.drop_drop, ← Nat.succ_mul] at q2
    have dr : ∀ zs : Array Value, (zs.toList.drop (k * ti.size)).map isBv = ti.zero.map isBv ++ (List.replicate m (ti.zero.map isBv)).flatten → (zs.toList.drop ((k + 1) * ti.size)).map isBv = (List.replicate m (ti.zero.map isBv)).flatten := by
      intro zs h
      rw [Nat.succ_mul, ← List.drop_drop, List.map_drop, h, List.drop_left' hzl]
    have ih := run_flat_items hte E one hz w xs ys hxy m (k + 1) b2 (by rw [← hs]; congr 1; omega) (dr xs hx) (dr ys hy) q2
    simp only [List.range'_succ, Op.eqItems, Sem.run_bind, r1, r2, Result.andThen_ok, e]
    cases b1 <;> simp [ih]

theorem run_flat : ∀ (n : Nat) (t : TypeId) (ti : TI), T t = some ti → flatT P T n t = true → ∀ D, n ≤ D → EqAt' P D t ti
  | 0, t, ti, ht, h, D, hD => by simp [flatT] at h
  | n + 1, t, ti, ht, h, 0, hD => by omega
  | n + 1, t, ti, ht, h, D + 1, hD => by
    intro w x y lx ly b hx hy he
    have IH := fun t ti ht h => run_flat n t ti ht h D (by omega)
    have H := (hT t ti ht).desc
    have hlen := eqCells_len he
    obtain ⟨hx1, hx3, hx2⟩ := hx
    obtain ⟨hy1, hy3, hy2⟩ := hy
    simp only [flatT, ht] at h
    obtain ⟨d, sz, by', z⟩ := ti
    cases d with
    | int k =>
      have hu : P.underlying t = some (.int k) := H
      have hx2 : lx = [x] := hx2
      have hy2 : ly = [y] := hy2
      subst hx2; subst hy2
      simp only [Bool.and_eq_true, beq_iff_eq] at h
      obtain ⟨y', ys', b0, b', e, hc, h2, rfl⟩ := eqCells_cons he
      cases e
      obtain ⟨_, rfl⟩ := eqCells_nil h2
      rcases hc with ⟨k, a, a', rfl, rfl, rfl⟩ | ⟨a, a', rfl, rfl, rfl⟩
      · rw [run_equalIn_int w D t k _ a a' hu]
        by_cases hq : a = a' <;> simp [hq]
      · rw [h.2] at hx3
        simp [isBv] at hx3
    | bool =>
      have hu : P.underlying t = some .bool := H
      have hx2 : lx = [x] := hx2
      have hy2 : ly = [y] := hy2
      subst hx2; subst hy2
      simp only [Bool.and_eq_true, beq_iff_eq] at h
      obtain ⟨y', ys', b0, b', e, hc, h2, rfl⟩ := eqCells_cons he
      cases e
      obtain ⟨_, rfl⟩ := eqCells_nil h2
      rcases hc with ⟨k, a, a', rfl, rfl, rfl⟩ | ⟨a, a', rfl, rfl, rfl⟩
      · rw [h.2] at hx3
        simp [isBv] at hx3
      · simp [Op.equalIn, run_underlying hu]
    | array m e =>
      have hx2 : x = .agg lx.toArray := hx2
      have hy2 : y = .agg ly.toArray := hy2
      subst hx2; subst hy2
      replace h : (match T e with
        | some te => decide (sz = m * te.size) && flatT P T n e && (z.map isBv == (List.replicate m (te.zero.map isBv)).flatten) && decide (te.zero.length = te.size)
        | none => false) = true := h
      split at h
      · rename_i te hte
        simp only [Bool.and_eq_true, beq_iff_eq, decide_eq_true_eq] at h
        obtain ⟨⟨⟨h1, h2⟩, h3⟩, h4⟩ := h
        have hu : P.underlying t = some (.array m e) := H
        obtain ⟨inf, z0, i1, i2, _⟩ := (hT e te hte).info
        have hc : P.cellsOf e = te.size := by simp [Program.cellsOf, i1, i2]
        rw [run_equalIn_array w D _ _ hu i1, hc, List.range_eq_range']
        have hx1 : lx.length = sz := hx1
        have hx3 : lx.map isBv = z.map isBv := hx3
        have hy3 : ly.map isBv = z.map isBv := hy3
        exact run_flat_items hT hte (IH e te hte h2) (flat_one hte h2) h4 w _ _ (by simp only [List.size_toArray]; exact hlen) m 0 b (by simp [hx1, h1]) (by simpa [h3] using hx3) (by simpa [h3] using hy3) (by simpa using he)
      · cases h
    | struct fs =>
      have hx2 : x = .agg lx.toArray := hx2
      have hy2 : y = .agg ly.toArray := hy2
      subst hx2; subst hy2
      simp only [Bool.and_eq_true, Bool.not_eq_true'] at h
      obtain ⟨⟨h1, h5⟩, h6⟩ := h
      have hu : P.underlying t = some (.struct (P.fieldsOf t)) := by
        unfold Program.fieldsOf
        split at h5
        · rename_i fs' hf; simp only [hf]
        · cases h5
      rw [run_equalIn_struct w D t _ _ hu h1]
      have hx1 : lx.length = sz := hx1
      have hx3 : lx.map isBv = z.map isBv := hx3
      have hy3 : ly.map isBv = z.map isBv := hy3
      exact run_flat_fields hT (p := flatT P T n) (fun t ti ht h => ⟨IH t ti ht h, flat_one ht h⟩) w _ _ (by simp only [List.size_toArray]; exact hlen) _ 0 b (z.map isBv) (by simpa [hx1] using h6) (by simpa using hx3) (by simpa using hy3) (by simpa using he)
    | str => cases h
    | slice e => cases h
    | ptr => cases h
    | func => cases h
    | iface => cases h
    | other => cases h

def flatChk (P : Program) (T : TypeId → Option TI) (t : TypeId) : Bool := !P.eqGuardType P.depth t && (match T t with
  | some ti => ti.desc.agg && decide (ti.zero.length = ti.size)
  | none => false) && flatT P T 8 t

theorem flatChk_ok {t : TypeId} {ti : TI} (h : flatChk P T t = true) (ht : T t = some ti) : FlatOk P t ti.zero := by
  unfold flatChk at h
  simp only [ht, Bool.and_eq_true, Bool.not_eq_true', decide_eq_true_eq] at h
  obtain ⟨⟨h1, h2, h3⟩, h4⟩ := h
  intro w x y xs ys b hs he
  have hl := eqCells_len he
  have hb : ys.toList.map isBv = xs.toList.map isBv := (eqCells_shape he).symm
  have hsz : xs.toList.length = ti.size := by
    have := congrArg List.length hs
    simpa [h3] using this
  have ax : asV ti xs.toList (.agg xs) := ⟨hsz, hs, by rw [h2]; simp⟩
  have ay : asV ti ys.toList (.agg ys) := ⟨by omega, hb.trans hs, by rw [h2]; simp⟩
  have key : (Op.equalIn 10000 t (.agg xs) (.agg ys)).run P w = .ok b w := run_flat hT 8 t ti ht h4 10000 (by omega) w _ _ _ _ b ax ay he
  exact ⟨run_eqGuard_agg w _ t x y xs ys h1, run_eqGuard_agg w _ t x y xs ys h1, by rw [run_eql_struct, key]; rfl, by rw [run_neq_struct, key]; rfl⟩

end

end Go.Proofs.Ythbojoiogjdbeaa.Sx
