/- A symbolic executor for the model's code: what is handed in at the top, by its type: memory that nobody writes. No condition. -/
import Derived.Test.YthbojoiogjdbeaaSxXX
import Derived.DataReads
namespace Go.Proofs.Ythbojoiogjdbeaa.Sx
open Go Go.ChangeShapes Go.WideShapes Go.RowKit
set_option linter.unusedVariables false
set_option linter.unusedSectionVars false

def consec (T : TypeId → Option TI) : Nat → List (Nat × TypeId) → Option Nat
  | off, [] => some off
  | off, (o, t) :: r => match T t with
    | some ti => bif o == off then consec T (off + ti.size) r else none
    | none => none

def okT (T : TypeId → Option TI) : Nat → TypeId → Bool
  | 0, _ => false
  | n + 1, t => match T t with
    | some ⟨.int _, sz, _, _⟩ => sz == 1
    | some ⟨.bool, sz, _, _⟩ => sz == 1
    | some ⟨.str, sz, _, _⟩ => sz == 1
    | some ⟨.slice e, sz, _, _⟩ => sz == 1 && okT T n e && (match T e with
      | some te => decide (0 < te.size)
      | none => false)
    | some ⟨.struct fs, sz, _, _⟩ => (consec T 0 fs == some sz) && fs.all fun f => okT T n f.2
    | some ⟨.array m e, sz, _, _⟩ => okT T n e && (match T e with
      | some te => sz == m * te.size
      | none => false)
    | _ => false

def RTyL (p : TypeId → List RC → Prop) : List TypeId → List (List RC) → Prop
  | [], [] => True
  | t :: ts, x :: xs => p t x ∧ RTyL p ts xs
  | _, _ => False

mutual
/-- How much is read. -/
def rcSize : RC → Nat
  | .v (.string s) => s.size + 1
  | .v _ => 1
  | .sl cells _ _ => rcSizeL cells + 1
def rcSizeL : List RC → Nat
  | [] => 0
  | r :: rs => rcSize r + rcSizeL rs
end

theorem rcSizeL_append {l l' : List RC} : rcSizeL (l ++ l') = rcSizeL l + rcSizeL l' := by
  induction l with
  | nil => simp [rcSizeL]
  | cons r l ih => simp only [List.cons_append, rcSizeL, ih]; omega
theorem rcSizeL_flatten : ∀ {ls : List (List RC)}, rcSizeL ls.flatten = (ls.map rcSizeL).sum
  | [] => by simp [rcSizeL]
  | l :: ls => by simp [rcSizeL_append, rcSizeL_flatten]
theorem one_le_rcSize (r : RC) : 1 ≤ rcSize r := by
  unfold rcSize
  split <;> omega
theorem length_le_rcSizeL (l : List RC) : l.length ≤ rcSizeL l := by
  induction l with
  | nil => simp
  | cons r l ih => have := one_le_rcSize r; simp only [rcSizeL, List.length_cons]; omega

/-- What a measure of readings must be. -/
structure BulkOk {H : Type} (bk : DataW H → Nat) : Prop where
  lit : ∀ l, 1 ≤ bk (.lit l)
  str : ∀ bs, bs.length + 1 ≤ bk (.lit (.string bs))
  nil : 1 ≤ bk .nil
  sl : ∀ es sp, (es.map bk).sum + (sp.map bk).sum + 1 ≤ bk (.slice es sp)
  agg : ∀ ps, (ps.map bk).sum + 1 ≤ bk (.agg ps)

/-- What the cells of a value of a type may be; no list of more than 'B' bytes. -/
def RTy (T : TypeId → Option TI) (B : Nat) : Nat → TypeId → List RC → Prop
  | 0, _, _ => False
  | n + 1, t, l => match T t with
    | some ⟨.int k, _, _, _⟩ => ∃ z, l = [.v (.int k z)] ∧ k.min ≤ z ∧ z ≤ k.max
    | some ⟨.bool, _, _, _⟩ => ∃ b, l = [.v (.bool b)]
    | some ⟨.str, _, _, _⟩ => ∃ s : ByteArray, l = [.v (.string s)] ∧ s.size ≤ B
    | some ⟨.slice e, _, _, _⟩ => ∃ (items : List (List RC)) (len : Nat), l = [.sl items.flatten len items.length] ∧ len ≤ items.length ∧ items.length ≤ maxLen ∧ (∀ te, T e = some te → items.length * te.bytes ≤ B) ∧ ∀ x ∈ items, RTy T B n e x
    | some ⟨.struct fs, _, _, _⟩ => ∃ parts : List (List RC), l = parts.flatten ∧ RTyL (RTy T B n) (fs.map (·.2)) parts
    | some ⟨.array m e, _, _, _⟩ => ∃ parts : List (List RC), parts.length = m ∧ l = parts.flatten ∧ ∀ x ∈ parts, RTy T B n e x
    | _ => False

section
variable {T : TypeId → Option TI} {B : Nat} {n : Nat} {t : TypeId} {a b : Nat} {z : List Value} {l : List RC}
theorem RTy_int {k : IntKind} (ht : T t = some ⟨.int k, a, b, z⟩) (h : RTy T B (n + 1) t l) : ∃ x, l = [.v (.int k x)] ∧ k.min ≤ x ∧ x ≤ k.max := by simpa only [RTy, ht] using h
theorem RTy_bool (ht : T t = some ⟨.bool, a, b, z⟩) (h : RTy T B (n + 1) t l) : ∃ x, l = [.v (.bool x)] := by simpa only [RTy, ht] using h
theorem RTy_str (ht : T t = some ⟨.str, a, b, z⟩) (h : RTy T B (n + 1) t l) : ∃ s : ByteArray, l = [.v (.string s)] ∧ s.size ≤ B := by simpa only [RTy, ht] using h
theorem RTy_slice {e : TypeId} {te : TI} (ht : T t = some ⟨.slice e, a, b, z⟩) (hte : T e = some te) (h : RTy T B (n + 1) t l) :
    ∃ (items : List (List RC)) (len : Nat), l = [.sl items.flatten len items.length] ∧ len ≤ items.length ∧ items.length ≤ maxLen ∧ items.length * te.bytes ≤ B ∧ ∀ x ∈ items, RTy T B n e x := by
  simp only [RTy, ht] at h
  obtain ⟨items, len, h1, h2, h3, h4, h5⟩ := h
  exact ⟨items, len, h1, h2, h3, h4 te hte, h5⟩
theorem RTy_struct {fs : List (Nat × TypeId)} (ht : T t = some ⟨.struct fs, a, b, z⟩) (h : RTy T B (n + 1) t l) : ∃ parts : List (List RC), l = parts.flatten ∧ RTyL (RTy T B n) (fs.map (·.2)) parts := by simpa only [RTy, ht] using h
theorem RTy_array {m : Nat} {e : TypeId} (ht : T t = some ⟨.array m e, a, b, z⟩) (h : RTy T B (n + 1) t l) : ∃ parts : List (List RC), parts.length = m ∧ l = parts.flatten ∧ ∀ x ∈ parts, RTy T B n e x := by simpa only [RTy, ht] using h

theorem RTyL_cons {p : TypeId → List RC → Prop} {t : TypeId} {ts : List TypeId} {ps : List (List RC)} (h : RTyL p (t :: ts) ps) : ∃ x xs, ps = x :: xs ∧ p t x ∧ RTyL p ts xs := by
  cases ps with
  | nil => exact h.elim
  | cons x xs => exact ⟨x, xs, rfl, h.1, h.2⟩
theorem RTyL_nil {p : TypeId → List RC → Prop} {ps : List (List RC)} (h : RTyL p [] ps) : ps = [] := by
  cases ps with
  | nil => rfl
  | cons x xs => exact h.elim

theorem flat_len {α : Type} {k : Nat} : ∀ {l : List (List α)}, (∀ x ∈ l, x.length = k) → l.flatten.length = l.length * k
  | [], _ => by simp
  | x :: l, h => by
    rw [List.flatten_cons, List.length_append, h x (List.mem_cons_self ..), flat_len fun y hy => h y (List.mem_cons_of_mem _ hy), List.length_cons, Nat.succ_mul, Nat.add_comm]

theorem flat_at {α : Type} {k : Nat} : ∀ {l : List (List α)} {i : Nat}, (∀ x ∈ l, x.length = k) → (hi : i < l.length) → (l.flatten.drop (i * k)).take k = l[i]
  | x :: l, 0, h, hi => by
    have hx := h x (List.mem_cons_self ..)
    rw [Nat.zero_mul, List.drop_zero, List.flatten_cons, List.take_append_of_le_length (by omega), List.take_of_length_le (by omega)]
    rfl
  | x :: l, i + 1, h, hi => by
    have hx := h x (List.mem_cons_self ..)
    rw [Nat.succ_mul, List.flatten_cons, List.drop_append, List.drop_of_length_le (by omega), List.nil_append, hx, show i * k + k - k = i * k from by omega]
    exact flat_at (fun y hy => h y (List.mem_cons_of_mem _ hy)) (by simpa using hi)

/-- All of a list are of a form. -/
theorem all_form {α β : Type} {p : α → Prop} {f : α → β} : ∀ {l : List β}, (∀ x ∈ l, ∃ y, x = f y ∧ p y) → ∃ ys : List α, l = ys.map f ∧ ∀ y ∈ ys, p y
  | [], _ => ⟨[], rfl, fun y hy => by simp at hy⟩
  | x :: l, h => by
    obtain ⟨y, rfl, hy⟩ := h x (by simp)
    obtain ⟨ys, rfl, hys⟩ := all_form (l := l) fun x hx => h x (List.mem_cons_of_mem _ hx)
    exact ⟨y :: ys, rfl, fun z hz => by
      cases hz with
      | head => exact hy
      | tail _ hz => exact hys z hz⟩
end

theorem mapM_some {α β : Type} {f : α → Option β} : ∀ {l : List α} {ys : List β}, l.mapM f = some ys → ys.length = l.length ∧ ∀ (j : Nat) (x : α) (y : β), l[j]? = some x → ys[j]? = some y → f x = some y
  | [], ys, h => by
    simp at h
    subst h
    exact ⟨rfl, fun j x y hx => by simp at hx⟩
  | x :: l, ys, h => by
    rw [List.mapM_cons] at h
    simp only [Option.bind_eq_bind, Option.bind_eq_some_iff, Option.pure_def, Option.some.injEq] at h
    obtain ⟨y, h1, ys', h2, rfl⟩ := h
    obtain ⟨g1, g2⟩ := mapM_some h2
    refine ⟨by simp [g1], fun j x' y' hx hy => ?_⟩
    cases j with
    | zero => simp at hx hy; subst hx; subst hy; exact h1
    | succ j => exact g2 j x' y' (by simpa using hx) (by simpa using hy)

theorem list_of {α : Type} {p : Nat → α → Prop} : ∀ {n : Nat}, (∀ i, i < n → ∃ x, p i x) → ∃ xs : List α, xs.length = n ∧ ∀ (i : Nat) (x : α), xs[i]? = some x → p i x
  | 0, _ => ⟨[], rfl, fun i x hx => by simp at hx⟩
  | n + 1, h => by
    obtain ⟨xs, h1, h2⟩ := list_of (n := n) fun i hi => h i (by omega)
    obtain ⟨x, hx⟩ := h n (by omega)
    refine ⟨xs ++ [x], by simp [h1], fun i y hy => ?_⟩
    by_cases hi : i < xs.length
    · rw [List.getElem?_append_left hi] at hy; exact h2 i y hy
    · rw [List.getElem?_append_right (by omega)] at hy
      have : i - xs.length = 0 := by
        have := (List.getElem?_eq_some_iff.1 hy).1
        simp at this; omega
      rw [this] at hy
      simp at hy
      have : i = n := by omega
      subst this; subst hy; exact hx

section
variable {T : TypeId → Option TI} {P : Program} {w : World}

/-- All that is there. -/
def zoneW (w : World) (k : Nat) : Prop := k < w.heap.size

def relR (w : World) (l : List RC) (cs : List Value) : Prop := l.length = cs.length ∧ ∀ (j : Nat) (r : RC) (y : Value), l[j]? = some r → cs[j]? = some y → RC.rel w (zoneW w) r y

theorem relR.nil : relR w [] [] := ⟨rfl, fun j r y h => by simp at h⟩
theorem relR.one {r : RC} {y : Value} (h : RC.rel w (zoneW w) r y) : relR w [r] [y] := by
  refine ⟨rfl, fun j r' y' hr hy => ?_⟩
  cases j with
  | zero => simp at hr hy; subst hr; subst hy; exact h
  | succ j => simp at hr
theorem relR.append {l l' : List RC} {cs cs' : List Value} (h : relR w l cs) (h' : relR w l' cs') : relR w (l ++ l') (cs ++ cs') := by
  refine ⟨by simp [h.1, h'.1], fun j c z hc hz => ?_⟩
  by_cases hj : j < l.length
  · rw [List.getElem?_append_left hj] at hc
    rw [List.getElem?_append_left (by rw [← h.1]; exact hj)] at hz
    exact h.2 j c z hc hz
  · rw [List.getElem?_append_right (by omega)] at hc
    rw [List.getElem?_append_right (by rw [← h.1]; omega), ← h.1] at hz
    exact h'.2 _ c z hc hz

theorem relL_flatten {b sz : Nat} : ∀ {items : List (List RC)} {o : Nat}, (∀ (i : Nat) (x : List RC), items[i]? = some x → x.length = sz ∧ RC.relL w (zoneW w) b (o + i * sz) x) → RC.relL w (zoneW w) b o items.flatten
  | [], o, _ => by simp only [List.flatten_nil, RC.relL]
  | x :: items, o, h => by
    obtain ⟨h1, h2⟩ := h 0 x rfl
    rw [Nat.zero_mul, Nat.add_zero] at h2
    rw [List.flatten_cons]
    have ih := relL_flatten (items := items) (o := o + sz) fun i y hy => by
      have := h (i + 1) y (by simpa using hy)
      rwa [Nat.succ_mul, show o + (i * sz + sz) = o + sz + i * sz from by omega] at this
    refine RC.relL_mk fun j r hj => ?_
    by_cases hx : j < x.length
    · rw [List.getElem?_append_left hx] at hj; exact RC.relL_get h2 hj
    · rw [List.getElem?_append_right (by omega)] at hj
      have := RC.relL_get ih hj
      rwa [show o + sz + (j - x.length) = o + j from by omega] at this

theorem weightsAll_mem {H : Type} {e : TypeId} : ∀ {l : List (DataW H)} {d : DataW H}, d ∈ l → ∀ x ∈ d.weights P e, x ∈ DataW.weightsAll P e l
  | y :: l, d, hd, x, hx => by
    simp only [DataW.weightsAll, List.mem_append]
    cases hd with
    | head => exact .inl hx
    | tail _ hd => exact .inr (weightsAll_mem hd x hx)

theorem fields_open {H : Type} {enc : TypeId × Value → H} {bk : DataW H → Nat} {B n fuel : Nat} {cs : List Value} (hT : TOk P T)
    (ih : ∀ (t : TypeId) (cs : List Value) (x : DataW H × List MemPlace), okT T n t = true → DataW.trod enc P w 0 (fun _ => true) true fuel t cs = some x → (∀ v ∈ x.1.weights P t, v ≤ B) →
      ∃ l, RTy T B n t l ∧ relR w l cs ∧ rcSizeL l ≤ bk x.1 ∧ ∃ ti, T t = some ti ∧ cs.length = ti.size) :
    ∀ (fs : List Field) (xs : List (DataW H × List MemPlace)) (off sz : Nat), consec T off (fs.map fun f => (f.offset, f.type)) = some sz → ((fs.map fun f => (f.offset, f.type)).all fun f => okT T n f.2) = true → off ≤ cs.length → sz = cs.length →
      xs.length = fs.length → (∀ (j : Nat) f x, fs[j]? = some f → xs[j]? = some x → DataW.trod enc P w 0 (fun _ => true) true fuel f.type ((cs.drop f.offset).take (P.cellsOf f.type)) = some x) →
      (∀ v ∈ DataW.weightsEach P (fs.map (·.type)) (xs.map (·.1)), v ≤ B) →
      ∃ parts : List (List RC), RTyL (RTy T B n) (fs.map (·.type)) parts ∧ relR w parts.flatten (cs.drop off) ∧ rcSizeL parts.flatten ≤ (xs.map (fun x => bk x.1)).sum
  | [], [], off, sz, hc, _, ho, hs, _, _, _ => by
    simp only [List.map_nil, consec, Option.some.injEq] at hc
    refine ⟨[], trivial, ?_, by simp [rcSizeL]⟩
    rw [List.drop_of_length_le (by omega)]
    exact relR.nil
  | [], _ :: _, off, sz, hc, _, ho, hs, hl, _, _ => by simp at hl
  | _ :: _, [], off, sz, hc, _, ho, hs, hl, _, _ => by simp at hl
  | f :: fs, x :: xs, off, sz, hc, hok, ho, hs, hl, hx, hw => by
    simp only [List.map_cons, consec] at hc
    split at hc
    · rename_i ti hti
      cases hoo : f.offset == off with
      | false => rw [hoo] at hc; cases hc
      | true =>
        rw [hoo] at hc
        simp only [cond_true] at hc
        have hoff : f.offset = off := by simpa using hoo
        simp only [List.map_cons, List.all_cons, Bool.and_eq_true] at hok
        simp only [List.map_cons, DataW.weightsEach, List.mem_append] at hw
        have h1 := hx 0 f x rfl rfl
        obtain ⟨l, g1, g2, g5, ti', g3, g4⟩ := ih _ _ x hok.1 h1 fun v hv => hw v (.inl hv)
        rw [hti] at g3
        cases g3
        have hcell : P.cellsOf f.type = ti.size := by
          obtain ⟨inf, z, q1, q2, _⟩ := (hT _ _ hti).info
          simp [Program.cellsOf, q1, q2]
        rw [hcell, hoff] at g2 g4
        have hle : off + ti.size ≤ cs.length := by
          rw [List.length_take, List.length_drop] at g4; omega
        obtain ⟨parts, k1, k2, k3⟩ := fields_open hT ih fs xs (off + ti.size) sz hc hok.2 hle hs (by simpa using hl) (fun j f x h1 h2 => hx (j + 1) f x (by simpa using h1) (by simpa using h2)) fun v hv => hw v (.inr hv)
        refine ⟨l :: parts, ⟨g1, k1⟩, ?_, ?_⟩
        · rw [List.flatten_cons]
          have := g2.append k2
          rwa [show (cs.drop off).take ti.size ++ cs.drop (off + ti.size) = cs.drop off from by rw [← List.drop_drop]; exact List.take_append_drop _ _] at this
        · simp only [List.flatten_cons, rcSizeL_append, List.map_cons, List.sum_cons]
          omega
    · cases hc

theorem trod_open {H : Type} {enc : TypeId × Value → H} {bk : DataW H → Nat} (hbk : BulkOk bk) {B : Nat} (hT : TOk P T) : ∀ (n fuel : Nat) (t : TypeId) (cs : List Value) (x : DataW H × List MemPlace), okT T n t = true → DataW.trod enc P w 0 (fun _ => true) true fuel t cs = some x → (∀ v ∈ x.1.weights P t, v ≤ B) →
    ∃ l, RTy T B n t l ∧ relR w l cs ∧ rcSizeL l ≤ bk x.1 ∧ ∃ ti, T t = some ti ∧ cs.length = ti.size
  | 0, _, _, _, _, h, _, _ => by simp [okT] at h
  | _ + 1, 0, _, _, _, _, h, _ => by simp [DataW.trod] at h
  | n + 1, fuel + 1, t, cs, x, hok, h, hwt => by
    have ih := fun t cs x => trod_open (enc := enc) hbk (B := B) hT n fuel t cs x
    simp only [okT] at hok
    cases hti : T t with
    | none => rw [hti] at hok; cases hok
    | some ti =>
      rw [hti] at hok
      have HT := hT t ti hti
      obtain ⟨desc, sz, by', z⟩ := ti
      have hd := HT.desc
      simp only [RTy, hti]
      have vr : ∀ {v : Value}, v.oneCell' = true → RC.rel w (zoneW w) (.v v) v := fun hv => by simp only [RC.rel]; exact ⟨trivial, hv⟩
      cases desc with
      | int k =>
        have hu : P.underlying t = some (.int k) := hd
        simp only [beq_iff_eq] at hok
        subst hok
        simp only [DataW.trod, hu] at h
        split at h <;> rename_i he <;> simp at he
        all_goals first | (cases h; done) | skip
        obtain ⟨rfl, rfl⟩ := he
        split at h
        · rename_i hk
          obtain ⟨rfl, hw⟩ := hk
          simp only [Lit.wf, Bool.and_eq_true, decide_eq_true_eq] at hw
          cases h
          refine ⟨_, ⟨_, rfl, hw.1, hw.2⟩, relR.one (vr rfl), ?_, _, rfl, rfl⟩
          simp only [rcSizeL, rcSize]; exact hbk.lit _
        · cases h
      | bool =>
        have hu : P.underlying t = some .bool := hd
        simp only [beq_iff_eq] at hok
        subst hok
        simp only [DataW.trod, hu] at h
        split at h <;> rename_i he <;> simp at he
        all_goals first | (cases h; done) | skip
        cases h
        refine ⟨_, ⟨_, rfl⟩, relR.one (vr rfl), ?_, _, rfl, rfl⟩
        simp only [rcSizeL, rcSize]; exact hbk.lit _
      | str =>
        have hu : P.underlying t = some .string := hd
        simp only [beq_iff_eq] at hok
        subst hok
        simp only [DataW.trod, hu] at h
        split at h <;> rename_i he <;> simp at he
        all_goals first | (cases h; done) | skip
        split at h
        · rename_i s hs
          cases h
          refine ⟨_, ⟨_, rfl, ?_⟩, relR.one (vr rfl), ?_, _, rfl, rfl⟩
          · have := hwt _ (by simp only [DataW.weights]; exact List.mem_singleton.2 rfl)
            simpa using this
          · simp only [rcSizeL, rcSize]
            have := hbk.str s.data.toList
            simp at this ⊢
            omega
        · cases h
      | slice e =>
        have hu : P.underlying t = some (.slice e) := hd
        simp only [Bool.and_eq_true, beq_iff_eq] at hok
        obtain ⟨⟨rfl, hoe⟩, hse⟩ := hok
        cases hte : T e with
        | none => rw [hte] at hse; cases hse
        | some te =>
          rw [hte] at hse
          simp only [decide_eq_true_eq] at hse
          have hcell : P.cellsOf e = te.size := by
            obtain ⟨inf, z, q1, q2, _⟩ := (hT _ _ hte).info
            simp [Program.cellsOf, q1, q2]
          have hbyt : P.bytesOf e = te.bytes := by
            obtain ⟨inf, z, q1, _, q2, _⟩ := (hT _ _ hte).info
            simp [Program.bytesOf, q1, q2]
          have hz0 : ∀ te', some te = some te' → 0 * te'.bytes ≤ B := fun te' _ => by simp
          simp only [DataW.trod, hu] at h
          split at h <;> rename_i he <;> simp at he
          all_goals first | (cases h; done) | skip
          · cases h
            refine ⟨_, ⟨[], 0, rfl, Nat.le_refl _, by simp, by simp, fun x hx => by simp at hx⟩, relR.one (by simp only [RC.rel]; exact .inl ⟨trivial, rfl, none, rfl⟩), ?_, _, rfl, rfl⟩
            simp only [List.flatten_nil, rcSizeL, rcSize]; exact hbk.nil
          · rename_i a len cap
            subst he
            split at h
            · rename_i hc
              obtain ⟨hb, hlc, hcm⟩ := hc
              simp only [Option.bind_eq_some_iff, Option.map_eq_some_iff, if_true] at h
              obtain ⟨elems, h1, rest, h2, h3⟩ := h
              obtain ⟨q1, q2⟩ := mapM_some h1
              obtain ⟨q3, q4⟩ := mapM_some h2
              simp only [List.length_range] at q1 q3
              subst h3
              simp only [DataW.weights, hu, List.mem_cons, List.mem_append, List.length_map] at hwt
              have hwc : cap * te.bytes ≤ B := by
                have := hwt _ (.inl rfl)
                rw [q1, q3, hbyt, show len + (cap - len) = cap from by omega] at this
                exact this
              have each : ∀ i, i < cap → ∃ cs' l y, w.cells? 0 (a.add (i * te.size)) te.size = some cs' ∧ RTy T B n e l ∧ relR w l cs' ∧ cs'.length = te.size ∧ (elems ++ rest)[i]? = some y ∧ rcSizeL l ≤ bk y.1 := by
                intro i hi
                have hel : ∃ y, ((w.cells? 0 (a.add (i * P.cellsOf e)) (P.cellsOf e)).bind (DataW.trod enc P w 0 (fun _ => true) true fuel e)) = some y ∧ (elems ++ rest)[i]? = some y ∧ (∀ v ∈ y.1.weights P e, v ≤ B) := by
                  by_cases hil : i < len
                  · refine ⟨elems[i], q2 i i _ (by simp [hil]) (by simp [q1, hil]), by rw [List.getElem?_append_left (by omega)]; exact List.getElem?_eq_getElem (by omega), fun v hv => hwt v (.inr (.inl (weightsAll_mem (List.mem_map.2 ⟨elems[i], List.getElem_mem _, rfl⟩) v hv)))⟩
                  · have := q4 (i - len) (i - len) rest[i - len] (by rw [List.getElem?_range (by omega)]) (List.getElem?_eq_getElem (by omega))
                    rw [show len + (i - len) = i from by omega] at this
                    refine ⟨_, this, ?_, fun v hv => hwt v (.inr (.inr (weightsAll_mem (List.mem_map.2 ⟨rest[i - len], List.getElem_mem _, rfl⟩) v hv)))⟩
                    rw [List.getElem?_append_right (by omega), q1]
                    exact List.getElem?_eq_getElem (by omega)
                obtain ⟨y, hy, hy', hyw⟩ := hel
                simp only [Option.bind_eq_some_iff] at hy
                obtain ⟨cs', hy1, hy2⟩ := hy
                obtain ⟨l, g1, g2, g5, te', g3, g4⟩ := ih e cs' y hoe hy2 hyw
                rw [hte] at g3
                cases g3
                rw [hcell] at hy1
                exact ⟨cs', l, y, hy1, g1, g2, g4, hy', g5⟩
              by_cases hc0 : cap = 0
              · subst hc0
                have hl0 : len = 0 := by omega
                subst hl0
                refine ⟨_, ⟨[], 0, rfl, Nat.le_refl _, by simp, by simp, fun x hx => by simp at hx⟩, relR.one (by simp only [RC.rel]; exact .inl ⟨trivial, rfl, some a, rfl⟩), ?_, _, rfl, rfl⟩
                simp only [List.flatten_nil, rcSizeL, rcSize]
                have := hbk.sl (elems.map (·.1)) (rest.map (·.1))
                omega
              obtain ⟨b0, o0, sp⟩ := a
              have hlt : b0 < w.heap.size := by
                obtain ⟨cs', l, y, k1, _⟩ := each 0 (by omega)
                have := World.cells?_block k1 hse
                simpa [Addr.add] using this
              have hsp : sp = none := by
                obtain ⟨cs', l, y, k1, _, _, k4, _⟩ := each 0 (by omega)
                obtain ⟨_, k5, k6⟩ := World.cells?_some k1
                have := k6 0 hse
                simp only [Nat.zero_mul, Addr.add, if_true, World.cell?] at this
                have h0 : cs'[0]? = some cs'[0] := List.getElem?_eq_getElem (by omega)
                rw [h0] at this
                split at this
                · cases sp with
                  | none => rfl
                  | some _ => simp at this
                · simp at this
              subst hsp
              obtain ⟨items, m1, m2⟩ := list_of (p := fun i x => (RTy T B n e x ∧ ∃ y, (elems ++ rest)[i]? = some y ∧ rcSizeL x ≤ bk y.1) ∧ x.length = te.size ∧ RC.relL w (zoneW w) b0 (o0 + i * te.size) x) (n := cap) fun i hi => by
                obtain ⟨cs', l, y, k1, k2, k3, k4, k5, k7⟩ := each i hi
                obtain ⟨_, _, k6⟩ := World.cells?_some k1
                refine ⟨l, ⟨k2, y, k5, k7⟩, by rw [k3.1, k4], RC.relL_mk fun j r hj => ?_⟩
                have hj' : j < te.size := by rw [← k4, ← k3.1]; exact (List.getElem?_eq_some_iff.1 hj).1
                have h6 := k6 j hj'
                rw [Addr.add_lit, Addr.add_lit] at h6
                have h0 : cs'[j]? = some cs'[j] := List.getElem?_eq_getElem (by omega)
                exact ⟨cs'[j], by rw [h6]; exact h0, k3.2 j r _ hj h0⟩
              refine ⟨_, ⟨items, len, rfl, by omega, by omega, fun te' ht' => ?_, fun x hx => ?_⟩, relR.one ?_, ?_, _, rfl, rfl⟩
              · rw [hte] at ht'; cases ht'; rw [m1]; exact hwc
              · obtain ⟨i, hi, rfl⟩ := List.mem_iff_getElem.1 hx
                exact (m2 i _ (List.getElem?_eq_getElem hi)).1.1
              · simp only [RC.rel]
                refine .inr ⟨by omega, b0, o0, by rw [m1], hlt, relL_flatten fun i x hx => (m2 i x hx).2⟩
              · simp only [rcSizeL, rcSize, rcSizeL_flatten]
                have h5 := hbk.sl (elems.map (·.1)) (rest.map (·.1))
                have key : ∀ (is : List (List RC)) (ys : List (DataW H × List MemPlace)), is.length = ys.length → (∀ (i : Nat) (x : List RC), is[i]? = some x → ∃ y, ys[i]? = some y ∧ rcSizeL x ≤ bk y.1) → (is.map rcSizeL).sum ≤ (ys.map fun y => bk y.1).sum := by
                  intro is
                  induction is with
                  | nil => intro ys hl _; cases ys with
                    | nil => simp
                    | cons y ys => simp at hl
                  | cons x is ih => intro ys hl hh; cases ys with
                    | nil => simp at hl
                    | cons y ys =>
                      obtain ⟨y', e1, e2⟩ := hh 0 x rfl
                      simp at e1
                      subst e1
                      have := ih ys (by simpa using hl) fun i x hx => by simpa using hh (i + 1) x (by simpa using hx)
                      simp only [List.map_cons, List.sum_cons]
                      omega
                have h6 := key items (elems ++ rest) (by rw [m1, List.length_append]; omega) fun i x hx => (m2 i x hx).1.2
                simp only [List.map_append, List.sum_append, List.map_map, Function.comp_def] at h5 h6
                omega
            · cases h
      | struct fs =>
        simp only [Bool.and_eq_true, beq_iff_eq] at hok
        obtain ⟨hc, hok⟩ := hok
        obtain ⟨flds, hu, hfs, _⟩ := hd
        have hcell : P.cellsOf t = sz := by
          obtain ⟨inf, z, q1, q2, _⟩ := HT.info
          simp [Program.cellsOf, q1, q2]
        simp only [DataW.trod, hu] at h
        split at h
        · rename_i hl
          simp only [Option.map_eq_some_iff] at h
          obtain ⟨xs, h1, h2⟩ := h
          obtain ⟨q1, q2⟩ := mapM_some h1
          subst hfs
          subst h2
          simp only [DataW.weights, hu] at hwt
          obtain ⟨parts, k1, k2, k3⟩ := fields_open (enc := enc) (bk := bk) (n := n) (fuel := fuel) (cs := cs) hT ih flds.toList xs 0 sz hc hok (Nat.zero_le _) (by omega) q1 q2 hwt
          refine ⟨parts.flatten, ⟨parts, rfl, by simpa [List.map_map, Function.comp_def] using k1⟩, by simpa using k2, ?_, _, rfl, by show cs.length = sz; omega⟩
          have := hbk.agg (xs.map (·.1))
          simp only [List.map_map, Function.comp_def] at this
          show rcSizeL parts.flatten ≤ bk (DataW.agg (xs.map (·.1)))
          omega
        · cases h
      | array m e =>
        simp only [Bool.and_eq_true] at hok
        obtain ⟨hoe, hse⟩ := hok
        have hu : P.underlying t = some (.array m e) := hd
        cases hte : T e with
        | none => rw [hte] at hse; cases hse
        | some te =>
          rw [hte] at hse
          simp only [beq_iff_eq] at hse
          have hcell : P.cellsOf t = sz := by
            obtain ⟨inf, z, q1, q2, _⟩ := HT.info
            simp [Program.cellsOf, q1, q2]
          have hcelle : P.cellsOf e = te.size := by
            obtain ⟨inf, z, q1, q2, _⟩ := (hT _ _ hte).info
            simp [Program.cellsOf, q1, q2]
          simp only [DataW.trod, hu] at h
          split at h
          · rename_i hl
            simp only [Option.map_eq_some_iff] at h
            obtain ⟨xs, h1, h2⟩ := h
            obtain ⟨q1, q2⟩ := mapM_some h1
            simp only [List.length_range] at q1
            subst h2
            simp only [DataW.weights, hu] at hwt
            have key : ∀ k, k ≤ m → ∃ parts : List (List RC), parts.length = k ∧ (∀ x ∈ parts, RTy T B n e x) ∧ relR w parts.flatten (cs.take (k * te.size)) ∧ rcSizeL parts.flatten ≤ ((xs.take k).map fun x => bk x.1).sum := by
              intro k
              induction k with
              | zero => intro _; exact ⟨[], rfl, fun x hx => by simp at hx, by simp; exact relR.nil, by simp [rcSizeL]⟩
              | succ k ihk =>
                intro hk
                obtain ⟨parts, k1, k2, k3, k4⟩ := ihk (by omega)
                have hx := q2 k k xs[k] (by rw [List.getElem?_range (by omega)]) (List.getElem?_eq_getElem (by omega))
                obtain ⟨l, g1, g2, g5, te', g3, g4⟩ := ih _ _ _ hoe hx fun v hv => hwt v (weightsAll_mem (List.mem_map.2 ⟨xs[k], List.getElem_mem _, rfl⟩) v hv)
                rw [hcelle] at g2
                refine ⟨parts ++ [l], by simp [k1], fun x hx => ?_, ?_, ?_⟩
                · rcases List.mem_append.1 hx with hx | hx
                  · exact k2 x hx
                  · rw [List.mem_singleton] at hx; subst hx; exact g1
                · have := k3.append g2
                  rw [List.flatten_append, List.flatten_cons, List.flatten_nil, List.append_nil, Nat.succ_mul]
                  rwa [← List.take_add] at this
                · rw [List.flatten_append, List.flatten_cons, List.flatten_nil, List.append_nil, rcSizeL_append, List.take_succ_eq_append_getElem (by omega), List.map_append, List.sum_append]
                  simp only [List.map_cons, List.map_nil, List.sum_cons, List.sum_nil]
                  omega
            obtain ⟨parts, k1, k2, k3, k4⟩ := key m (Nat.le_refl _)
            refine ⟨parts.flatten, ⟨parts, k1, rfl, k2⟩, ?_, ?_, _, rfl, by show cs.length = sz; omega⟩
            · rwa [List.take_of_length_le (by omega)] at k3
            · rw [List.take_of_length_le (by omega)] at k4
              have := hbk.agg (xs.map (·.1))
              simp only [List.map_map, Function.comp_def] at this
              show rcSizeL parts.flatten ≤ bk (DataW.agg (xs.map (·.1)))
              omega
          · cases h
      | ptr => cases hok
      | func => cases hok
      | iface => cases hok
      | other => cases hok

def svOf (T : TypeId → Option TI) (t : TypeId) (l : List RC) : SV := match T t with
  | some ti => bif ti.desc.agg then .agg (l.map RC.toSC) else match l with
    | [x] => .c x.toSC
    | _ => .tup []
  | none => .tup []

def svs (T : TypeId → Option TI) : List TypeId → List (List RC) → List SV
  | t :: ts, c :: cs => svOf T t c :: svs T ts cs
  | _, _ => []

def rhoW (w : World) : Rho := ⟨0, fun _ => (0, 0), w, zoneW w⟩

theorem svOf_rel (hT : TOk P T) {B n : Nat} {t : TypeId} {l : List RC} {v : Value} {r : Reach} {b : Nat} (hval : Value.okWide P w r b t v) (hl : RTy T B n t l) (hr : relR w l v.cells.toList) : (svOf T t l).rel (rhoW w) v := by
  cases n with
  | zero => exact hl.elim
  | succ n =>
    simp only [RTy] at hl
    cases hti : T t with
    | none => rw [hti] at hl; exact hl.elim
    | some ti =>
      rw [hti] at hl
      have HT := hT t ti hti
      simp only [svOf, hti]
      obtain ⟨desc, sz, by', z⟩ := ti
      have hd := HT.desc
      have aggv : (∃ cs, v = .agg cs) → SV.rel (rhoW w) (.agg (l.map RC.toSC)) v := by
        rintro ⟨cs, rfl⟩
        refine ⟨cs, rfl, by simpa [Value.cells] using hr.1, fun j c y hc hy => ?_⟩
        simp only [List.getElem?_map, Option.map_eq_some_iff] at hc
        obtain ⟨r, h1, rfl⟩ := hc
        exact RC.toSC_rel.2 (hr.2 j r y h1 (by simpa [Value.cells] using hy))
      have one : ∀ {x : RC}, l = [x] → (∀ cs, v ≠ .agg cs) → (∀ cs, v ≠ .tuple cs) → (match l with
          | [x] => SV.c x.toSC
          | _ => .tup []).rel (rhoW w) v := by
        rintro x rfl h1 h2
        have hc : v.cells = #[v] := by
          cases v <;> first | rfl | exact absurd rfl (h1 _) | exact absurd rfl (h2 _)
        rw [hc] at hr
        exact RC.toSC_rel.2 (hr.2 0 x v rfl rfl)
      cases desc with
      | int k =>
        obtain ⟨z, hz, _⟩ := hl
        obtain ⟨n, rfl⟩ := okWide_int hd hval
        exact one hz (by simp) (by simp)
      | bool =>
        obtain ⟨z, hz⟩ := hl
        obtain ⟨n, rfl⟩ := okWide_bool hd hval
        exact one hz (by simp) (by simp)
      | str =>
        obtain ⟨z, hz, _⟩ := hl
        obtain ⟨n, rfl⟩ := okWide_string hd hval
        exact one hz (by simp) (by simp)
      | slice e =>
        obtain ⟨items, len, hz, _⟩ := hl
        obtain ⟨a, n, c, rfl⟩ := okWide_slice hd hval
        exact one hz (by simp) (by simp)
      | struct fs =>
        obtain ⟨flds, hu, _⟩ := hd
        unfold Value.okWide at hval
        rw [hu] at hval
        obtain ⟨cs, e, _⟩ := hval
        exact aggv ⟨cs, e⟩
      | array m e =>
        have hu : P.underlying t = some (.array m e) := hd
        unfold Value.okWide at hval
        rw [hu] at hval
        obtain ⟨cs, e, _⟩ := hval
        exact aggv ⟨cs, e⟩
      | ptr => exact hl.elim
      | func => exact hl.elim
      | iface => exact hl.elim
      | other => exact hl.elim

/-- How deep types are looked into. -/
def DEPTH : Nat := 8

theorem open_args {H : Type} {enc : TypeId × Value → H} {bk : DataW H → Nat} (hbk : BulkOk bk) {B : Nat} (hT : TOk P T) {b : Nat} : ∀ {ts : List TypeId} {vs : List Value} {ds : List (DataW H)} {p : List MemPlace}, (ts.all fun t => okT T DEPTH t) = true →
    DataW.TrodAll enc P w 0 (fun _ => true) true ts vs ds p → (∀ v ∈ DataW.weightsEach P ts ds, v ≤ B) → (∀ (j : Nat) t v, ts[j]? = some t → vs[j]? = some v → Value.okWide P w .any b t v) →
    ∃ css : List (List RC), RTyL (RTy T B DEPTH) ts css ∧ (css.map rcSizeL).sum ≤ (ds.map bk).sum ∧ (svs T ts css).length = vs.length ∧ ∀ (j : Nat) (s : SV) (y : Value), (svs T ts css)[j]? = some s → vs[j]? = some y → s.rel (rhoW w) y
  | [], [], [], p, _, _, _, _ => ⟨[], trivial, by simp, rfl, fun j s y hs => by simp [svs] at hs⟩
  | t :: ts, v :: vs, d :: ds, p, hok, ⟨p1, p2, ⟨fuel, h1⟩, h2, _⟩, hw, hval => by
    simp only [List.all_cons, Bool.and_eq_true] at hok
    simp only [DataW.weightsEach, List.mem_append] at hw
    obtain ⟨css, g1, g4, g2, g3⟩ := open_args hbk hT hok.2 h2 (fun v hv => hw v (.inr hv)) fun j t v ht hv => hval (j + 1) t v (by simpa using ht) (by simpa using hv)
    obtain ⟨l, k1, k2, k3, _⟩ := trod_open hbk hT DEPTH fuel t _ _ hok.1 h1 fun v hv => hw v (.inl hv)
    refine ⟨l :: css, ⟨k1, g1⟩, by simp only [List.map_cons, List.sum_cons]; exact Nat.add_le_add k3 g4, by simp [svs, g2], fun j s y hs hy => ?_⟩
    cases j with
    | zero =>
      simp [svs] at hs hy
      subst hs; subst hy
      exact svOf_rel hT (hval 0 t v rfl rfl) k1 k2
    | succ j => exact g3 j s y (by simpa [svs] using hs) (by simpa using hy)
  | [], _ :: _, _, _, _, h, _, _ => h.elim
  | [], [], _ :: _, _, _, h, _, _ => h.elim
  | _ :: _, [], _, _, _, h, _, _ => h.elim
  | _ :: _, _ :: _, [], _, _, h, _, _ => h.elim

/-- A law: what the executor says of its function gives what its row asks. -/
theorem law_contract {H : Type} {enc : TypeId × Value → H} {bk : DataW H → Nat} (hbk : BulkOk bk) {M : Nat} (hT : TOk P T) {k : FuncId} {f : Func} {s : ChangeSpec} {apart : Bool} {tb : TypeId} (hl : laidOutB P = true)
    (hok : (f.params.toList.all fun t => okT T DEPTH t) = true)
    (hread : (f.params.toList.all fun t => P.readableRec t && decide (t < P.types.size)) = true) (hrt : f.resultTypes = #[tb]) (hb : P.underlying tb = some .bool) (hv : s.vars = [])
    (hfn : ∀ ds : List (DataW H), ds.length = f.params.size → s.fn H ds = { results := [.lit (.bool true)], args := ds })
    (walk : ∀ css, RTyL (RTy T reachBytes DEPTH) f.params.toList css → (css.map rcSizeL).sum ≤ M → Spec P k (svs T f.params.toList css) [] fun r _ => r = .c (.v (.bool true)))
    (W : World) (base : Nat) (args : Array Value) (ds gs : List (DataW H)) (before : List MemPlace)
    (hval : ∀ (j : Nat) t v, f.params[j]? = some t → args[j]? = some v → Value.okWide P W .any base t v)
    (hW : DataW.Whole enc P f.params.toList s.vars apart W args.toList ds gs before) (hsz : ∀ v ∈ DataW.weightsEach P f.params.toList ds, v ≤ reachBytes) (hM : (ds.map bk).sum ≤ M) :
    Calls P k args W fun e W' => ∃ v, e = .returned v ∧ s.post enc P f apart true false false W args v W' := by
  obtain ⟨p, q, h1, h2, h3, h4, h5⟩ := id hW
  obtain ⟨css, g1, g4, g2, g3⟩ := open_args hbk hT hok h1 hsz fun j t v ht hv => hval j t v (by simpa using ht) (by simpa using hv)
  refine (law_of_spec (walk css g1 (Nat.le_trans g4 hM)) (ρ := rhoW W) ⟨rfl, fun i b h => by simp at h, fun i b h => by simp at h, fun i j bi bj _ h => by simp at h, fun i b h => by simp at h, fun k hk => ⟨hk, rfl⟩, fun k i b _ h => by simp at h⟩ rfl (by simpa using g2) fun j s y hs hy => g3 j s y hs (by simpa using hy)).mono ?_
  rintro e W' ⟨rfl, E⟩
  exact ⟨_, rfl, post_true hl hread hrt hb hv hfn hW E⟩

mutual
/-- A measure of readings. -/
def dS {H : Type} : DataW H → Nat
  | .lit (.string bs) => bs.length + 1
  | .slice es sp => dSL es + dSL sp + 1
  | .agg ps => dSL ps + 1
  | _ => 1
def dSL {H : Type} : List (DataW H) → Nat
  | [] => 0
  | d :: r => dS d + dSL r
end

theorem dSL_sum {H : Type} : ∀ {l : List (DataW H)}, dSL l = (l.map dS).sum
  | [] => by simp [dSL]
  | d :: l => by simp [dSL, dSL_sum (l := l)]

theorem dS_ok {H : Type} : BulkOk (dS (H := H)) where
  lit l := by unfold dS; split <;> omega
  str bs := by simp [dS]
  nil := by simp [dS]
  sl es sp := by simp only [dS, dSL_sum]; omega
  agg ps := by simp only [dS, dSL_sum]; omega

/-- A law, where nothing more is asked. -/
theorem law_contract0 {H : Type} {enc : TypeId × Value → H} (hT : TOk P T) {k : FuncId} {f : Func} {s : ChangeSpec} {apart : Bool} {tb : TypeId} (hl : laidOutB P = true)
    (hok : (f.params.toList.all fun t => okT T DEPTH t) = true)
    (hread : (f.params.toList.all fun t => P.readableRec t && decide (t < P.types.size)) = true) (hrt : f.resultTypes = #[tb]) (hb : P.underlying tb = some .bool) (hv : s.vars = [])
    (hfn : ∀ ds : List (DataW H), ds.length = f.params.size → s.fn H ds = { results := [.lit (.bool true)], args := ds })
    (walk : ∀ css, RTyL (RTy T reachBytes DEPTH) f.params.toList css → Spec P k (svs T f.params.toList css) [] fun r _ => r = .c (.v (.bool true)))
    (W : World) (base : Nat) (args : Array Value) (ds gs : List (DataW H)) (before : List MemPlace)
    (hval : ∀ (j : Nat) t v, f.params[j]? = some t → args[j]? = some v → Value.okWide P W .any base t v)
    (hW : DataW.Whole enc P f.params.toList s.vars apart W args.toList ds gs before) (hsz : ∀ v ∈ DataW.weightsEach P f.params.toList ds, v ≤ reachBytes) :
    Calls P k args W fun e W' => ∃ v, e = .returned v ∧ s.post enc P f apart true false false W args v W' :=
  law_contract dS_ok (M := (ds.map dS).sum) hT hl hok hread hrt hb hv hfn (fun css h _ => walk css h) W base args ds gs before hval hW hsz (Nat.le_refl _)

theorem weights_of {H : Type} {ts us : List TypeId} {ds gs : List (DataW H)} (hl : ds.length = ts.length) (h : (DataW.weightsEach P (ts ++ us) (ds ++ gs)).all (· ≤ reachBytes) = true) : ∀ v ∈ DataW.weightsEach P ts ds, v ≤ reachBytes := by
  have : ∀ (ts us : List TypeId) (ds gs : List (DataW H)), ds.length = ts.length → ∀ v ∈ DataW.weightsEach P ts ds, v ∈ DataW.weightsEach P (ts ++ us) (ds ++ gs) := by
    intro ts
    induction ts with
    | nil => intro us ds gs hl v hv; cases ds with
      | nil => simp [DataW.weightsEach] at hv
      | cons d ds => simp at hl
    | cons t ts ih => intro us ds gs hl v hv; cases ds with
      | nil => simp at hl
      | cons d ds =>
        simp only [List.cons_append, DataW.weightsEach, List.mem_append] at hv ⊢
        rcases hv with hv | hv
        · exact .inl hv
        · exact .inr (ih us ds gs (by simpa using hl) v hv)
  intro v hv
  have := List.all_eq_true.1 h v (this ts us ds gs hl v hv)
  simpa using this
end
end Go.Proofs.Ythbojoiogjdbeaa.Sx
