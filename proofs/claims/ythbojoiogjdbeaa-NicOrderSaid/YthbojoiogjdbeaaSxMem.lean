/- A symbolic executor for the model's code: windows in memory. No condition. -/
import Derived.Test.YthbojoiogjdbeaaSxDefs
import Derived.Laws.CopyRow
import Derived.Laws.MakeOwn
import Derived.Below
namespace Go.Proofs.Ythbojoiogjdbeaa.Sx
open Go

theorem Rho.le_refl (ρ : Rho) : ρ.le ρ := ⟨Nat.le_refl _, fun _ _ => rfl, rfl, rfl⟩
theorem Rho.le_trans {a b c : Rho} (h : a.le b) (k : b.le c) : a.le c :=
  ⟨Nat.le_trans h.1 k.1, fun i hi => (k.2 i (Nat.lt_of_lt_of_le hi h.1)).trans (h.2 i hi), k.3.trans h.3, k.4.trans h.4⟩
theorem Rho.at_le {a b : Rho} (h : a.le b) {i : Nat} (hi : i < a.n) (o : Nat) : b.at i o = a.at i o := by simp [Rho.at, h.2 i hi]

/-! ### What nobody writes -/
mutual
theorem RC.rel_mono {w0 w1 : World} {z z' : Nat → Prop} (h : ∀ k, z k → z' k ∧ w1.heap[k]? = w0.heap[k]?) : ∀ (r : RC) (y : Value), RC.rel w0 z r y → RC.rel w1 z' r y
  | .v x, y, hr => by simpa only [RC.rel] using hr
  | .sl cells n c, y, hr => by
    simp only [RC.rel] at hr ⊢
    rcases hr with hr | ⟨h1, b, o, h2, h3, h4⟩
    · exact .inl hr
    · exact .inr ⟨h1, b, o, h2, (h b h3).1, RC.relL_mono h b h3 cells o h4⟩
theorem RC.relL_mono {w0 w1 : World} {z z' : Nat → Prop} (h : ∀ k, z k → z' k ∧ w1.heap[k]? = w0.heap[k]?) (b : Nat) (hb : z b) : ∀ (l : List RC) (o : Nat), RC.relL w0 z b o l → RC.relL w1 z' b o l
  | [], o, _ => by simp only [RC.relL]
  | r :: l, o, hr => by
    simp only [RC.relL] at hr ⊢
    obtain ⟨⟨v, h1, h2⟩, h3⟩ := hr
    refine ⟨⟨v, ?_, RC.rel_mono h r v h2⟩, RC.relL_mono h b hb l (o + 1) h3⟩
    rw [← h1]
    exact World.cell?_of_block (a := ⟨b, o, none⟩) (h b hb).2
end

theorem RC.relL_get {w0 : World} {z : Nat → Prop} {b : Nat} : ∀ {l : List RC} {o : Nat}, RC.relL w0 z b o l → ∀ {j : Nat} {r : RC}, l[j]? = some r → ∃ v, w0.cell? ⟨b, o + j, none⟩ = some v ∧ RC.rel w0 z r v
  | [], o, _, j, r, hj => by simp at hj
  | x :: l, o, h, j, r, hj => by
    simp only [RC.relL] at h
    cases j with
    | zero => simp at hj; subst hj; exact h.1
    | succ j =>
      have := RC.relL_get h.2 (j := j) (by simpa using hj)
      rwa [show o + 1 + j = o + (j + 1) from by omega] at this

theorem RC.relL_mk {w0 : World} {z : Nat → Prop} {b : Nat} : ∀ {l : List RC} {o : Nat}, (∀ (j : Nat) (r : RC), l[j]? = some r → ∃ v, w0.cell? ⟨b, o + j, none⟩ = some v ∧ RC.rel w0 z r v) → RC.relL w0 z b o l
  | [], o, _ => by simp only [RC.relL]
  | x :: l, o, h => by
    simp only [RC.relL]
    refine ⟨by simpa using h 0 x rfl, RC.relL_mk fun j r hj => ?_⟩
    have := h (j + 1) r (by simpa using hj)
    rwa [show o + (j + 1) = o + 1 + j from by omega] at this

theorem RC.relL_drop {w0 : World} {z : Nat → Prop} {b o : Nat} {l : List RC} (h : RC.relL w0 z b o l) (k : Nat) : RC.relL w0 z b (o + k) (l.drop k) :=
  RC.relL_mk fun j r hj => by
    rw [List.getElem?_drop] at hj
    have := RC.relL_get h hj
    rwa [← Nat.add_assoc] at this

theorem RC.toSC_rel {ρ : Rho} {r : RC} {y : Value} : r.toSC.rel ρ y ↔ RC.rel ρ.w0 ρ.zone r y := by
  cases r <;> simp only [RC.toSC, SC.rel, RC.rel]

theorem RC.rel_one {w0 : World} {z : Nat → Prop} {r : RC} {y : Value} (h : RC.rel w0 z r y) : y.oneCell' = true := by
  cases r with
  | v x => simp only [RC.rel] at h; rw [h.1]; exact h.2
  | sl cells n c =>
    simp only [RC.rel] at h
    rcases h with ⟨_, _, p, rfl⟩ | ⟨_, b, o, rfl, _⟩ <;> rfl

theorem SC.rel_le {a b : Rho} (h : a.le b) {c : SC} {y : Value} (r : c.rel a y) : c.rel b y := by
  cases c with
  | any => exact r
  | v x => exact r
  | ptr i o => exact ⟨Nat.lt_of_lt_of_le r.1 h.1, by rw [r.2, Rho.at_le h r.1]⟩
  | sl i o n c =>
    rcases r with r | ⟨h1, hnc, h2⟩
    · exact .inl r
    · exact .inr ⟨Nat.lt_of_lt_of_le h1 h.1, hnc, by rw [h2, Rho.at_le h h1]⟩
  | fn f caps =>
    refine ⟨fun p hp => Nat.lt_of_lt_of_le (r.1 p hp) h.1, ?_⟩
    rw [r.2]
    congr 2
    exact List.map_congr_left fun p hp => by rw [Rho.at_le h (r.1 p hp)]
  | ro cells n c => simp only [SC.rel, h.3, h.4] at r ⊢; exact r
  | rp cells => simp only [SC.rel, h.3, h.4] at r ⊢; exact r

theorem SC.rel_one {ρ : Rho} {c : SC} {y : Value} (r : c.rel ρ y) : y.oneCell' = true := by
  cases c with
  | any => exact r
  | v x => rw [r.1]; exact r.2
  | ptr i o => rw [r.2]; rfl
  | sl i o n c => rcases r with ⟨_, _, p, h2⟩ | ⟨_, _, h2⟩ <;> rw [h2] <;> rfl
  | fn f caps => rw [r.2]; rfl
  | ro cells n c => exact RC.rel_one r
  | rp cells => obtain ⟨b, o, h, _⟩ := r; rw [h]; rfl

theorem RelL.le {a b : Rho} (h : a.le b) {xs : List SC} {ys : List Value} (r : RelL a xs ys) : RelL b xs ys :=
  ⟨r.1, fun j c y hc hy => SC.rel_le h (r.2 j c y hc hy)⟩

theorem SV.rel_le {a b : Rho} (h : a.le b) {s : SV} {y : Value} (r : s.rel a y) : s.rel b y := by
  cases s with
  | c x => exact SC.rel_le h r
  | agg xs => obtain ⟨ys, h1, h2⟩ := r; exact ⟨ys, h1, h2.le h⟩
  | tup xs =>
    obtain ⟨ys, h1, h2, h3⟩ := r
    refine ⟨ys, h1, h2, fun j c z hc hz => ?_⟩
    have := h3 j c z hc hz
    obtain ⟨b', cs⟩ := c
    cases b' with
    | true => obtain ⟨zs, e1, e2⟩ := this; exact ⟨zs, e1, e2.le h⟩
    | false =>
      match cs, this with
      | [x], t => exact SC.rel_le h t
  | und g x => exact ⟨fun hg => SC.rel_le h (r.1 hg), r.2⟩

theorem RelL.one {ρ : Rho} {xs : List SC} {ys : List Value} (r : RelL ρ xs ys) : ∀ y ∈ ys, y.oneCell' = true := by
  intro y hy
  obtain ⟨j, hj, rfl⟩ := List.mem_iff_getElem.1 hy
  have hx : j < xs.length := by rw [r.1]; exact hj
  exact SC.rel_one (r.2 j xs[j] ys[j] (by simp [hx]) (by simp [hj]))

theorem RelL.nil {ρ : Rho} : RelL ρ [] [] := ⟨rfl, fun j c y hc => by simp at hc⟩
theorem RelL.cons {ρ : Rho} {x : SC} {y : Value} {xs : List SC} {ys : List Value} (h : x.rel ρ y) (r : RelL ρ xs ys) : RelL ρ (x :: xs) (y :: ys) := by
  refine ⟨by simp [r.1], fun j c z hc hz => ?_⟩
  cases j with
  | zero => simp at hc hz; subst hc; subst hz; exact h
  | succ j => exact r.2 j c z (by simpa using hc) (by simpa using hz)
theorem RelL.append {ρ : Rho} {xs xs' : List SC} {ys ys' : List Value} (r : RelL ρ xs ys) (r' : RelL ρ xs' ys') : RelL ρ (xs ++ xs') (ys ++ ys') := by
  refine ⟨by simp [r.1, r'.1], fun j c z hc hz => ?_⟩
  by_cases hj : j < xs.length
  · rw [List.getElem?_append_left hj] at hc
    rw [List.getElem?_append_left (by rw [← r.1]; exact hj)] at hz
    exact r.2 j c z hc hz
  · rw [List.getElem?_append_right (by omega)] at hc
    rw [List.getElem?_append_right (by rw [← r.1]; omega), ← r.1] at hz
    exact r'.2 _ c z hc hz
theorem RelL.take {ρ : Rho} {xs : List SC} {ys : List Value} (r : RelL ρ xs ys) (n : Nat) : RelL ρ (xs.take n) (ys.take n) := by
  refine ⟨by simp [r.1], fun j c z hc hz => ?_⟩
  simp only [List.getElem?_take] at hc hz
  split at hc
  · rename_i hj; rw [if_pos hj] at hz; exact r.2 j c z hc hz
  · cases hc
theorem RelL.drop {ρ : Rho} {xs : List SC} {ys : List Value} (r : RelL ρ xs ys) (n : Nat) : RelL ρ (xs.drop n) (ys.drop n) := by
  refine ⟨by simp [r.1], fun j c z hc hz => ?_⟩
  simp only [List.getElem?_drop] at hc hz
  exact r.2 _ c z hc hz
theorem RelL.get {ρ : Rho} {xs : List SC} {ys : List Value} (r : RelL ρ xs ys) {j : Nat} {c : SC} (h : xs[j]? = some c) : ∃ y, ys[j]? = some y ∧ c.rel ρ y := by
  have hj : j < ys.length := by rw [← r.1]; exact (List.getElem?_eq_some_iff.1 h).1
  exact ⟨ys[j], by simp [hj], r.2 j c _ h (by simp [hj])⟩
theorem RelL.vs {ρ : Rho} : ∀ {l : List Value}, (∀ x ∈ l, x.oneCell' = true) → RelL ρ (l.map SC.v) l
  | [], _ => RelL.nil
  | x :: l, h => RelL.cons ⟨rfl, h x (by simp)⟩ (RelL.vs fun y hy => h y (by simp [hy]))
theorem RelL.flat {ρ : Rho} {xs : List SC} {ys : List Value} (r : RelL ρ xs ys) : ∀ n, RelL ρ (List.replicate n xs).flatten (List.replicate n ys).flatten
  | 0 => RelL.nil
  | n + 1 => by simp only [List.replicate_succ, List.flatten_cons]; exact r.append (r.flat n)

/-! ### Worlds -/
theorem Ext.refl (S : Nat → Prop) (w : World) : Ext S w w := ⟨rfl, rfl, rfl, Nat.le_refl _, fun _ _ _ => rfl⟩
theorem Ext.trans {S : Nat → Prop} {a b c : World} (h : Ext S a b) (k : Ext S b c) : Ext S a c :=
  ⟨k.os.trans h.os, k.tape.trans h.tape, k.output.trans h.output, Nat.le_trans h.size k.size,
    fun i hi hs => (k.block i (Nat.lt_of_lt_of_le hi h.size) hs).trans (h.block i hi hs)⟩
theorem Ext.mono {S S' : Nat → Prop} {a b : World} (h : Ext S a b) (hs : ∀ k, k < a.heap.size → S k → S' k) : Ext S' a b :=
  ⟨h.os, h.tape, h.output, h.size, fun i hi hn => h.block i hi fun hS => hn (hs i hi hS)⟩
theorem Ext.drew (S : Nat → Prop) (w : World) : Ext S w w.drew := ⟨rfl, rfl, rfl, Nat.le_refl _, fun _ _ _ => rfl⟩
theorem Ext.alloc (S : Nat → Prop) (w : World) (o : Obj) : Ext S w (w.alloc o) :=
  ⟨rfl, rfl, rfl, by simp, fun k hk _ => Go.RowKit.Below.heap_alloc w o k hk⟩
theorem Ext.setRow {S : Nat → Prop} (w : World) (g : Nat) (cs : Array Value) (h : S g) : Ext S w (w.setRow g cs) :=
  ⟨rfl, rfl, rfl, by simp, fun k _ hk => setRow_other w g k cs fun e => hk (e ▸ h)⟩

theorem rowAt.of {w w' : World} {b : Nat} {ty : TypeId} {cs : List Value} (h : rowAt w b ty cs) (e : w'.heap[b]? = w.heap[b]?) : rowAt w' b ty cs := by
  obtain ⟨fr, h1, h2⟩ := h
  exact ⟨fr, e.trans h1, h2⟩

theorem Models.some_lt {h : List SB} {ρ : Rho} {w : World} (M : Models h ρ w) {i : Nat} {b : SB} (hb : h[i]? = some b) : i < ρ.n := by
  rw [M.n]; exact (List.getElem?_eq_some_iff.1 hb).1

/-- What a window holds, as values. -/
theorem Models.cells {h : List SB} {ρ : Rho} {w : World} (M : Models h ρ w) {i : Nat} {b : SB} (hb : h[i]? = some b) :
    ∃ ys : List Value, RelL ρ b.cells ys ∧ ∀ (j : Nat) (y : Value), ys[j]? = some y → w.cell? (ρ.at i j) = some y := by
  have key : ∀ (l : List SC) (o : Nat), (∀ (j : Nat) (c : SC), l[j]? = some c → ∃ y, w.cell? (ρ.at i (o + j)) = some y ∧ c.rel ρ y) →
      ∃ ys : List Value, RelL ρ l ys ∧ ∀ (j : Nat) (y : Value), ys[j]? = some y → w.cell? (ρ.at i (o + j)) = some y := by
    intro l
    induction l with
    | nil => exact fun o _ => ⟨[], RelL.nil, fun j y hy => by simp at hy⟩
    | cons c l ih =>
      intro o hl
      obtain ⟨y, h1, h2⟩ := hl 0 c rfl
      obtain ⟨ys, h3, h4⟩ := ih (o + 1) fun j c hc => by
        have := hl (j + 1) c (by simpa using hc)
        rwa [show o + (j + 1) = o + 1 + j from by omega] at this
      refine ⟨y :: ys, h3.cons h2, fun j z hz => ?_⟩
      cases j with
      | zero => simp at hz; subst hz; exact h1
      | succ j => have := h4 j z (by simpa using hz); rwa [show o + 1 + j = o + (j + 1) from by omega] at this
  obtain ⟨ys, h1, h2⟩ := key b.cells 0 fun j c hc => by simpa using M.ro i b hb j c hc
  exact ⟨ys, h1, fun j y hy => by simpa using h2 j y hy⟩

theorem void_of_own {b : SB} (h : b.own = true) : b.void = false := by simp [SB.void, h]
theorem void_of_cell {b : SB} {j : Nat} {c : SC} (h : b.cells[j]? = some c) : b.void = false := by
  have : b.cells ≠ [] := fun e => by rw [e] at h; simp at h
  simp [SB.void, this]

/-- Windows stay where no block of theirs has turned. -/
theorem Models.ext {h : List SB} {ρ : Rho} {w w' : World} (M : Models h ρ w) (E : Ext (fun _ => False) w w') : Models h ρ w' where
  n := M.n
  own i b hb ho := by
    obtain ⟨h1, cs, h2, h3⟩ := M.own i b hb ho
    exact ⟨h1, cs, h2.of (E.block _ (M.lt i b hb (void_of_own ho)) (fun h => h)), h3⟩
  ro i b hb j c hc := by
    obtain ⟨y, h1, h2⟩ := M.ro i b hb j c hc
    exact ⟨y, by rw [← h1]; exact World.cell?_of_block (E.block _ (M.lt i b hb (void_of_cell hc)) (fun h => h)), h2⟩
  sep := M.sep
  lt i b hb hv := Nat.lt_of_lt_of_le (M.lt i b hb hv) E.size
  zone k hk := ⟨Nat.lt_of_lt_of_le (M.zone k hk).1 E.size, (E.block k (M.zone k hk).1 (fun h => h)).trans (M.zone k hk).2⟩
  zsep := M.zsep

/-- What a place that nobody writes holds. -/
theorem Models.zcell {h : List SB} {ρ : Rho} {w : World} (M : Models h ρ w) {b o : Nat} (hb : ρ.zone b) : w.cell? ⟨b, o, none⟩ = ρ.w0.cell? ⟨b, o, none⟩ :=
  World.cell?_of_block (a := ⟨b, o, none⟩) (M.zone b hb).2

theorem Models.zvals {h : List SB} {ρ : Rho} {w : World} (M : Models h ρ w) {b : Nat} (hb : ρ.zone b) : ∀ {l : List RC} {o : Nat}, RC.relL ρ.w0 ρ.zone b o l →
    ∃ ys : List Value, RelL ρ (l.map RC.toSC) ys ∧ ∀ (j : Nat) (y : Value), ys[j]? = some y → w.cell? ⟨b, o + j, none⟩ = some y
  | [], o, _ => ⟨[], RelL.nil, fun j y hy => by simp at hy⟩
  | r :: l, o, h => by
    simp only [RC.relL] at h
    obtain ⟨⟨v, h1, h2⟩, h3⟩ := h
    obtain ⟨ys, g1, g2⟩ := Models.zvals M hb h3
    refine ⟨v :: ys, RelL.cons (RC.toSC_rel.2 h2) g1, fun j y hy => ?_⟩
    cases j with
    | zero => simp at hy; subst hy; rw [M.zcell hb]; exact h1
    | succ j => have := g2 j y (by simpa using hy); rwa [show o + 1 + j = o + (j + 1) from by omega] at this

def Rho.push (ρ : Rho) (b : Nat) : Rho := ⟨ρ.n + 1, fun i => if i = ρ.n then (b, 0) else ρ.f i, ρ.w0, ρ.zone⟩
theorem Rho.le_push (ρ : Rho) (b : Nat) : ρ.le (ρ.push b) := ⟨Nat.le_succ _, fun i hi => by simp [Rho.push, Nat.ne_of_lt hi], rfl, rfl⟩
theorem Rho.push_at (ρ : Rho) (b o : Nat) : (ρ.push b).at ρ.n o = ⟨b, o, none⟩ := by simp [Rho.at, Rho.push]

/-- A new block is a new window. -/
theorem Models.push {h : List SB} {ρ : Rho} {w : World} (M : Models h ρ w) (b : SB) (cs : List Value) (fr : Nat × Nat) (r : RelL ρ b.cells cs) (hfr : b.own = true → fr = (0, 0) ∨ cs.length ≤ fr.1) :
    Models (h ++ [b]) (ρ.push w.heap.size) (w.alloc (.cells cs.toArray b.ty fr)) := by
  have old : ∀ {i : Nat} {x : SB}, (h ++ [b])[i]? = some x → (i < ρ.n ∧ h[i]? = some x ∧ (ρ.push w.heap.size).f i = ρ.f i) ∨ (i = ρ.n ∧ x = b ∧ (ρ.push w.heap.size).f i = (w.heap.size, 0)) := by
    intro i x hx
    by_cases hi : i < h.length
    · rw [List.getElem?_append_left hi] at hx
      exact .inl ⟨by rw [M.n]; exact hi, hx, (ρ.le_push _).2 i (by rw [M.n]; exact hi)⟩
    · rw [List.getElem?_append_right (by omega)] at hx
      have : i - h.length = 0 := by
        have := (List.getElem?_eq_some_iff.1 hx).1
        simp at this; omega
      rw [this] at hx
      simp at hx
      refine .inr ⟨by rw [M.n]; omega, hx.symm, ?_⟩
      have : i = ρ.n := by rw [M.n]; omega
      simp [Rho.push, this]
  have hnew : (w.alloc (.cells cs.toArray b.ty fr)).heap[w.heap.size]? = some (.cells cs.toArray b.ty fr) := heap_alloc_new w _
  have E : Ext (fun _ => False) w (w.alloc (.cells cs.toArray b.ty fr)) := Ext.alloc _ w _
  have M' := M.ext E
  constructor
  · simp [Rho.push, M.n]
  · intro i x hx ho
    rcases old hx with ⟨h1, h2, h3⟩ | ⟨h1, h2, h3⟩
    · rw [h3]
      obtain ⟨g1, zs, g2, g3⟩ := M'.own i x h2 ho
      exact ⟨g1, zs, g2, g3.le (ρ.le_push _)⟩
    · rw [h3, h2]
      rw [h2] at ho
      exact ⟨rfl, cs, ⟨fr, hnew, hfr ho⟩, r.le (ρ.le_push _)⟩
  · intro i x hx j c hc
    rcases old hx with ⟨h1, h2, h3⟩ | ⟨h1, h2, h3⟩
    · obtain ⟨y, g1, g2⟩ := M'.ro i x h2 j c hc
      exact ⟨y, by simp only [Rho.at, h3]; exact g1, SC.rel_le (ρ.le_push _) g2⟩
    · rw [h2] at hc
      obtain ⟨y, g1, g2⟩ := r.get hc
      refine ⟨y, ?_, SC.rel_le (ρ.le_push _) g2⟩
      simp only [Rho.at, h3, Nat.zero_add]
      rw [cell_of_row _ _ j _ _ _ hnew]
      simpa using g1
  · intro i j bi bj hne hi hj ho hv
    rcases old hi with ⟨h1, h2, h3⟩ | ⟨h1, h2, h3⟩ <;> rcases old hj with ⟨k1, k2, k3⟩ | ⟨k1, k2, k3⟩
    · rw [h3, k3]; exact M.sep i j bi bj hne h2 k2 ho hv
    · rw [h3, k3]; exact Nat.ne_of_lt (M.lt i bi h2 (void_of_own ho))
    · rw [h3, k3]; exact (Nat.ne_of_lt (M.lt j bj k2 hv)).symm
    · omega
  · intro i x hx hv
    rcases old hx with ⟨h1, h2, h3⟩ | ⟨h1, h2, h3⟩
    · rw [h3]; exact M'.lt i x h2 hv
    · rw [h3]; simp
  · exact M'.zone
  · intro k i x hk hx ho
    rcases old hx with ⟨h1, h2, h3⟩ | ⟨h1, h2, h3⟩
    · rw [h3]; exact M.zsep k i x hk h2 ho
    · rw [h3]; exact (Nat.ne_of_lt (M.zone k hk).1).symm

theorem getElem?_lay {h : List SB} {i o : Nat} {cs : List SC} {b : SB} (hb : h[i]? = some b) :
    lay h i o cs = h.set i { b with cells := b.cells.take o ++ cs ++ b.cells.drop (o + cs.length) } := by simp [lay, hb]

/-- A window of its own is written. -/
theorem Models.write {h : List SB} {ρ : Rho} {w : World} (M : Models h ρ w) {i o : Nat} {b : SB} (hb : h[i]? = some b) (ho : b.own = true)
    {xs : List SC} {cs : List Value} (r : RelL ρ xs cs) (hfit : o + xs.length ≤ b.cells.length) :
    ∃ cur : List Value, (ρ.f i).2 = 0 ∧ rowAt w (ρ.f i).1 b.ty cur ∧ cur.length = b.cells.length ∧
      Models (lay h i o xs) ρ (w.setRow (ρ.f i).1 (cur.take o ++ cs ++ cur.drop (o + cs.length)).toArray) ∧ Ext (ownB h ρ) w (w.setRow (ρ.f i).1 (cur.take o ++ cs ++ cur.drop (o + cs.length)).toArray) := by
  obtain ⟨h0, cur, hcur', rc⟩ := M.own i b hb ho
  obtain ⟨fr, hcur, hfr⟩ := hcur'
  refine ⟨cur, h0, ⟨fr, hcur, hfr⟩, rc.1.symm, ?_, Ext.setRow _ _ _ ⟨i, b, hb, ho, rfl⟩⟩
  rw [getElem?_lay hb]
  have rn : RelL ρ (b.cells.take o ++ xs ++ b.cells.drop (o + xs.length)) (cur.take o ++ cs ++ cur.drop (o + cs.length)) := by
    rw [← r.1]; exact ((rc.take o).append r).append (rc.drop _)
  have hset := setRow_heap w (ρ.f i).1 cur.toArray (cur.take o ++ cs ++ cur.drop (o + cs.length)).toArray b.ty fr hcur
  have hlen : (cur.take o ++ cs ++ cur.drop (o + cs.length)).length = cur.length := by
    have h1 := rc.1
    have h2 := r.1
    simp only [List.length_append, List.length_take, List.length_drop]
    omega
  have hil : i < h.length := (List.getElem?_eq_some_iff.1 hb).1
  have cas : ∀ {j : Nat} {x : SB}, (h.set i { b with cells := b.cells.take o ++ xs ++ b.cells.drop (o + xs.length) })[j]? = some x →
      (j = i ∧ x = { b with cells := b.cells.take o ++ xs ++ b.cells.drop (o + xs.length) }) ∨ (j ≠ i ∧ h[j]? = some x) := by
    intro j x hx
    by_cases hj : j = i
    · subst hj
      rw [List.getElem?_set_self hil] at hx
      exact .inl ⟨rfl, (Option.some.inj hx).symm⟩
    · rw [List.getElem?_set_ne (Ne.symm hj)] at hx
      exact .inr ⟨hj, hx⟩
  have oth : ∀ {j : Nat} {x : SB}, j ≠ i → h[j]? = some x → x.void = false → (w.setRow (ρ.f i).1 (cur.take o ++ cs ++ cur.drop (o + cs.length)).toArray).heap[(ρ.f j).1]? = w.heap[(ρ.f j).1]? :=
    fun hj hx hv => setRow_other w _ _ _ (M.sep i _ b _ (Ne.symm hj) hb hx ho hv).symm
  constructor
  · simp [M.n]
  · intro j x hx hxo
    rcases cas hx with ⟨rfl, rfl⟩ | ⟨hj, hx⟩
    · exact ⟨h0, _, ⟨fr, hset, by rw [hlen]; exact hfr⟩, rn⟩
    · obtain ⟨q1, zs, q2, q3⟩ := M.own j x hx hxo
      exact ⟨q1, zs, q2.of (oth hj hx (void_of_own hxo)), q3⟩
  · intro j x hx k c hc
    rcases cas hx with ⟨rfl, rfl⟩ | ⟨hj, hx⟩
    · obtain ⟨y, g1, g2⟩ := rn.get hc
      refine ⟨y, ?_, g2⟩
      simp only [Rho.at, h0, Nat.zero_add]
      rw [cell_of_row _ _ k _ _ _ hset]
      simpa using g1
    · obtain ⟨y, g1, g2⟩ := M.ro j x hx k c hc
      exact ⟨y, by rw [← g1]; exact World.cell?_of_block (oth hj hx (void_of_cell hc)), g2⟩
  · intro j k bj bk hne hj hk hjo hv
    rcases cas hj with ⟨e1, e2⟩ | ⟨_, qj⟩ <;> rcases cas hk with ⟨e3, e4⟩ | ⟨_, qk⟩
    · exact absurd (e1.trans e3.symm) hne
    · subst e1; exact M.sep _ _ b bk hne hb qk ho hv
    · subst e3; exact M.sep _ _ bj b hne qj hb hjo (void_of_own ho)
    · exact M.sep _ _ bj bk hne qj qk hjo hv
  · intro j x hx hv
    simp only [size_setRow]
    rcases cas hx with ⟨rfl, rfl⟩ | ⟨hj, hx⟩
    · exact M.lt _ b hb (void_of_own ho)
    · exact M.lt j x hx hv
  · intro k hk
    refine ⟨by simpa using (M.zone k hk).1, ?_⟩
    rw [← (M.zone k hk).2]
    exact setRow_other w _ _ _ (M.zsep k i b hk hb ho).symm
  · intro k j x hk hx hxo
    rcases cas hx with ⟨rfl, rfl⟩ | ⟨hj, hx⟩
    · exact M.zsep k _ b hk hb ho
    · exact M.zsep k j x hk hx hxo

theorem lay_get {h : List SB} {i o : Nat} {cs : List SC} {j : Nat} {b : SB} (hb : (lay h i o cs)[j]? = some b) : ∃ b0, h[j]? = some b0 ∧ b0.own = b.own ∧ b0.ty = b.ty := by
  unfold lay at hb
  split at hb
  · rename_i x hx
    by_cases hj : j = i
    · subst hj
      rw [List.getElem?_set_self (List.getElem?_eq_some_iff.1 hx).1] at hb
      cases hb
      exact ⟨x, hx, rfl, rfl⟩
    · rw [List.getElem?_set_ne (Ne.symm hj)] at hb
      exact ⟨b, hb, rfl, rfl⟩
  · exact ⟨b, hb, rfl, rfl⟩

theorem Step.lay {h : List SB} {ρ : Rho} {w w' : World} {i o : Nat} {cs : List SC} {x : SB} (hx : h[i]? = some x) (hxo : x.own = true) (M : Models (lay h i o cs) ρ w') (E : Ext (ownB h ρ) w w') : Step h ρ w (lay h i o cs) ρ w' :=
  ⟨ρ.le_refl, M, fun _ a b => absurd a (Nat.not_le.2 b), E, fun _ _ _ hb ho => by obtain ⟨b0, h1, h2, _⟩ := lay_get hb; exact ⟨b0, h1, h2.trans ho⟩, fun j b _ hb hv => by
    by_cases hj : j = i
    · subst hj; exact ⟨x, hx, void_of_own hxo⟩
    · simp only [Sx.lay, hx] at hb
      rw [List.getElem?_set_ne (Ne.symm hj)] at hb
      exact ⟨b, hb, hv⟩⟩

theorem Step.refl {h : List SB} {ρ : Rho} {w : World} (M : Models h ρ w) : Step h ρ w h ρ w :=
  ⟨ρ.le_refl, M, fun _ a b => absurd a (Nat.not_le.2 b), Ext.refl _ _, fun _ b _ hb ho => ⟨b, hb, ho⟩, fun _ b _ hb hv => ⟨b, hb, hv⟩⟩

theorem Step.trans {h h1 h2 : List SB} {ρ ρ1 ρ2 : Rho} {w w1 w2 : World} (s : Step h ρ w h1 ρ1 w1) (t : Step h1 ρ1 w1 h2 ρ2 w2) : Step h ρ w h2 ρ2 w2 where
  le := Rho.le_trans s.le t.le
  models := t.models
  fresh i a b := by
    by_cases hi : i < ρ1.n
    · rw [t.le.2 i hi]; exact s.fresh i a hi
    · exact Nat.le_trans s.ext.size (t.fresh i (by omega) b)
  ext := ⟨t.ext.os.trans s.ext.os, t.ext.tape.trans s.ext.tape, t.ext.output.trans s.ext.output, Nat.le_trans s.ext.size t.ext.size, fun k hk hn => by
    refine (t.ext.block k (Nat.lt_of_lt_of_le hk s.ext.size) fun ⟨i, b, h3, h4, h5⟩ => hn ?_).trans (s.ext.block k hk hn)
    by_cases hi : i < ρ.n
    · obtain ⟨b0, g1, g2⟩ := s.flags i b hi h3 h4
      exact ⟨i, b0, g1, g2, by rw [← s.le.2 i hi]; exact h5⟩
    · have := s.fresh i (by omega) (s.models.some_lt h3)
      omega⟩
  flags i b hi hb ho := by
    obtain ⟨b1, g1, g2⟩ := t.flags i b (Nat.lt_of_lt_of_le hi s.le.1) hb ho
    exact s.flags i b1 hi g1 g2
  nonv i b hi hb hv := by
    obtain ⟨b1, g1, g2⟩ := t.nonv i b (Nat.lt_of_lt_of_le hi s.le.1) hb hv
    exact s.nonv i b1 hi g1 g2

end Go.Proofs.Ythbojoiogjdbeaa.Sx
