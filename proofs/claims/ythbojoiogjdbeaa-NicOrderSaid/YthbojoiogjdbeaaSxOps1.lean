/- A symbolic executor for the model's code: what single instructions do. No condition. -/
import Derived.Test.YthbojoiogjdbeaaSxMem
namespace Go.Proofs.Ythbojoiogjdbeaa.Sx
open Go

/-! ### Types -/
def descOk (P : Program) (t : TypeId) : TD → Prop
  | .int k => P.underlying t = some (.int k)
  | .bool => P.underlying t = some .bool
  | .str => P.underlying t = some .string
  | .ptr => ∃ e, P.underlying t = some (.pointer e)
  | .slice e => P.underlying t = some (.slice e)
  | .struct fs => ∃ flds : Array Field, P.underlying t = some (.struct flds) ∧ flds.toList.map (fun f => (f.offset, f.type)) = fs ∧ ∀ f ∈ flds.toList, (P.info? f.type).isSome = true
  | .array n e => P.underlying t = some (.array n e)
  | .func => ∃ a b c, P.underlying t = some (.func a b c)
  | .iface => ∃ m, P.underlying t = some (.interface m)
  | .other => False

structure TyOk (P : Program) (t : TypeId) (ti : TI) : Prop where
  info : ∃ (inf : TypeInfo) (z : Value), P.info? t = some inf ∧ inf.size = ti.size ∧ inf.bytes = ti.bytes ∧ inf.zero = some z ∧ z.cells.toList = ti.zero ∧ ti.zero.length = ti.size ∧ ∀ x ∈ ti.zero, x.oneCell' = true
  desc : descOk P t ti.desc

def TOk (P : Program) (T : TypeId → Option TI) : Prop := ∀ t ti, T t = some ti → TyOk P t ti

variable {P : Program} {w : World} {ρ : Rho} {h : List SB}

theorem TyOk.sizeOf {t : TypeId} {ti : TI} (H : TyOk P t ti) : (sizeOf t).run P w = .ok ti.size w := by
  obtain ⟨inf, z, h1, h2, _⟩ := H.info
  simp [Go.sizeOf, typeInfo, h1, h2]
theorem TyOk.zeroValue {t : TypeId} {ti : TI} (H : TyOk P t ti) : ∃ z, (zeroValue t).run P w = .ok z w ∧ z.cells.toList = ti.zero := by
  obtain ⟨inf, z, h1, h2, h3, h4, h5, _⟩ := H.info
  exact ⟨z, by simp [Go.zeroValue, typeInfo, h1, h4], h5⟩
theorem TyOk.isAgg {t : TypeId} {ti : TI} (H : TyOk P t ti) : (isAgg t).run P w = .ok ti.desc.agg w := by
  have := H.desc
  obtain ⟨d, s, b, z⟩ := ti
  cases d <;> simp only [descOk] at this <;> first
    | exact this.elim
    | (simp [Go.isAgg, run_underlying this, TD.agg]; done)
    | (obtain ⟨_, h1, _⟩ := this; simp [Go.isAgg, run_underlying h1, TD.agg]; done)
    | (obtain ⟨_, h1⟩ := this; simp [Go.isAgg, run_underlying h1, TD.agg]; done)
    | (obtain ⟨_, _, _, h1⟩ := this; simp [Go.isAgg, run_underlying h1, TD.agg]; done)

/-! ### Small laws -/
theorem at_add (i o j : Nat) : (ρ.at i o).add j = ρ.at i (o + j) := by
  simp only [Rho.at, Addr.add_lit, Nat.add_assoc]

theorem cells_one {y : Value} (hy : y.oneCell' = true) : y.cells = #[y] := by
  cases y <;> first | rfl | (simp [Value.oneCell'] at hy)

theorem rel_cells {s : SV} {cs : List SC} {y : Value} (hc : cellsOf s = some cs) (r : s.rel ρ y) : RelL ρ cs y.cells.toList := by
  cases s with
  | c x =>
    simp only [cellsOf, Option.some.injEq] at hc
    subst hc
    rw [cells_one (SC.rel_one r)]
    exact RelL.cons r RelL.nil
  | agg xs =>
    simp only [cellsOf, Option.some.injEq] at hc
    subst hc
    obtain ⟨ys, rfl, h2⟩ := r
    exact h2
  | tup xs => simp [cellsOf] at hc
  | und g x => simp [cellsOf] at hc

theorem getD_get {l : List SC} {o : Nat} (ho : o < l.length) : l[o]? = some (l.getD o .any) := by
  simp [List.getD, List.getElem?_eq_getElem ho]

/-- The values of a stretch of a window. -/
theorem win_vals (M : Models h ρ w) {i o n : Nat} (hl : o + n ≤ lenW h i) (hi : i < ρ.n) :
    ∃ ys : List Value, RelL ρ (win h i o n) ys ∧ ys.length = n ∧ ∀ (j : Nat) (y : Value), ys[j]? = some y → w.cell? ((ρ.at i o).add j) = some y := by
  rw [M.n] at hi
  have hb : h[i]? = some h[i] := List.getElem?_eq_getElem hi
  obtain ⟨ys, h1, h2⟩ := M.cells hb
  have hlen : (lenW h i) = h[i].cells.length := by simp [lenW, hb]
  refine ⟨(ys.drop o).take n, by simp only [win, hb]; exact (h1.drop o).take n, ?_, fun j y hy => ?_⟩
  · rw [List.length_take, List.length_drop, ← h1.1]; omega
  · rw [at_add]
    simp only [List.getElem?_take, List.getElem?_drop] at hy
    split at hy
    · exact h2 _ y hy
    · cases hy

theorem run_loadCells_at {a : Addr} {ys : List Value} (hc : ∀ (j : Nat) (y : Value), ys[j]? = some y → w.cell? (a.add j) = some y) :
    (loadCells a ys.length).run P w = .ok ys.toArray w := run_loadCells_list (P := P) w a ys hc

/-- Cells are laid into a row of which nothing is frozen there. -/
theorem run_storeCells_fz (g o : Nat) (t : TypeId) (fr : Nat × Nat) : ∀ (vs : List Value) (i : Nat) (cur : Array Value) (w : World), w.heap[g]? = some (.cells cur t fr) → (fr = (0, 0) ∨ cur.size ≤ fr.1) → o + i + vs.length ≤ cur.size → (∀ v ∈ vs, v.oneCell' = true) →
    (storeCells ⟨g, o, none⟩ vs i).run P w = .ok () (w.setRow g (cur.toList.take (o + i) ++ vs ++ cur.toList.drop (o + i + vs.length)).toArray) := by
  intro vs
  induction vs with
  | nil =>
    intro i cur w hg _ _ _
    simp only [storeCells, List.append_nil, List.length_nil, Nat.add_zero, List.take_append_drop, Array.toArray_toList, setRow_self w g cur t fr hg]
    rfl
  | cons v rest ih =>
    intro i cur w hg hfr hl h1
    have hi : o + i < cur.size := by simp at hl; omega
    have h2 : (⟨g, o, none⟩ : Addr).add i = ⟨g, o + i, none⟩ := Addr.add_lit ..
    have h3 : w.cell? ⟨g, o + i, none⟩ = some cur[o + i] := by simp [World.cell?, hg, hi]
    have h4 : w.frozen? ⟨g, o + i, none⟩ = false := by
      obtain ⟨lo, hh⟩ := fr
      rcases hfr with h | h
      · cases h; simp [World.frozen?, hg]
      · simp only at h
        simp only [World.frozen?, hg, Bool.and_eq_false_iff, decide_eq_false_iff_not]
        left; omega
    have h5 : (store ((⟨g, o, none⟩ : Addr).add i) v).run P w = .ok () (w.setRow g (cur.setIfInBounds (o + i) v)) := by
      rw [h2, run_store P w _ v _ (h1 v (by simp)), h3]
      simp [h4, setCell_eq_setRow w g (o + i) cur t fr v hg]
    have h6 := ih (i + 1) (cur.setIfInBounds (o + i) v) _ (setRow_heap w g cur _ t _ hg) (by simpa using hfr) (by simp at hl ⊢; omega) (fun x hx => h1 x (by simp [hx]))
    simp only [storeCells, Sem.run_bind, h5, Result.andThen_ok, h6, setRow_setRow]
    congr 3
    simpa [Array.toList_setIfInBounds, Nat.add_assoc] using list_seg_step cur.toList (o + i) v rest (by simp at hl ⊢; omega)

theorem run_storeCells_win {i o : Nat} {cur : List Value} {ty : TypeId} (h0 : (ρ.f i).2 = 0) (hg' : rowAt w (ρ.f i).1 ty cur) {vs : List Value} (hfit : o + vs.length ≤ cur.length)
    (h1 : ∀ v ∈ vs, v.oneCell' = true) : (storeCells (ρ.at i o) vs).run P w = .ok () (w.setRow (ρ.f i).1 (cur.take o ++ vs ++ cur.drop (o + vs.length)).toArray) := by
  obtain ⟨fr, hg, hfr⟩ := hg'
  have := run_storeCells_fz (P := P) (ρ.f i).1 o ty fr vs 0 cur.toArray w hg (by simpa using hfr) (by simpa using hfit) h1
  simp only [Nat.add_zero] at this
  simpa [Rho.at, h0] using this

theorem rowAt.self {b : Nat} {ty : TypeId} {cs : List Value} (h : rowAt w b ty cs) : w.setRow b cs.toArray = w := by
  obtain ⟨fr, hg, _⟩ := h
  exact setRow_self w b cs.toArray _ _ hg

theorem range_flat (z : List Value) (hz : 0 < z.length) : ∀ n, (List.range (n * z.length)).map (fun i => z.toArray[i % z.toArray.size]!) = (List.replicate n z).flatten
  | 0 => by simp
  | n + 1 => by
    rw [List.replicate_succ, List.flatten_cons, ← range_flat z hz n, Nat.succ_mul, Nat.add_comm (n * z.length) z.length, List.range_add, List.map_append]
    congr 1
    · apply List.ext_getElem?
      intro j
      simp only [List.getElem?_map]
      by_cases hj : j < z.length
      · simp [hj, Nat.mod_eq_of_lt hj]
      · simp [hj]
    · simp [List.map_map, Function.comp_def, Nat.add_mod_left]

theorem range_flat' (z : Array Value) (n s : Nat) (hs : z.size = s) : ((Array.range (n * s)).map (fun i => z[i % z.size]!)).toList = (List.replicate n z.toList).flatten := by
  subst hs
  by_cases hz : 0 < z.size
  · have := range_flat z.toList (by simpa using hz) n
    simpa [Array.toList_range] using this
  · have : z = #[] := by apply Array.eq_empty_of_size_eq_zero; omega
    subst this
    simp

theorem mk_flat {e : TypeId} {ti : TI} (H : TyOk P e ti) (n : Nat) : ∃ (inf : TypeInfo) (z : Value), P.info? e = some inf ∧ inf.zero = some z ∧ inf.size = ti.size ∧ inf.bytes = ti.bytes ∧
    (Builtin.zeroCells z.cells n).toList = (List.replicate n ti.zero).flatten ∧ (madeCells z.cells (n * inf.size)).toList = (List.replicate n ti.zero).flatten ∧
    RelL ρ (List.replicate n (ti.zero.map SC.v)).flatten (List.replicate n ti.zero).flatten := by
  obtain ⟨inf, z, h1, h2, h3, h4, h5, h6, h7⟩ := H.info
  have hsz : z.cells.size = ti.size := by rw [← h6, ← h5]; simp
  refine ⟨inf, z, h1, h4, h2, h3, ?_, ?_, (RelL.vs h7).flat n⟩
  · rw [← h5]; unfold Builtin.zeroCells; exact range_flat' z.cells n _ rfl
  · rw [← h5, h2]; unfold madeCells; exact range_flat' z.cells n _ hsz

/-! ### Literals -/
theorem foldl_splice (l : List Value) : ∀ (k off : Nat) (cs : Array Value), off + k + l.length ≤ cs.size →
    ((l.zipIdx k).foldl (fun cs (x : Value × Nat) => cs.setIfInBounds (off + x.2) x.1) cs).toList = cs.toList.take (off + k) ++ l ++ cs.toList.drop (off + k + l.length) := by
  induction l with
  | nil => intro k off cs _; simp
  | cons v l ih =>
    intro k off cs hl
    simp only [List.length_cons] at hl
    rw [List.zipIdx_cons, List.foldl_cons, ih (k + 1) off _ (by simp; omega)]
    have e := list_seg_step cs.toList (off + k) v l (by simp; omega)
    simpa [Array.toList_setIfInBounds, Nat.add_assoc, Nat.add_comm, Nat.add_left_comm] using e

theorem fill_ok {place placeC : Nat → Option (Nat × Nat)} (hpl : ∀ i x, placeC i = some x → place i = some x) : ∀ (ps : List (Nat × SV)) (vs : List (Nat × Value)) (z : List SC) (cz : List Value) (cs : List SC),
    ps.length = vs.length → (∀ (j : Nat) (p : Nat × SV) (v : Nat × Value), ps[j]? = some p → vs[j]? = some v → p.1 = v.1 ∧ p.2.rel ρ v.2) → RelL ρ z cz → fillC z placeC ps = some cs →
    ∃ cv : Array Value, Instr.fill place cz.toArray vs = some cv ∧ RelL ρ cs cv.toList
  | [], [], z, cz, cs, _, _, hr, hf => by
    simp only [fillC, Option.some.injEq] at hf
    subst hf
    exact ⟨cz.toArray, by simp [Instr.fill], hr⟩
  | [], _ :: _, _, _, _, hl, _, _, _ => by simp at hl
  | _ :: _, [], _, _, _, hl, _, _, _ => by simp at hl
  | (i, s) :: ps, (i', v) :: vs, z, cz, cs, hl, hrel, hr, hf => by
    have h0 := hrel 0 _ _ rfl rfl
    obtain ⟨e1, e2⟩ := h0
    simp only at e1 e2
    subst e1
    simp only [fillC] at hf
    split at hf
    · rename_i off n cs' hp hc
      split at hf
      · rename_i hcond
        obtain ⟨hn, hfit⟩ := hcond
        have hrv := rel_cells hc e2
        have hsz : v.cells.size = n := by rw [← hn, hrv.1]; simp
        have hz : cz.length = z.length := hr.1.symm
        have hsp := foldl_splice v.cells.toList 0 off cz.toArray (by simp; omega)
        have hr' : RelL ρ (z.take off ++ cs' ++ z.drop (off + n)) (cz.take off ++ v.cells.toList ++ cz.drop (off + n)) := ((hr.take off).append hrv).append (hr.drop _)
        obtain ⟨cv, h1, h2⟩ := fill_ok hpl ps vs _ _ cs (by simpa using hl) (fun j p q hp hq => hrel (j + 1) p q (by simpa using hp) (by simpa using hq)) hr' hf
        refine ⟨cv, ?_, h2⟩
        rw [Instr.fill]
        simp only [hpl _ _ hp]
        rw [if_neg (by simp [hsz]; omega)]
        rw [← h1]
        congr 1
        apply Array.ext'
        rw [← Array.foldl_toList]
        simp only [Array.toList_zipIdx]
        rw [hsp]
        simp [hsz]
      · cases hf
    · cases hf

end Go.Proofs.Ythbojoiogjdbeaa.Sx
