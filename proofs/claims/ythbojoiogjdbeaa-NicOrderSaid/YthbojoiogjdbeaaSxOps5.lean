/- A symbolic executor for the model's code: append, and all operations together. No condition. -/
import Derived.Test.YthbojoiogjdbeaaSxOps4
namespace Go.Proofs.Ythbojoiogjdbeaa.Sx
open Go
set_option linter.unusedSectionVars false
variable {P : Program} {w : World} {ρ : Rho} {h : List SB}

theorem List.set_getElem?_self' {l : List SB} {i : Nat} {b : SB} (h : l[i]? = some b) : l.set i b = l := by
  obtain ⟨h1, rfl⟩ := List.getElem?_eq_some_iff.1 h
  exact List.set_getElem_self h1

theorem run_append_in {t ty e : TypeId} {inf : TypeInfo} (hu : P.underlying t = some (.slice e)) (hi : P.info? e = some inf) {base xa : Option Addr} {n c m d : Nat} {ys : List Value} {w' : World}
    (hf : (Builtin.firstCells inf.size m (.slice xa m d)).run P w = .ok ys.toArray w) (hroom : n + m ≤ c) (hst : ∀ a, base = some a → (storeCells (a.add (n * inf.size)) ys).run P w = .ok () w') (hno : base = none → w' = w) :
    (Builtin.append_ #[t, t] ty #[.slice base n c, .slice xa m d]).run P w = .ok (.slice base (n + m) c) w' := by
  cases base with
  | none =>
    have := hno rfl
    subst this
    simp [Builtin.append_, run_underlying hu, sizeOf, typeInfo, hi, Builtin.lenOf, hroom, hf]
  | some a => simp [Builtin.append_, run_underlying hu, sizeOf, typeInfo, hi, Builtin.lenOf, hroom, hf, hst a rfl]

theorem nextslicecap_le2 {need old : Nat} (h : old < need) : Builtin.nextslicecap need old ≤ need + need / 4 + 512 := by
  unfold Builtin.nextslicecap
  split
  · omega
  · split
    · omega
    · rw [growBy_four]
      repeat' split
      all_goals omega
theorem growslice_fits2 {need old bytes : Nat} (h : old < need) (hb : need * bytes ≤ (if bytes ≤ 1024 then 190000000000000 else 140737488355328)) : Builtin.nextslicecap need old * bytes ≤ 281474976710656 := by
  split at hb
  · next hs =>
    have h1 : Builtin.nextslicecap need old * bytes ≤ (need + need / 4 + 512) * bytes := Nat.mul_le_mul_right _ (nextslicecap_le2 h)
    have h2 : need / 4 * bytes ≤ need * bytes / 4 := by
      rw [Nat.le_div_iff_mul_le (by omega), Nat.mul_right_comm]
      exact Nat.mul_le_mul_right _ (Nat.div_mul_le_self _ _)
    have h3 : (need + need / 4 + 512) * bytes = need * bytes + need / 4 * bytes + 512 * bytes := by rw [Nat.add_mul, Nat.add_mul]
    omega
  · exact growslice_fits h hb

section
variable {T : TypeId → Option TI} (hT : TOk P T) (M : Models h ρ w) {E : Operand → Value}
include hT M

omit M in
theorem grow_empty {t ty e : TypeId} {ti : TI} (hte : T e = some ti) (hu : P.underlying t = some (.slice e)) {inf : TypeInfo} {z0 : Value} (k1 : P.info? e = some inf) (k2 : inf.zero = some z0) (k3 : inf.size = ti.size) (k4 : inf.bytes = ti.bytes)
    (p : Option Addr) (a : Addr) (m d' : Nat) (ys : List Value) (hl : ys.length = m * ti.size) (hc : ∀ (j : Nat) (v : Value), ys[j]? = some v → w.cell? (a.add j) = some v) (hg : 0 < 0 + m) (hb : (0 + m) * ti.bytes ≤ (if ti.bytes ≤ 1024 then 190000000000000 else 140737488355328)) (hm : 0 + m ≤ maxLen) :
    (Builtin.append_ #[t, t] ty #[.slice p 0 0, .slice (some a) m d']).run P w =
      .ok (.slice (some ⟨w.heap.size, 0, none⟩) (0 + m) (grownCap w (0 + m) 0 e)) (w.drew.alloc (.cells (([] : List Value).toArray ++ ys.toArray ++ Builtin.zeroCells z0.cells (grownCap w (0 + m) 0 e - (0 + m))) e)) := by
  cases p with
  | none =>
    have := run_append_nil (P := P) w t ty e inf z0 hu k1 k2 a m d' ys (by rw [k3]; exact hl) hc (by omega) (by unfold maxLen at hm; omega) (by rw [k4]; rw [Nat.zero_add] at hb; split at hb <;> omega)
    simpa using this
  | some a0 =>
    exact run_append_grow (P := P) w t ty e inf z0 hu k1 k2 a0 0 0 [] (by simp) (fun j v hj => by simp at hj) a m d' ys (by rw [k3]; exact hl) hc hg (by unfold maxLen at hm; omega)
      (growslice_fits2 hg (by rw [k4]; exact hb))

theorem ok_append {o : Oper} {x y : Operand} {t : TypeId} (ho : o.op = .call { callee := .builtin .append, args := #[x, y], argTypes := #[t, t] }) {s : SV} (rs : s.rel ρ (E x))
    {e : TypeId} {sz by' : Nat} {z : List Value} (ht : T t = some ⟨.slice e, sz, by', z⟩) {ti : TI} (hte : T e = some ti) {news : List SC} {m : Nat} {ys : List Value} (S : Src P w ρ ti.size news m (E y) ys) :
    OutOK P h ρ w E o.op ((execOp E o).run P) (opAppend h e ti s news m) := by
  have hu : P.underlying t = some (.slice e) := (hT t _ ht).desc
  obtain ⟨xa, d, hy, hf⟩ := S.first
  have hf := hf m (Nat.le_refl _)
  rw [List.take_of_length_le (by rw [S.len]; exact Nat.le_refl _)] at hf
  have hfr : ∀ k, ∃ (inf : TypeInfo) (z : Value), P.info? e = some inf ∧ inf.zero = some z ∧ inf.size = ti.size ∧ inf.bytes = ti.bytes ∧
    (Builtin.zeroCells z.cells k).toList = (List.replicate k ti.zero).flatten ∧ (madeCells z.cells (k * inf.size)).toList = (List.replicate k ti.zero).flatten ∧
    RelL ρ (List.replicate k (ti.zero.map SC.v)).flatten (List.replicate k ti.zero).flatten := fun k => mk_flat (hT e ti hte) k
  have Md : Models h ρ w.drew := M.ext (Ext.drew _ _)
  -- a new row
  have grow : ∀ (olds : List SC) (vs : List Value) (c n : Nat), RelL ρ olds vs → n + m ≤ grownCap w (n + m) c e → n + m ≤ maxLen →
      (∀ (z0 : Value) (inf : TypeInfo), P.info? e = some inf → inf.zero = some z0 → (Builtin.append_ #[t, t] o.type #[E x, E y]).run P w =
        .ok (.slice (some ⟨w.heap.size, 0, none⟩) (n + m) (grownCap w (n + m) c e)) (w.drew.alloc (.cells (vs.toArray ++ ys.toArray ++ Builtin.zeroCells z0.cells (grownCap w (n + m) c e - (n + m))) e))) →
      ∃ (c' : Nat) (w' : World) (ρ' : Rho) (v : Value), n + m ≤ c' ∧ c' ≤ maxLen ∧ Step h ρ w (h ++ [⟨true, e, olds ++ news ++ (List.replicate (c' - (n + m)) (ti.zero.map SC.v)).flatten⟩]) ρ' w' ∧
        (execOp E o).run P w = .ok (.value v) w' ∧ SV.rel ρ' (.c (.sl h.length 0 (n + m) c')) v := by
    intro olds vs c n ro hge hml hrun
    have hle := grownCap_le_maxLen w (n + m) c e hml
    obtain ⟨inf, z0, k1, k2, k3, k4, k5, k6, k7⟩ := hfr (grownCap w (n + m) c e - (n + m))
    have hr := hrun z0 inf k1 k2
    have hrow : RelL ρ (olds ++ news ++ (List.replicate (grownCap w (n + m) c e - (n + m)) (ti.zero.map SC.v)).flatten) (vs ++ ys ++ (Builtin.zeroCells z0.cells (grownCap w (n + m) c e - (n + m))).toList) := by
      rw [k5]; exact (ro.append S.rel).append k7
    have hs := Step.alloc Md ⟨true, e, olds ++ news ++ (List.replicate (grownCap w (n + m) c e - (n + m)) (ti.zero.map SC.v)).flatten⟩ _ hrow
    have harr : (vs ++ ys ++ (Builtin.zeroCells z0.cells (grownCap w (n + m) c e - (n + m))).toList).toArray = vs.toArray ++ ys.toArray ++ Builtin.zeroCells z0.cells (grownCap w (n + m) c e - (n + m)) := by
      apply Array.ext'; simp
    rw [harr] at hs
    exact ⟨_, _, _, _, hge, hle, hs.1.drew, run_builtin ho (vs := #[E x, E y]) (by simp) (fun _ => rfl) hr, sl_new Md hge⟩
  unfold opAppend
  split
  · -- nil
    obtain ⟨hx, _⟩ := rs
    rintro ⟨hb, hm⟩
    refine ⟨fun h0 => ?_, fun h0 => ?_⟩
    · have hm0 : m = 0 := by omega
      subst hm0
      obtain ⟨inf, z0, k1, k2, k3, _⟩ := hfr 0
      refine ⟨w, .slice none 0 0, Step.refl M, ?_, rfl, rfl⟩
      refine run_builtin ho (vs := #[E x, E y]) (by simp) (fun _ => rfl) ?_
      rw [hx, hy]
      exact run_append_in (n := 0) (c := 0) hu k1 (by rw [k3]; exact hf) (by omega) (fun a h => by cases h) (fun _ => rfl)
    · obtain ⟨inf, z0, k1, k2, k3, k4, _⟩ := hfr 0
      have hge := grownCap_ge w m 0 e
      have := grow [] [] 0 0 RelL.nil (by simpa using hge) (by omega) (fun z1 inf1 q1 q2 => by
        rw [k1] at q1; cases q1; rw [k2] at q2; cases q2
        rcases S.val with ⟨e1, _⟩ | ⟨a, d', e1, hc⟩
        · omega
        · rw [hx, e1]
          have := run_append_nil (P := P) w t o.type e inf z0 hu k1 k2 a m d' ys (by rw [k3]; exact S.len) hc h0 (by unfold maxLen at hm; omega) (by rw [k4]; split at hb <;> omega)
          simpa using this)
      simpa using this
  · -- a slice
    rename_i i k n c
    rintro ⟨hb, hm, hol, hin⟩
    obtain ⟨inf, z0, k1, k2, k3, k4, _⟩ := hfr 0
    refine ⟨fun hroom => ?_, fun hg => ?_⟩
    · by_cases hm0 : m = 0
      · subst hm0
        have hys : ys = [] := List.eq_nil_of_length_eq_zero (by simpa using S.len)
        subst hys
        have hnews : news = [] := by
          have := S.rel.1
          simpa using this
        subst hnews
        have hlay : lay h i (k + n * ti.size) [] = h := by
          unfold lay
          split
          · rename_i b hb
            simp only [List.append_nil, List.length_nil, Nat.add_zero, List.take_append_drop]
            exact List.set_getElem?_self' hb
          · rfl
        rw [hlay]
        have hx : ∃ xb, E x = .slice xb n c := by
          rcases rs with ⟨rfl, rfl, p, hx⟩ | ⟨hi, hnc, hx⟩
          · exact ⟨p, hx⟩
          · exact ⟨_, hx⟩
        obtain ⟨xb, hx⟩ := hx
        refine ⟨w, E x, Step.refl M, ?_, rs⟩
        refine run_builtin ho (vs := #[E x, E y]) (by simp) (fun _ => rfl) ?_
        rw [hx, hy]
        have := run_append_in (P := P) (w := w) (w' := w) (ty := o.type) (base := xb) (n := n) (c := c) hu k1 (by rw [k3]; exact hf) hroom (fun a ha => by simp [storeCells]) (fun _ => rfl)
        simpa using this
      obtain ⟨h1, h2⟩ := hin hroom
      have h1 := h1.resolve_left hm0
      have hbb : ∃ b, h[i]? = some b := by
        unfold ownW at h1
        split at h1
        · rename_i b hb; exact ⟨b, hb⟩
        · cases h1
      obtain ⟨bb, hbb⟩ := hbb
      simp only [ownW, hbb] at h1
      simp only [lenW, hbb] at h2
      obtain ⟨cur, g0, g1, g2, g3, g4⟩ := M.write (o := k + n * ti.size) hbb h1 S.rel (by rw [S.rel.1, S.len, Nat.add_assoc, ← Nat.add_mul]; exact h2)
      have hfin : ∃ xb, E x = .slice xb n c ∧ SC.rel ρ (.sl i k (n + m) c) (.slice xb (n + m) c) ∧ (∀ a, xb = some a → (storeCells (a.add (n * inf.size)) ys).run P w = .ok () (w.setRow (ρ.f i).1 (cur.take (k + n * ti.size) ++ ys ++ cur.drop (k + n * ti.size + ys.length)).toArray)) ∧
          (xb = none → w.setRow (ρ.f i).1 (cur.take (k + n * ti.size) ++ ys ++ cur.drop (k + n * ti.size + ys.length)).toArray = w) := by
        rcases rs with ⟨rfl, rfl, p, hx⟩ | ⟨hi, hnc, hx⟩
        · have hm0 : m = 0 := by omega
          subst hm0
          have : ys = [] := List.eq_nil_of_length_eq_zero (by simpa using S.len)
          subst this
          have e1 : w.setRow (ρ.f i).1 (cur.take (k + 0 * ti.size) ++ [] ++ cur.drop (k + 0 * ti.size + ([] : List Value).length)).toArray = w := by
            simp only [List.append_nil, List.length_nil, Nat.add_zero, List.take_append_drop]
            exact g1.self
          rw [e1]
          exact ⟨p, hx, .inl ⟨rfl, rfl, p, rfl⟩, fun a _ => by simp [storeCells], fun _ => rfl⟩
        · refine ⟨_, hx, .inr ⟨hi, hroom, rfl⟩, fun a ha => ?_, fun h => by cases h⟩
          cases ha
          have hle : k + n * ti.size + ys.length ≤ cur.length := by rw [S.len, g2, Nat.add_assoc, ← Nat.add_mul]; exact h2
          rw [k3, at_add]
          exact run_storeCells_win g0 g1 hle S.rel.one
      obtain ⟨xb, hx, hrel, hst, hno⟩ := hfin
      refine ⟨_, _, Step.lay hbb h1 g3 g4, ?_, hrel⟩
      refine run_builtin ho (vs := #[E x, E y]) (by simp) (fun _ => rfl) ?_
      rw [hx, hy]
      exact run_append_in hu k1 (by rw [k3]; exact hf) hroom hst hno
    · have hge := grownCap_ge w (n + m) c e
      rcases rs with ⟨rfl, rfl, p, hx⟩ | ⟨hi, hnc, hx⟩
      · have hw : win h i k (0 * ti.size) = [] := by unfold win; split <;> simp
        rw [hw]
        refine grow [] [] 0 0 RelL.nil hge hm (fun z1 inf1 q1 q2 => ?_)
        rw [k1] at q1; cases q1; rw [k2] at q2; cases q2
        rcases S.val with ⟨e1, _⟩ | ⟨a, d', e1, hc⟩
        · omega
        · rw [hx, e1]
          exact grow_empty hT hte hu k1 k2 k3 k4 p a m d' ys S.len hc hg hb hm
      obtain ⟨vs, r1, r2, r3⟩ := win_vals M hol hi
      refine grow (win h i k (n * ti.size)) vs c n r1 hge hm (fun z1 inf1 q1 q2 => ?_)
      rw [k1] at q1; cases q1; rw [k2] at q2; cases q2
      rcases S.val with ⟨e1, _⟩ | ⟨a, d', e1, hc⟩
      · omega
      · rw [hx, e1]
        exact run_append_grow (P := P) w t o.type e inf z0 hu k1 k2 (ρ.at i k) n c vs (by rw [k3]; exact r2) r3 a m d' ys (by rw [k3]; exact S.len) hc hg (by unfold maxLen at hm; omega)
          (growslice_fits2 hg (by rw [k4]; exact hb))
  · -- a slice that nobody writes
    rename_i cs n c
    rintro ⟨hb, hm, hol, hin⟩
    obtain ⟨inf, z0, k1, k2, k3, k4, _⟩ := hfr 0
    refine ⟨fun hroom => ?_, fun hg => ?_⟩
    · have hm0 := hin hroom
      subst hm0
      have hys : ys = [] := List.eq_nil_of_length_eq_zero (by simpa using S.len)
      subst hys
      have hx : ∃ xb, E x = .slice xb n c := by
        simp only [SV.rel, SC.rel, RC.rel] at rs
        rcases rs with ⟨rfl, rfl, p, hx⟩ | ⟨hnc, b, o', hx, hz, hL⟩
        · exact ⟨p, hx⟩
        · exact ⟨_, hx⟩
      obtain ⟨xb, hx⟩ := hx
      refine ⟨w, E x, Step.refl M, ?_, rs⟩
      refine run_builtin ho (vs := #[E x, E y]) (by simp) (fun _ => rfl) ?_
      rw [hx, hy]
      have := run_append_in (P := P) (w := w) (w' := w) (ty := o.type) (base := xb) (n := n) (c := c) hu k1 (by rw [k3]; exact hf) hroom (fun a ha => by simp [storeCells]) (fun _ => rfl)
      simpa using this
    · have hge := grownCap_ge w (n + m) c e
      simp only [SV.rel, SC.rel, RC.rel] at rs
      rcases rs with ⟨rfl, rfl, p, hx⟩ | ⟨hnc, b, o', hx, hz, hL⟩
      · have hw : (cs.take (0 * ti.size)).map RC.toSC = [] := by simp
        rw [hw]
        refine grow [] [] 0 0 RelL.nil hge hm (fun z1 inf1 q1 q2 => ?_)
        rw [k1] at q1; cases q1; rw [k2] at q2; cases q2
        rcases S.val with ⟨e1, _⟩ | ⟨a, d', e1, hc⟩
        · omega
        · rw [hx, e1]
          exact grow_empty hT hte hu k1 k2 k3 k4 p a m d' ys S.len hc hg hb hm
      obtain ⟨vs, r1, r3⟩ := M.zvals hz hL
      have hlen := r1.1
      simp only [List.length_map] at hlen
      refine grow ((cs.take (n * ti.size)).map RC.toSC) (vs.take (n * ti.size)) c n (by rw [List.map_take]; exact r1.take _) hge hm (fun z1 inf1 q1 q2 => ?_)
      rw [k1] at q1; cases q1; rw [k2] at q2; cases q2
      rcases S.val with ⟨e1, _⟩ | ⟨a, d', e1, hc⟩
      · omega
      · rw [hx, e1]
        exact run_append_grow (P := P) w t o.type e inf z0 hu k1 k2 ⟨b, o', none⟩ n c (vs.take (n * ti.size)) (by rw [k3, List.length_take]; omega) (fun j v hj => by
            rw [List.getElem?_take] at hj
            split at hj
            · rw [Addr.add_lit]; exact r3 j v hj
            · cases hj) a m d' ys (by rw [k3]; exact S.len) hc hg (by unfold maxLen at hm; omega)
          (growslice_fits2 hg (by rw [k4]; exact hb))
  · trivial

end
end Go.Proofs.Ythbojoiogjdbeaa.Sx
