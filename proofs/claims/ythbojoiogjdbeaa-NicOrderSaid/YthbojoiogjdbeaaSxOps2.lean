/- A symbolic executor for the model's code: each operation does what its symbols say. No condition. -/
import Derived.Test.YthbojoiogjdbeaaSxOps1
import Derived.Laws.IdiomStrings
import Derived.Lib.SliceRun
import Derived.WalkSpells
import Derived.WideLaws
namespace Go.Proofs.Ythbojoiogjdbeaa.Sx
open Go

/-- An operation's outcome is what the symbols say. -/
def OutOK (P : Program) (h : List SB) (ρ : Rho) (w : World) (E : Operand → Value) (op : Op) (R : World → Result Next) : OR → Prop
  | .val p s => p → ∃ y, (∀ w', Same E w w' op → R w' = .ok (.value y) w') ∧ s.rel ρ y
  | .mem p s h' => p → ∃ (w' : World) (ρ' : Rho), Step h ρ w h' ρ' w' ∧ (leaves op = true → Ext (fun _ => False) w w') ∧
      ((isStore op = true ∧ R w = .ok .skip w') ∨ (isStore op = false ∧ ∃ y, R w = .ok (.value y) w' ∧ s.rel ρ' y))
  | .app p need cap room grow => p → (need ≤ cap → ∃ (w' : World) (y : Value), Step h ρ w room.2 ρ w' ∧ R w = .ok (.value y) w' ∧ room.1.rel ρ y) ∧
      (cap < need → ∃ (c : Nat) (w' : World) (ρ' : Rho) (y : Value), need ≤ c ∧ c ≤ maxLen ∧ Step h ρ w (grow c).2 ρ' w' ∧ R w = .ok (.value y) w' ∧ (grow c).1.rel ρ' y)
  | .conv p n grow => p → ∃ (c : Nat) (w' : World) (ρ' : Rho) (y : Value), n ≤ c ∧ c ≤ maxLen ∧ Step h ρ w (grow c).2 ρ' w' ∧ Ext (fun _ => False) w w' ∧ R w = .ok (.value y) w' ∧ (grow c).1.rel ρ' y
  | .call p f args => p → ∃ vs : Array Value, R w = (callFunc f vs).run P w ∧ args.length = vs.size ∧ ∀ (j : Nat) (s : SV) (y : Value), args[j]? = some s → vs[j]? = some y → s.rel ρ y
  | .bad => True

variable {P : Program} {w : World} {ρ : Rho} {h : List SB}

theorem Step.alloc (M : Models h ρ w) (b : SB) (cs : List Value) (r : RelL ρ b.cells cs) :
    Step h ρ w (h ++ [b]) (ρ.push w.heap.size) (w.alloc (.cells cs.toArray b.ty (0, 0))) ∧ Ext (fun _ => False) w (w.alloc (.cells cs.toArray b.ty (0, 0))) :=
  ⟨⟨ρ.le_push _, M.push b cs (0, 0) r (fun _ => .inl rfl), fun i h1 h2 => by
    have : i = ρ.n := by simp [Rho.push] at h2; omega
    subst this; simp [Rho.push], Ext.alloc _ _ _, fun i x hi hb ho => ⟨x, by rwa [List.getElem?_append_left (by rw [← M.n]; exact hi)] at hb, ho⟩, fun i x hi hb ho => ⟨x, by rwa [List.getElem?_append_left (by rw [← M.n]; exact hi)] at hb, ho⟩⟩, Ext.alloc _ _ _⟩

theorem Step.drew {h' : List SB} {ρ' : Rho} {w' : World} (s : Step h ρ w.drew h' ρ' w') : Step h ρ w h' ρ' w' :=
  ⟨s.le, s.models, s.fresh, (Ext.drew _ _).trans s.ext, s.flags, s.nonv⟩

theorem ptr_new (M : Models h ρ w) : SC.rel (ρ.push w.heap.size) (.ptr h.length 0) (.pointer (some ⟨w.heap.size, 0, none⟩)) := by
  refine ⟨by simp [Rho.push, M.n], ?_⟩
  rw [← M.n, Rho.push_at]

theorem sl_new (M : Models h ρ w) {n c : Nat} (hnc : n ≤ c) : SC.rel (ρ.push w.heap.size) (.sl h.length 0 n c) (.slice (some ⟨w.heap.size, 0, none⟩) n c) := by
  refine .inr ⟨by simp [Rho.push, M.n], hnc, ?_⟩
  rw [← M.n, Rho.push_at]

section
variable {T : TypeId → Option TI} (hT : TOk P T) (M : Models h ρ w) {E : Operand → Value}
include hT M
set_option linter.unusedSectionVars false

theorem ok_alloc {o : Oper} {e : TypeId} (ho : o.op = .alloc e) {ti : TI} (ht : T e = some ti) :
    OutOK P h ρ w E o.op ((execOp E o).run P) (.mem True (.c (.ptr h.length 0)) (h ++ [⟨true, e, ti.zero.map .v⟩])) := by
  intro _
  obtain ⟨inf, z, h1, h2, h3, h4, h5, h6, h7⟩ := (hT e ti ht).info
  have hs := Step.alloc M ⟨true, e, ti.zero.map .v⟩ ti.zero (RelL.vs h7)
  refine ⟨_, _, hs.1, fun _ => hs.2, .inr ⟨by rw [ho]; rfl, _, ?_, ptr_new M⟩⟩
  simp [execOp, ho, Instr.alloc, zeroValue, typeInfo, h1, h4, newVar, newRow, ← h5]

theorem ok_box {o : Oper} {e : TypeId} {x : Operand} (ho : o.op = .box e x) {s : SV} (r : s.rel ρ (E x)) {cs : List SC} (hc : cellsOf s = some cs) :
    OutOK P h ρ w E o.op ((execOp E o).run P) (.mem True (.c (.ptr h.length 0)) (h ++ [⟨true, e, cs⟩])) := by
  intro _
  have hs := Step.alloc M ⟨true, e, cs⟩ _ (rel_cells hc r)
  refine ⟨_, _, hs.1, fun _ => hs.2, .inr ⟨by rw [ho]; rfl, _, ?_, ptr_new M⟩⟩
  simp [execOp, ho, Instr.box, newVar, newRow]

theorem ok_load {o : Oper} {t : TypeId} {x : Operand} (ho : o.op = .load t x) {i k : Nat} (r : SC.rel ρ (.ptr i k) (E x)) {ti : TI} (ht : T t = some ti) :
    OutOK P h ρ w E o.op ((execOp E o).run P) (bif ti.desc.agg then .val (k + ti.size ≤ lenW h i) (.agg (win h i k ti.size))
        else match h[i]? with
          | some b => .val (k < b.cells.length) (.c (b.cells.getD k .any))
          | none => .bad) := by
  obtain ⟨hi, hx⟩ := r
  have H := hT t ti ht
  cases hag : ti.desc.agg
  · simp only [cond_false]
    split
    · rename_i b hb
      intro hk
      obtain ⟨y, h1, h2⟩ := M.ro i b hb k _ (getD_get hk)
      refine ⟨y, fun w' hE => ?_, h2⟩
      rw [ho] at hE
      simp only [Same, hx, blkSame] at hE
      have h1' : w'.cell? (ρ.at i k) = some y := by rw [← h1]; exact World.cell?_of_block hE
      simp [execOp, ho, hx, Instr.loadAt, Instr.sureAddr, loadVar, H.isAgg, hag, h1']
    · trivial
  · simp only [cond_true]
    intro hk
    obtain ⟨ys, h1, h2, h3⟩ := win_vals M hk hi
    refine ⟨.agg ys.toArray, fun w' hE => ?_, ⟨_, rfl, by simpa using h1⟩⟩
    rw [ho] at hE
    simp only [Same, hx, blkSame] at hE
    have h3' : ∀ (j : Nat) (y : Value), ys[j]? = some y → w'.cell? ((ρ.at i k).add j) = some y := fun j y hy => by
      have := h3 j y hy
      rw [← this]
      exact World.cell?_of_block (a := (ρ.at i k).add j) (by rw [show ((ρ.at i k).add j).block = (ρ.at i k).block from by unfold Addr.add; split <;> rfl]; exact hE)
    have hl := run_loadCells_at (P := P) h3'
    rw [h2] at hl
    simp [execOp, ho, hx, Instr.loadAt, Instr.sureAddr, loadVar, H.isAgg, hag, H.sizeOf, hl]

theorem ok_store {o : Oper} {t : TypeId} {x v : Operand} (ho : o.op = .store t x v) {i k : Nat} (r : SC.rel ρ (.ptr i k) (E x)) {s : SV} (rs : s.rel ρ (E v)) {ti : TI} (ht : T t = some ti)
    {cs : List SC} (hc : cellsOf s = some cs) :
    OutOK P h ρ w E o.op ((execOp E o).run P) (.mem (ownW h i = true ∧ cs.length = ti.size ∧ k + ti.size ≤ lenW h i) (.tup []) (lay h i k cs)) := by
  rintro ⟨h1, h2, h3⟩
  obtain ⟨hi, hx⟩ := r
  have H := hT t ti ht
  have hil : i < h.length := by rw [← M.n]; exact hi
  have hb : h[i]? = some h[i] := List.getElem?_eq_getElem hil
  simp only [ownW, hb] at h1
  simp only [lenW, hb] at h3
  have rv := rel_cells hc rs
  obtain ⟨cur, g0, g1, g2, g3, g4⟩ := M.write (o := k) hb h1 rv (by omega)
  refine ⟨_, ρ, Step.lay hb h1 g3 g4, ?_, .inl ⟨by rw [ho]; rfl, ?_⟩⟩
  · intro hl; rw [ho] at hl; cases hl
  have hst := run_storeCells_win (P := P) (vs := (E v).cells.toList) (o := k) g0 g1 (by rw [← rv.1]; omega) rv.one
  have hsz : (E v).cells.size = ti.size := by rw [← h2, rv.1]; simp
  simp only [execOp, ho, hx, Instr.storeAt, Instr.sureAddr, storeVar, Sem.run_bind, Sem.run_pure, Result.andThen_ok, H.sizeOf, hsz, ne_eq, not_true_eq_false, if_false, hst]

theorem ok_fieldAddr {o : Oper} {t : TypeId} {x : Operand} {f : Nat} (ho : o.op = .fieldAddr t x f) {i k : Nat} (r : SC.rel ρ (.ptr i k) (E x)) {fs : List (Nat × TypeId)} {sz by' : Nat} {z : List Value}
    (ht : T t = some ⟨.struct fs, sz, by', z⟩) {off ft : Nat} (hf : fs[f]? = some (off, ft)) {ti : TI} (hft : T ft = some ti) :
    OutOK P h ρ w E o.op ((execOp E o).run P) (.val (ti.size ≠ 0) (.c (.ptr i (k + off)))) := by
  intro hne
  obtain ⟨hi, hx⟩ := r
  obtain ⟨flds, g1, g2, _⟩ := (hT t _ ht).desc
  have H := hT ft ti hft
  have hfl : ∃ fl, flds[f]? = some fl ∧ fl.offset = off ∧ fl.type = ft := by
    rw [← g2, List.getElem?_map] at hf
    cases hq : flds.toList[f]? with
    | none => rw [hq] at hf; cases hf
    | some fl =>
      rw [hq] at hf
      simp only [Option.map_some, Option.some.injEq, Prod.mk.injEq] at hf
      exact ⟨fl, by simpa using hq, hf.1, hf.2⟩
  obtain ⟨fl, q1, q2, q3⟩ := hfl
  subst q2 q3
  refine ⟨_, fun _ _ => ?_, hi, rfl⟩
  simp [execOp, ho, hx, Instr.fieldAt, run_underlying g1, q1, Instr.sureAddr, fieldPlace, H.sizeOf, hne, at_add]

theorem ok_part {t : TypeId} {ti : TI} (ht : T t = some ti) {xs : List SC} {ys : Array Value} (r : RelL ρ xs ys.toList) (off : Nat) :
    (ti.desc.agg = true → ∃ zs, (∀ w, (part t ys off).run P w = .ok (.agg zs) w) ∧ RelL ρ ((xs.drop off).take ti.size) zs.toList) ∧
    (ti.desc.agg = false → off < xs.length → ∃ y, (∀ w, (part t ys off).run P w = .ok y w) ∧ SC.rel ρ (xs.getD off .any) y) := by
  have H := hT t ti ht
  refine ⟨fun ha => ⟨_, fun _ => by simp [part, H.isAgg, ha, H.sizeOf]; rfl, ?_⟩, fun ha ho => ?_⟩
  · have := (r.drop off).take ti.size
    rw [Array.toList_extract]
    rw [List.extract_eq_take_drop]
    simpa using this
  · obtain ⟨y, h1, h2⟩ := r.get (getD_get ho)
    have h1' : ys[off]? = some y := by simpa using h1
    exact ⟨y, fun _ => by simp [part, H.isAgg, ha, h1'], h2⟩

theorem ok_field {o : Oper} {t : TypeId} {x : Operand} {f : Nat} (ho : o.op = .field t x f) {xs : List SC} (r : SV.rel ρ (.agg xs) (E x)) {fs : List (Nat × TypeId)} {sz by' : Nat} {z : List Value}
    (ht : T t = some ⟨.struct fs, sz, by', z⟩) {off ft : Nat} (hf : fs[f]? = some (off, ft)) {ti : TI} (hft : T ft = some ti) :
    OutOK P h ρ w E o.op ((execOp E o).run P) (bif ti.desc.agg then .val True (.agg ((xs.drop off).take ti.size)) else .val (off < xs.length) (.c (xs.getD off .any))) := by
  obtain ⟨ys, hx, r⟩ := r
  obtain ⟨flds, g1, g2, _⟩ := (hT t _ ht).desc
  have hfl : ∃ fl, flds[f]? = some fl ∧ fl.offset = off ∧ fl.type = ft := by
    rw [← g2, List.getElem?_map] at hf
    cases hq : flds.toList[f]? with
    | none => rw [hq] at hf; cases hf
    | some fl =>
      rw [hq] at hf
      simp only [Option.map_some, Option.some.injEq, Prod.mk.injEq] at hf
      exact ⟨fl, by simpa using hq, hf.1, hf.2⟩
  obtain ⟨fl, q1, q2, q3⟩ := hfl
  subst q2 q3
  have hp := ok_part hT M hft r fl.offset
  cases hag : ti.desc.agg
  · simp only [cond_false]
    intro hk
    obtain ⟨y, e1, e2⟩ := hp.2 hag hk
    exact ⟨y, fun _ _ => by simp [execOp, ho, hx, Instr.field, run_underlying g1, q1, asAgg, e1], e2⟩
  · simp only [cond_true]
    intro _
    obtain ⟨zs, e1, e2⟩ := hp.1 hag
    exact ⟨_, fun _ _ => by simp [execOp, ho, hx, Instr.field, run_underlying g1, q1, asAgg, e1] <;> rfl, _, rfl, e2⟩

theorem ok_indexAddr_sl {o : Oper} {t : TypeId} {x ix : Operand} (ho : o.op = .indexAddr t x ix) {i k n c : Nat} (r : SC.rel ρ (.sl i k n c) (E x)) {q : IntKind} {j : Int} (rj : E ix = .int q j)
    {e : TypeId} {sz by' : Nat} {z : List Value} (ht : T t = some ⟨.slice e, sz, by', z⟩) {ti : TI} (hte : T e = some ti) :
    OutOK P h ρ w E o.op ((execOp E o).run P) (.val (0 ≤ j ∧ j < n) (.c (.ptr i (k + j.toNat * ti.size)))) := by
  intro hj
  rcases r with ⟨h1, _⟩ | ⟨hi, hnc, hx⟩
  · omega
  have hu : P.underlying t = some (.slice e) := (hT t _ ht).desc
  have H := hT e ti hte
  refine ⟨_, fun _ _ => ?_, hi, rfl⟩
  simp [execOp, ho, hx, rj, Instr.indexAt, asIntOf, run_underlying hu, hj, H.sizeOf, at_add]

theorem ok_indexAddr_ro {o : Oper} {t : TypeId} {x ix : Operand} (ho : o.op = .indexAddr t x ix) {cs : List RC} {n c : Nat} (r : SC.rel ρ (.ro cs n c) (E x)) {q : IntKind} {j : Int} (rj : E ix = .int q j)
    {e : TypeId} {sz by' : Nat} {z : List Value} (ht : T t = some ⟨.slice e, sz, by', z⟩) {ti : TI} (hte : T e = some ti) :
    OutOK P h ρ w E o.op ((execOp E o).run P) (.val (0 ≤ j ∧ j < n) (.c (.rp (cs.drop (j.toNat * ti.size))))) := by
  intro hj
  simp only [SC.rel, RC.rel] at r
  rcases r with ⟨h1, _⟩ | ⟨hnc, b, k, hx, hz, hl⟩
  · omega
  have hu : P.underlying t = some (.slice e) := (hT t _ ht).desc
  have H := hT e ti hte
  refine ⟨.pointer (some ⟨b, k + j.toNat * ti.size, none⟩), fun _ _ => ?_, b, _, rfl, hz, RC.relL_drop hl _⟩
  simp [execOp, ho, hx, rj, Instr.indexAt, asIntOf, run_underlying hu, hj, H.sizeOf, Addr.add_lit]

theorem ok_indexAddr_rp {o : Oper} {t : TypeId} {x ix : Operand} (ho : o.op = .indexAddr t x ix) {cs : List RC} (r : SC.rel ρ (.rp cs) (E x)) {q : IntKind} {j : Int} (rj : E ix = .int q j)
    {e n : Nat} {sz by' : Nat} {z : List Value} (ht : T t = some ⟨.array n e, sz, by', z⟩) {ti : TI} (hte : T e = some ti) :
    OutOK P h ρ w E o.op ((execOp E o).run P) (.val (0 ≤ j ∧ j < n) (.c (.rp (cs.drop (j.toNat * ti.size))))) := by
  intro hj
  obtain ⟨b, k, hx, hz, hl⟩ := r
  have hu : P.underlying t = some (.array n e) := (hT t _ ht).desc
  have H := hT e ti hte
  refine ⟨.pointer (some ⟨b, k + j.toNat * ti.size, none⟩), fun _ _ => ?_, b, _, rfl, hz, RC.relL_drop hl _⟩
  simp [execOp, ho, hx, rj, Instr.indexAt, asIntOf, run_underlying hu, Instr.sureAddr, hj, H.sizeOf, Addr.add_lit]

theorem ok_fieldAddr_rp {o : Oper} {t : TypeId} {x : Operand} {f : Nat} (ho : o.op = .fieldAddr t x f) {cs : List RC} (r : SC.rel ρ (.rp cs) (E x)) {fs : List (Nat × TypeId)} {sz by' : Nat} {z : List Value}
    (ht : T t = some ⟨.struct fs, sz, by', z⟩) {off ft : Nat} (hf : fs[f]? = some (off, ft)) {ti : TI} (hft : T ft = some ti) :
    OutOK P h ρ w E o.op ((execOp E o).run P) (.val (ti.size ≠ 0) (.c (.rp (cs.drop off)))) := by
  intro hne
  obtain ⟨b, k, hx, hz, hl⟩ := r
  obtain ⟨flds, g1, g2, _⟩ := (hT t _ ht).desc
  have H := hT ft ti hft
  have hfl : ∃ fl, flds[f]? = some fl ∧ fl.offset = off ∧ fl.type = ft := by
    rw [← g2, List.getElem?_map] at hf
    cases hq : flds.toList[f]? with
    | none => rw [hq] at hf; cases hf
    | some fl =>
      rw [hq] at hf
      simp only [Option.map_some, Option.some.injEq, Prod.mk.injEq] at hf
      exact ⟨fl, by simpa using hq, hf.1, hf.2⟩
  obtain ⟨fl, q1, q2, q3⟩ := hfl
  subst q2 q3
  refine ⟨.pointer (some ⟨b, k + fl.offset, none⟩), fun _ _ => ?_, b, _, rfl, hz, RC.relL_drop hl _⟩
  simp [execOp, ho, hx, Instr.fieldAt, run_underlying g1, q1, Instr.sureAddr, fieldPlace, H.sizeOf, hne, Addr.add_lit]

omit hT in
theorem ok_nilCheck_rp {o : Oper} {x : Operand} (ho : o.op = .nilCheck x) {cs : List RC} (r : SC.rel ρ (.rp cs) (E x)) : OutOK P h ρ w E o.op ((execOp E o).run P) (.val True (.c (.rp cs))) := by
  intro _
  obtain ⟨b, k, hx, hz, hl⟩ := r
  exact ⟨_, fun _ _ => by simp [execOp, ho, hx] <;> rfl, b, k, rfl, hz, hl⟩

theorem ok_load_rp {o : Oper} {t : TypeId} {x : Operand} (ho : o.op = .load t x) {cs : List RC} (r : SC.rel ρ (.rp cs) (E x)) {ti : TI} (ht : T t = some ti) :
    OutOK P h ρ w E o.op ((execOp E o).run P) (bif ti.desc.agg then .val (ti.size ≤ cs.length) (.agg ((cs.take ti.size).map RC.toSC))
        else .val (0 < cs.length) (.c (cs.getD 0 (.v undef)).toSC)) := by
  obtain ⟨b, k, hx, hz, hl⟩ := r
  have H := hT t ti ht
  cases hag : ti.desc.agg
  · simp only [cond_false]
    intro hk
    have h0 : cs[0]? = some (cs.getD 0 (.v undef)) := by simp [List.getD, List.getElem?_eq_getElem hk]
    obtain ⟨y, h1, h2⟩ := RC.relL_get hl h0
    refine ⟨y, fun w' hE => ?_, RC.toSC_rel.2 h2⟩
    rw [ho] at hE
    simp only [Same, hx, blkSame] at hE
    have h1' : w'.cell? ⟨b, k, none⟩ = some y := by
      rw [← h1, Nat.add_zero, ← M.zcell hz]; exact World.cell?_of_block (a := ⟨b, k, none⟩) hE
    simp [execOp, ho, hx, Instr.loadAt, Instr.sureAddr, loadVar, H.isAgg, hag, h1']
  · simp only [cond_true]
    intro hk
    obtain ⟨ys, h1, h3⟩ := M.zvals hz hl
    have r' : RelL ρ ((cs.take ti.size).map RC.toSC) (ys.take ti.size) := by rw [List.map_take]; exact h1.take _
    have hlen : (ys.take ti.size).length = ti.size := by
      have := h1.1
      simp only [List.length_map] at this
      rw [List.length_take]; omega
    refine ⟨.agg (ys.take ti.size).toArray, fun w' hE => ?_, ⟨_, rfl, by simpa using r'⟩⟩
    rw [ho] at hE
    simp only [Same, hx, blkSame] at hE
    have h3' : ∀ (j : Nat) (y : Value), (ys.take ti.size)[j]? = some y → w'.cell? ((⟨b, k, none⟩ : Addr).add j) = some y := fun j y hy => by
      rw [List.getElem?_take] at hy
      split at hy
      · have := h3 j y hy
        rw [← this, Addr.add_lit]
        exact World.cell?_of_block (a := ⟨b, k + j, none⟩) hE
      · cases hy
    have hl := run_loadCells_at (P := P) h3'
    rw [hlen] at hl
    simp [execOp, ho, hx, Instr.loadAt, Instr.sureAddr, loadVar, H.isAgg, hag, H.sizeOf, hl]

theorem ok_indexAddr_arr {o : Oper} {t : TypeId} {x ix : Operand} (ho : o.op = .indexAddr t x ix) {i k : Nat} (r : SC.rel ρ (.ptr i k) (E x)) {q : IntKind} {j : Int} (rj : E ix = .int q j)
    {e n : Nat} {sz by' : Nat} {z : List Value} (ht : T t = some ⟨.array n e, sz, by', z⟩) {ti : TI} (hte : T e = some ti) :
    OutOK P h ρ w E o.op ((execOp E o).run P) (.val (0 ≤ j ∧ j < n) (.c (.ptr i (k + j.toNat * ti.size)))) := by
  intro hj
  obtain ⟨hi, hx⟩ := r
  have hu : P.underlying t = some (.array n e) := (hT t _ ht).desc
  have H := hT e ti hte
  refine ⟨_, fun _ _ => ?_, hi, rfl⟩
  simp [execOp, ho, hx, rj, Instr.indexAt, asIntOf, run_underlying hu, Instr.sureAddr, hj, H.sizeOf, at_add]

theorem ok_index_arr {o : Oper} {t : TypeId} {x ix : Operand} (ho : o.op = .index t x ix) {xs : List SC} (r : SV.rel ρ (.agg xs) (E x)) {q : IntKind} {j : Int} (rj : E ix = .int q j)
    {e n : Nat} {sz by' : Nat} {z : List Value} (ht : T t = some ⟨.array n e, sz, by', z⟩) {ti : TI} (hte : T e = some ti) :
    OutOK P h ρ w E o.op ((execOp E o).run P) (bif ti.desc.agg then .val (0 ≤ j ∧ j < n) (.agg ((xs.drop (j.toNat * ti.size)).take ti.size))
          else .val (0 ≤ j ∧ j < n ∧ j.toNat * ti.size < xs.length) (.c (xs.getD (j.toNat * ti.size) .any))) := by
  obtain ⟨ys, hx, r⟩ := r
  have hu : P.underlying t = some (.array n e) := (hT t _ ht).desc
  have H := hT e ti hte
  have hp := ok_part hT M hte r (j.toNat * ti.size)
  cases hag : ti.desc.agg
  · simp only [cond_false]
    rintro ⟨h1, h2, h3⟩
    obtain ⟨y, e1, e2⟩ := hp.2 hag h3
    exact ⟨y, fun _ _ => by simp [execOp, ho, hx, rj, Instr.index, asIntOf, run_underlying hu, h1, h2, H.sizeOf, e1], e2⟩
  · simp only [cond_true]
    rintro ⟨h1, h2⟩
    obtain ⟨zs, e1, e2⟩ := hp.1 hag
    exact ⟨_, fun _ _ => by simp [execOp, ho, hx, rj, Instr.index, asIntOf, run_underlying hu, h1, h2, H.sizeOf, e1] <;> rfl, _, rfl, e2⟩

omit M in
theorem ok_index_str {o : Oper} {t : TypeId} {x ix : Operand} (ho : o.op = .index t x ix) {s : ByteArray} (r : E x = .string s) {q : IntKind} {j : Int} (rj : E ix = .int q j)
    {sz by' : Nat} {z : List Value} (ht : T t = some ⟨.str, sz, by', z⟩) :
    OutOK P h ρ w E o.op ((execOp E o).run P) (.val (0 ≤ j ∧ j < s.size) (.c (byteC (s.data.toList.getD j.toNat 0)))) := by
  rintro ⟨h1, h2⟩
  have hu : P.underlying t = some .string := (hT t _ ht).desc
  have hlt : j.toNat < s.size := by omega
  have hg : s[j.toNat]? = some s[j.toNat] := by simp [hlt]
  refine ⟨_, fun _ _ => by simp [execOp, ho, r, rj, Instr.index, asIntOf, run_underlying hu, h1, hg] <;> rfl, ?_⟩
  have : s.data.toList.getD j.toNat 0 = s[j.toNat] := by
    have h3 : j.toNat < s.data.toList.length := by simpa using hlt
    simp [List.getD, List.getElem?_eq_getElem h3]
    rfl
  rw [this]
  exact ⟨rfl, rfl⟩


omit hT in
theorem ok_move {o : Oper} {x : Operand} (ho : o.op = .move x ∨ o.op = .assign x) {s : SV} (r : s.rel ρ (E x)) : OutOK P h ρ w E o.op ((execOp E o).run P) (.val True s) := by
  intro _
  rcases ho with ho | ho <;> exact ⟨_, fun _ _ => by simp [execOp, ho] <;> rfl, r⟩

omit hT in
theorem ok_nilCheck {o : Oper} {x : Operand} (ho : o.op = .nilCheck x) {i k : Nat} (r : SC.rel ρ (.ptr i k) (E x)) : OutOK P h ρ w E o.op ((execOp E o).run P) (.val True (.c (.ptr i k))) := by
  intro _
  obtain ⟨hi, hx⟩ := r
  exact ⟨_, fun _ _ => by simp [execOp, ho, hx] <;> rfl, hi, rfl⟩

omit hT in
theorem ok_makeFunc {o : Oper} {f : FuncId} {caps : Array Operand} (ho : o.op = .makeFunc (.func f) #[] caps) {cs : List (Nat × Nat)}
    (r : cs.length = caps.size) (rr : ∀ (j : Nat) (p : Nat × Nat) (x : Operand), cs[j]? = some p → caps[j]? = some x → SC.rel ρ (.ptr p.1 p.2) (E x)) :
    OutOK P h ρ w E o.op ((execOp E o).run P) (.val True (.c (.fn f cs))) := by
  intro _
  refine ⟨_, fun _ _ => by simp [execOp, ho, Instr.makeFunc] <;> rfl, ?_, ?_⟩
  · intro p hp
    obtain ⟨j, hj, rfl⟩ := List.mem_iff_getElem.1 hp
    exact (rr j cs[j] caps[j] (by simp [hj]) (by rw [Array.getElem?_eq_getElem])).1
  · congr 1
    apply Array.ext
    · simp [r]
    · intro j h1 h2
      have hj : j < cs.length := by simpa using h2
      have hj' : j < caps.size := by omega
      have := (rr j cs[j] caps[j] (by simp [hj]) (by simp [hj'])).2
      simpa using this

theorem ok_makeSlice {o : Oper} {t : TypeId} {x y : Operand} (ho : o.op = .makeSlice t x y) {q q' : IntKind} {l c : Int} (rl : E x = .int q l) (rc : E y = .int q' c)
    {e : TypeId} {sz by' : Nat} {z : List Value} (ht : T t = some ⟨.slice e, sz, by', z⟩) {ti : TI} (hte : T e = some ti) :
    OutOK P h ρ w E o.op ((execOp E o).run P) (.mem (0 ≤ l ∧ l ≤ c ∧ c * ti.bytes ≤ 281474976710656 ∧ c < 9223372036854775808) (.c (.sl h.length 0 l.toNat c.toNat)) (h ++ [⟨true, e, (List.replicate c.toNat (ti.zero.map SC.v)).flatten⟩])) := by
  rintro ⟨h0, h1, h2, h3⟩
  have hu : P.underlying t = some (.slice e) := (hT t _ ht).desc
  obtain ⟨inf, zz, g1, g2, g3, g4, _, g6, g7⟩ := mk_flat (ρ := ρ) (hT e ti hte) c.toNat
  have hs := Step.alloc M ⟨true, e, (List.replicate c.toNat (ti.zero.map SC.v)).flatten⟩ _ g7
  refine ⟨_, _, hs.1, fun _ => hs.2, .inr ⟨by rw [ho]; rfl, _, ?_, sl_new M (by omega)⟩⟩
  have := run_make (P := P) w t e inf zz hu g1 g2 q q' l c h0 h1 (by rw [g4, Int.mul_comm]; exact h2) (by omega)
  simp only [execOp, ho, rl, rc, Sem.run_bind, this, Result.andThen_ok, Sem.run_pure]
  rw [← g6, Array.toArray_toList]

omit hT in
theorem ok_unOp {o : Oper} {u : UnOp} {t : TypeId} {x : Operand} (ho : o.op = .unOp u t x) :
    (∀ b, u = .not → E x = .bool b → OutOK P h ρ w E o.op ((execOp E o).run P) (.val True (.c (.v (.bool (!b)))))) ∧
    (∀ k n, u = .neg → E x = .int k n → OutOK P h ρ w E o.op ((execOp E o).run P) (.val True (.c (.v (.int k (k.wrap (0 - n))))))) ∧
    (∀ k n, u = .xor → E x = .int k n → OutOK P h ρ w E o.op ((execOp E o).run P) (.val True (.c (.v (.int k (bitI .xor k (if k.signed then -1 else k.max) n)))))) := by
  refine ⟨fun b hu hx _ => ?_, fun k n hu hx _ => ?_, fun k n hu hx _ => ?_⟩ <;> subst hu <;>
    exact ⟨_, fun _ _ => by simp [execOp, ho, hx, Op.unary, Op.intArith, Op.intBits] <;> rfl, rfl, rfl⟩

omit M in
theorem ok_convert_int {o : Oper} {s d : TypeId} {x : Operand} (ho : o.op = .convert s d x) {q k : IntKind} {n : Int} (rx : E x = .int q n) {ts : TI} (hs : T s = some ts) {sz by' : Nat} {z : List Value}
    (hd : T d = some ⟨.int k, sz, by', z⟩) : OutOK P h ρ w E o.op ((execOp E o).run P) (.val True (.c (.v (.int k (k.wrap n))))) := by
  intro _
  have hu : P.underlying d = some (.int k) := (hT d _ hd).desc
  have hsu : ∃ ds, P.underlying s = some ds := by
    have := (hT s _ hs).desc
    obtain ⟨dd, a, b, c⟩ := ts
    cases dd <;> simp only [descOk] at this <;> first
      | exact this.elim
      | exact ⟨_, this⟩
      | (obtain ⟨_, h1, _⟩ := this; exact ⟨_, h1⟩)
      | (obtain ⟨_, h1⟩ := this; exact ⟨_, h1⟩)
      | (obtain ⟨_, _, _, h1⟩ := this; exact ⟨_, h1⟩)
  obtain ⟨ds, hds⟩ := hsu
  exact ⟨_, fun _ _ => by simp [execOp, ho, rx, convert, run_underlying hds, run_underlying hu, Conv.intToInt] <;> rfl, rfl, rfl⟩

omit hT in
theorem ok_extract {o : Oper} {x : Operand} {j : Nat} (ho : o.op = .extract x j) {xs : List (Bool × List SC)} (r : SV.rel ρ (.tup xs) (E x)) :
    (∀ cs, xs[j]? = some (true, cs) → OutOK P h ρ w E o.op ((execOp E o).run P) (.val True (.agg cs))) ∧ (∀ y, xs[j]? = some (false, [y]) → OutOK P h ρ w E o.op ((execOp E o).run P) (.val True (.c y))) := by
  obtain ⟨ys, hx, hl, hr⟩ := r
  constructor
  · intro cs hj _
    have hjl : j < ys.size := by rw [← hl]; exact (List.getElem?_eq_some_iff.1 hj).1
    have := hr j _ ys[j] hj (by simp [hjl])
    exact ⟨_, fun _ _ => by simp [execOp, ho, hx, Instr.extract, hjl] <;> rfl, this⟩
  · intro y hj _
    have hjl : j < ys.size := by rw [← hl]; exact (List.getElem?_eq_some_iff.1 hj).1
    have := hr j _ ys[j] hj (by simp [hjl])
    exact ⟨_, fun _ _ => by simp [execOp, ho, hx, Instr.extract, hjl] <;> rfl, this⟩

omit hT in
theorem ok_call {o : Oper} {f : Operand} {args : Array Operand} {ts : Array TypeId} (ho : o.op = .call { callee := .value f, args, argTypes := ts }) {g : FuncId} {caps : List (Nat × Nat)}
    (rf : SC.rel ρ (.fn g caps) (E f)) {ss : List SV} (hl : ss.length = args.size) (hr : ∀ (j : Nat) (s : SV) (x : Operand), ss[j]? = some s → args[j]? = some x → s.rel ρ (E x)) :
    OutOK P h ρ w E o.op ((execOp E o).run P) (.call True g (ss ++ caps.map fun p => .c (.ptr p.1 p.2))) := by
  intro _
  obtain ⟨r1, r2⟩ := rf
  refine ⟨args.map E ++ (caps.map fun p => Value.pointer (some (ρ.at p.1 p.2))).toArray, ?_, by simp [hl], ?_⟩
  · simp [execOp, ho, resolve, r2, Deferred.ofValue, invoke]
  · intro j s y hs hy
    by_cases hj : j < ss.length
    · rw [List.getElem?_append_left hj] at hs
      rw [Array.getElem?_append_left (by simp; omega)] at hy
      have hj' : j < args.size := by omega
      simp only [Array.getElem?_map, Array.getElem?_eq_getElem hj', Option.map_some, Option.some.injEq] at hy
      subst hy
      exact hr j s args[j] hs (by simp [hj'])
    · rw [List.getElem?_append_right (by omega)] at hs
      rw [Array.getElem?_append_right (by simp; omega)] at hy
      simp only [Array.size_map, List.getElem?_toArray, List.getElem?_map, hl] at hs hy
      cases hq : caps[j - args.size]? with
      | none => rw [hq] at hs; cases hs
      | some p =>
        rw [hq] at hs hy
        simp only [Option.map_some, Option.some.injEq] at hs hy
        subst hs; subst hy
        exact ⟨r1 p (List.mem_of_getElem? hq), rfl⟩

end
end Go.Proofs.Ythbojoiogjdbeaa.Sx
