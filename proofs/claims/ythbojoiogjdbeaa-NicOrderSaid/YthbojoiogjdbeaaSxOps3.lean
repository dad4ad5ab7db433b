/- A symbolic executor for the model's code: each operation does what its symbols say (slices, literals, operators, builtins). No condition. -/
import Derived.Test.YthbojoiogjdbeaaSxOps2
import Derived.Laws.AppendOwn
namespace Go.Proofs.Ythbojoiogjdbeaa.Sx
open Go
set_option linter.unusedSectionVars false
variable {P : Program} {w : World} {ρ : Rho} {h : List SB}

/-- Operands and their symbols. -/
def RelO (ρ : Rho) (E : Operand → Value) (ss : List SV) (os : List Operand) : Prop :=
  ss.length = os.length ∧ ∀ (j : Nat) (s : SV) (x : Operand), ss[j]? = some s → os[j]? = some x → s.rel ρ (E x)
theorem RelO.nil {E : Operand → Value} : RelO ρ E [] [] := ⟨rfl, fun j s x hs => by simp at hs⟩
theorem RelO.cons {E : Operand → Value} {s : SV} {x : Operand} {ss : List SV} {os : List Operand} (a : s.rel ρ (E x)) (b : RelO ρ E ss os) : RelO ρ E (s :: ss) (x :: os) := by
  refine ⟨by simp [b.1], fun j s' x' hs hx => ?_⟩
  cases j with
  | zero => simp at hs hx; subst hs; subst hx; exact a
  | succ j => exact b.2 j s' x' (by simpa using hs) (by simpa using hx)
theorem RelO.inv {E : Operand → Value} {s : SV} {x : Operand} {ss : List SV} {os : List Operand} (a : RelO ρ E (s :: ss) (x :: os)) : s.rel ρ (E x) ∧ RelO ρ E ss os :=
  ⟨a.2 0 s x rfl rfl, by simpa using a.1, fun j s' x' hs hx => a.2 (j + 1) s' x' (by simpa using hs) (by simpa using hx)⟩
theorem RelO.one {E : Operand → Value} {s : SV} {x : Operand} (a : RelO ρ E [s] [x]) : s.rel ρ (E x) := a.inv.1
theorem RelO.two {E : Operand → Value} {s s' : SV} {x x' : Operand} (a : RelO ρ E [s, s'] [x, x']) : s.rel ρ (E x) ∧ s'.rel ρ (E x') := ⟨a.inv.1, a.inv.2.one⟩

/-! ### Slices -/
/-- A bound that is there, or not. -/
def Bd (v : Option Value) (n d : Int) : Prop := (v = none ∧ n = d) ∨ ∃ q, v = some (.int q n)

theorem run_bounds (isSlice : Bool) (len cap : Nat) (lo hi mx : Option Value) (l u m : Int) (hl : Bd lo l 0) (hu : Bd hi u len) (hm : Bd mx m cap) (hmx : mx.isSome = true → hi.isSome = true)
    (h0 : 0 ≤ l) (h1 : l ≤ u) (h2 : u ≤ m) (h3 : m ≤ cap) :
    (Instr.sliceBounds isSlice len cap lo hi mx).run P w = .ok (l.toNat, u.toNat, m.toNat) w := by
  have hb : ∀ (q : IntKind) (x : Int) (y : Nat) (code : BoundsCode), 0 ≤ x → x ≤ y → (Instr.sliceBound (.int q x) y code).run P w = .ok x.toNat w := by
    intro q x y code a b
    simp [Instr.sliceBound, asIntOf, a, b]
  have eu : u ≤ ((m.toNat : Nat) : Int) := by omega
  have el : l ≤ ((u.toNat : Nat) : Int) := by omega
  rcases hm with ⟨rfl, rfl⟩ | ⟨qm, rfl⟩
  · have eu' : u ≤ (cap : Int) := h2
    rcases hu with ⟨rfl, rfl⟩ | ⟨qu, rfl⟩
    · rcases hl with ⟨rfl, rfl⟩ | ⟨ql, rfl⟩
      · simp [Instr.sliceBounds]
      · simp [Instr.sliceBounds, hb ql l len _ h0 h1]
    · rcases hl with ⟨rfl, rfl⟩ | ⟨ql, rfl⟩
      · simp [Instr.sliceBounds, hb qu u cap _ (by omega) h2]
      · simp [Instr.sliceBounds, hb qu u cap _ (by omega) h2, hb ql l u.toNat _ h0 el]
  · rcases hu with ⟨rfl, rfl⟩ | ⟨qu, rfl⟩
    · simp at hmx
    · rcases hl with ⟨rfl, rfl⟩ | ⟨ql, rfl⟩
      · simp [Instr.sliceBounds, hb qm m cap _ (by omega) h3, hb qu u m.toNat _ (by omega) eu]
      · simp [Instr.sliceBounds, hb qm m cap _ (by omega) h3, hb qu u m.toNat _ (by omega) eu, hb ql l u.toNat _ h0 el]

theorem sliceOps_ok {E : Operand → Value} {lo hi mx : Option Operand} {ss : List SV} (r : RelO ρ E ss (lo.toList ++ hi.toList ++ mx.toList)) {l u m : Option SV}
    (hs : sliceOps lo.isSome hi.isSome mx.isSome ss = some (l, u, m)) :
    (∀ d n, intOr l d = some n → Bd (lo.map E) n d) ∧ (∀ d n, intOr u d = some n → Bd (hi.map E) n d) ∧ (∀ d n, intOr m d = some n → Bd (mx.map E) n d) ∧ (m.isSome = mx.isSome) ∧ (mx.isSome = true → hi.isSome = true) := by
  have one : ∀ {s : SV} {x : Operand} {d n : Int}, s.rel ρ (E x) → intOr (some s) d = some n → Bd (some (E x)) n d := by
    intro s x d n hr hn
    unfold intOr at hn
    split at hn
    · cases ‹some s = none›
    · rename_i q n' e
      cases e
      simp only [Option.some.injEq] at hn
      subst hn
      exact .inr ⟨_, by rw [hr.1]⟩
    · cases hn
  have non : ∀ {d n : Int}, intOr none d = some n → Bd none n d := by
    intro d n hn
    simp only [intOr, Option.some.injEq] at hn
    exact .inl ⟨rfl, hn.symm⟩
  unfold sliceOps at hs
  split at hs
  · rename_i e1 e2 e3; rw [Option.isSome_eq_false_iff, Option.isNone_iff_eq_none] at e1 e2 e3; subst e1 e2 e3
    cases hs
    exact ⟨fun d n => non, fun d n => non, fun d n => non, rfl, by simp⟩
  · rename_i e1 e2 e3; rw [Option.isSome_eq_false_iff, Option.isNone_iff_eq_none] at e2 e3; obtain ⟨x, rfl⟩ := Option.isSome_iff_exists.1 e1; subst e2 e3
    cases hs
    exact ⟨fun d n => one r.one, fun d n => non, fun d n => non, rfl, by simp⟩
  · rename_i e1 e2 e3; rw [Option.isSome_eq_false_iff, Option.isNone_iff_eq_none] at e1 e3; obtain ⟨x, rfl⟩ := Option.isSome_iff_exists.1 e2; subst e1 e3
    cases hs
    exact ⟨fun d n => non, fun d n => one r.one, fun d n => non, rfl, by simp⟩
  · rename_i e1 e2 e3; rw [Option.isSome_eq_false_iff, Option.isNone_iff_eq_none] at e3; obtain ⟨x, rfl⟩ := Option.isSome_iff_exists.1 e1; obtain ⟨y, rfl⟩ := Option.isSome_iff_exists.1 e2; subst e3
    cases hs
    exact ⟨fun d n => one r.two.1, fun d n => one r.two.2, fun d n => non, rfl, by simp⟩
  · rename_i e1 e2 e3; rw [Option.isSome_eq_false_iff, Option.isNone_iff_eq_none] at e1; obtain ⟨x, rfl⟩ := Option.isSome_iff_exists.1 e2; obtain ⟨y, rfl⟩ := Option.isSome_iff_exists.1 e3; subst e1
    cases hs
    exact ⟨fun d n => non, fun d n => one r.two.1, fun d n => one r.two.2, rfl, by simp⟩
  · rename_i e1 e2 e3; obtain ⟨x, rfl⟩ := Option.isSome_iff_exists.1 e1; obtain ⟨y, rfl⟩ := Option.isSome_iff_exists.1 e2; obtain ⟨z, rfl⟩ := Option.isSome_iff_exists.1 e3
    cases hs
    exact ⟨fun d n => one r.inv.1, fun d n => one r.inv.2.two.1, fun d n => one r.inv.2.two.2, rfl, by simp⟩
  · cases hs

section
variable {T : TypeId → Option TI} (hT : TOk P T) (M : Models h ρ w) {E : Operand → Value}
include hT

theorem ok_slice_sl {o : Oper} {t : TypeId} {x : Operand} {lo hi mx : Option Operand} (ho : o.op = .slice t x lo hi mx) {i k n c : Nat} (r : SC.rel ρ (.sl i k n c) (E x))
    {e : TypeId} {sz by' : Nat} {z : List Value} (ht : T t = some ⟨.slice e, sz, by', z⟩) {ti : TI} (hte : T e = some ti) {l u m : Int}
    (hl : Bd (lo.map E) l 0) (hu : Bd (hi.map E) u n) (hm : Bd (mx.map E) m c) (hmx : mx.isSome = true → hi.isSome = true) :
    OutOK P h ρ w E o.op ((execOp E o).run P) (.val (0 ≤ l ∧ l ≤ u ∧ u ≤ m ∧ m ≤ c) (.c (.sl i (k + l.toNat * ti.size) (u.toNat - l.toNat) (m.toNat - l.toNat)))) := by
  rintro ⟨h0, h1, h2, h3⟩
  have hut : P.underlying t = some (.slice e) := (hT t _ ht).desc
  have H := hT e ti hte
  have hb := fun w => run_bounds (P := P) (w := w) true n c (lo.map E) (hi.map E) (mx.map E) l u m hl hu hm (by simpa using hmx) h0 h1 h2 h3
  rcases r with ⟨rfl, rfl, p, hx⟩ | ⟨hi', hnc, hx⟩
  · have el : l = 0 := by omega
    have eu : u = 0 := by omega
    have em : m = 0 := by omega
    subst el eu em
    refine ⟨.slice p 0 0, fun w' _ => ?_, .inl ⟨rfl, rfl, p, rfl⟩⟩
    have hb := hb w'
    simp only [Int.toNat_zero] at hb
    cases p with
    | none => simp [execOp, ho, hx, Instr.sliceAt, Instr.slice, run_underlying hut, hb, H.sizeOf]
    | some a => simp [execOp, ho, hx, Instr.sliceAt, Instr.slice, run_underlying hut, hb, H.sizeOf]
  have hrun : ∀ w, (execOp E o).run P w = .ok (.value (.slice (some (if m.toNat = l.toNat then ρ.at i k else (ρ.at i k).add (l.toNat * ti.size))) (u.toNat - l.toNat) (m.toNat - l.toNat))) w := by
    intro w
    simp only [execOp, ho, hx, Instr.sliceAt, Instr.slice, Sem.run_bind, run_underlying hut, Result.andThen_ok, hb, H.sizeOf, Sem.run_pure]
    split <;> simp
  refine ⟨_, fun w' _ => hrun w', ?_⟩
  by_cases hml : m.toNat = l.toNat
  · rw [if_pos hml]
    refine .inl ⟨by omega, by omega, some (ρ.at i k), ?_⟩
    congr 1 <;> omega
  · rw [if_neg hml, at_add]
    exact .inr ⟨hi', by omega, rfl⟩

theorem ok_slice_ro {o : Oper} {t : TypeId} {x : Operand} {lo hi mx : Option Operand} (ho : o.op = .slice t x lo hi mx) {cs : List RC} {n c : Nat} (r : SC.rel ρ (.ro cs n c) (E x))
    {e : TypeId} {sz by' : Nat} {z : List Value} (ht : T t = some ⟨.slice e, sz, by', z⟩) {ti : TI} (hte : T e = some ti) {l u m : Int}
    (hl : Bd (lo.map E) l 0) (hu : Bd (hi.map E) u n) (hm : Bd (mx.map E) m c) (hmx : mx.isSome = true → hi.isSome = true) :
    OutOK P h ρ w E o.op ((execOp E o).run P) (.val (0 ≤ l ∧ l ≤ u ∧ u ≤ m ∧ m ≤ c) (.c (.ro (cs.drop (l.toNat * ti.size)) (u.toNat - l.toNat) (m.toNat - l.toNat)))) := by
  rintro ⟨h0, h1, h2, h3⟩
  have hut : P.underlying t = some (.slice e) := (hT t _ ht).desc
  have H := hT e ti hte
  have hb := fun w => run_bounds (P := P) (w := w) true n c (lo.map E) (hi.map E) (mx.map E) l u m hl hu hm (by simpa using hmx) h0 h1 h2 h3
  simp only [SC.rel, RC.rel] at r
  rcases r with ⟨rfl, rfl, p, hx⟩ | ⟨hnc, b, k, hx, hz, hL⟩
  · have el : l = 0 := by omega
    have eu : u = 0 := by omega
    have em : m = 0 := by omega
    subst el eu em
    refine ⟨.slice p 0 0, fun w' _ => ?_, by simp only [SV.rel, SC.rel, RC.rel]; exact .inl ⟨rfl, rfl, p, rfl⟩⟩
    have hb := hb w'
    simp only [Int.toNat_zero] at hb
    cases p with
    | none => simp [execOp, ho, hx, Instr.sliceAt, Instr.slice, run_underlying hut, hb, H.sizeOf]
    | some a => simp [execOp, ho, hx, Instr.sliceAt, Instr.slice, run_underlying hut, hb, H.sizeOf]
  have hrun : ∀ w, (execOp E o).run P w = .ok (.value (.slice (some (if m.toNat = l.toNat then ⟨b, k, none⟩ else (⟨b, k, none⟩ : Addr).add (l.toNat * ti.size))) (u.toNat - l.toNat) (m.toNat - l.toNat))) w := by
    intro w
    simp only [execOp, ho, hx, Instr.sliceAt, Instr.slice, Sem.run_bind, run_underlying hut, Result.andThen_ok, hb, H.sizeOf, Sem.run_pure]
    split <;> simp
  refine ⟨_, fun w' _ => hrun w', ?_⟩
  simp only [SV.rel, SC.rel, RC.rel]
  by_cases hml : m.toNat = l.toNat
  · rw [if_pos hml]
    refine .inl ⟨by omega, by omega, some ⟨b, k, none⟩, ?_⟩
    congr 1 <;> omega
  · rw [if_neg hml, Addr.add_lit]
    exact .inr ⟨by omega, b, k + l.toNat * ti.size, rfl, hz, RC.relL_drop hL _⟩

theorem ok_slice_nil {o : Oper} {t : TypeId} {x : Operand} {lo hi mx : Option Operand} (ho : o.op = .slice t x lo hi mx) (r : E x = .slice none 0 0)
    {e : TypeId} {sz by' : Nat} {z : List Value} (ht : T t = some ⟨.slice e, sz, by', z⟩) {ti : TI} (hte : T e = some ti) {l u m : Int}
    (hl : Bd (lo.map E) l 0) (hu : Bd (hi.map E) u 0) (hm : Bd (mx.map E) m 0) (hmx : mx.isSome = true → hi.isSome = true) :
    OutOK P h ρ w E o.op ((execOp E o).run P) (.val (l = 0 ∧ u = 0 ∧ m = 0) (.c (.v (.slice none 0 0)))) := by
  rintro ⟨rfl, rfl, rfl⟩
  have hut : P.underlying t = some (.slice e) := (hT t _ ht).desc
  have H := hT e ti hte
  have hb := fun w => run_bounds (P := P) (w := w) true 0 0 (lo.map E) (hi.map E) (mx.map E) 0 0 0 hl hu hm (by simpa using hmx) (by omega) (by omega) (by omega) (by omega)
  refine ⟨.slice none 0 0, fun _ _ => ?_, rfl, rfl⟩
  simp [execOp, ho, r, Instr.sliceAt, Instr.slice, run_underlying hut, hb, H.sizeOf]

theorem ok_slice_arr {o : Oper} {t : TypeId} {x : Operand} {lo hi mx : Option Operand} (ho : o.op = .slice t x lo hi mx) {i k : Nat} (r : SC.rel ρ (.ptr i k) (E x))
    {n e : Nat} {sz by' : Nat} {z : List Value} (ht : T t = some ⟨.array n e, sz, by', z⟩) {ti : TI} (hte : T e = some ti) {l u m : Int}
    (hl : Bd (lo.map E) l 0) (hu : Bd (hi.map E) u n) (hm : Bd (mx.map E) m n) (hmx : mx.isSome = true → hi.isSome = true) :
    OutOK P h ρ w E o.op ((execOp E o).run P) (.val (0 ≤ l ∧ l ≤ u ∧ u ≤ m ∧ m ≤ n) (.c (.sl i (k + l.toNat * ti.size) (u.toNat - l.toNat) (m.toNat - l.toNat)))) := by
  rintro ⟨h0, h1, h2, h3⟩
  obtain ⟨hi', hx⟩ := r
  have hut : P.underlying t = some (.array n e) := (hT t _ ht).desc
  have H := hT e ti hte
  have hb := fun w => run_bounds (P := P) (w := w) false n n (lo.map E) (hi.map E) (mx.map E) l u m hl hu hm (by simpa using hmx) h0 h1 h2 h3
  have hrun : ∀ w, (execOp E o).run P w = .ok (.value (.slice (some (if m.toNat = l.toNat then ρ.at i k else (ρ.at i k).add (l.toNat * ti.size))) (u.toNat - l.toNat) (m.toNat - l.toNat))) w := by
    intro w
    simp only [execOp, ho, hx, Instr.sliceAt, Instr.sureAddr, Sem.run_bind, run_underlying hut, Result.andThen_ok, hb, H.sizeOf, Sem.run_pure]
  refine ⟨_, fun w' _ => hrun w', ?_⟩
  by_cases hml : m.toNat = l.toNat
  · rw [if_pos hml]
    refine .inl ⟨by omega, by omega, some (ρ.at i k), ?_⟩
    congr 1 <;> omega
  · rw [if_neg hml, at_add]
    exact .inr ⟨hi', by omega, rfl⟩

theorem ok_slice_str {o : Oper} {t : TypeId} {x : Operand} {lo hi : Option Operand} (ho : o.op = .slice t x lo hi none) {s : ByteArray} (r : E x = .string s)
    {sz by' : Nat} {z : List Value} (ht : T t = some ⟨.str, sz, by', z⟩) {l u : Int} (hl : Bd (lo.map E) l 0) (hu : Bd (hi.map E) u s.size) :
    OutOK P h ρ w E o.op ((execOp E o).run P) (.val (0 ≤ l ∧ l ≤ u ∧ u ≤ s.size) (.c (.v (.string (s.extract l.toNat u.toNat))))) := by
  rintro ⟨h0, h1, h2⟩
  have hut : P.underlying t = some .string := (hT t _ ht).desc
  have hb := fun w => run_bounds (P := P) (w := w) false s.size s.size (lo.map E) (hi.map E) none l u s.size hl hu (.inl ⟨rfl, rfl⟩) (by simp) h0 h1 h2 (Int.le_refl _)
  refine ⟨.string (s.extract l.toNat u.toNat), fun _ _ => ?_, rfl, rfl⟩
  simp [execOp, ho, r, Instr.sliceAt, Instr.slice, run_underlying hut, hb]

/-! ### Strings and bytes -/
theorem byteOf_cells {cs : List SC} {ys : List Value} (r : RelL ρ cs ys) (hb : ∀ c ∈ cs, isByte c = true) : ys = ((cs.map byteOf).map fun b => (b.toNat : Int)).map (Value.int .u8) := by
  apply List.ext_getElem?
  intro j
  by_cases hj : j < cs.length
  · have hc : cs[j]? = some cs[j] := List.getElem?_eq_getElem hj
    obtain ⟨y, hy, hr⟩ := r.get hc
    have hbj := hb cs[j] (List.getElem_mem hj)
    rw [hy]
    simp only [List.getElem?_map, hc, Option.map_some]
    congr 1
    generalize cs[j] = c at *
    unfold isByte at hbj
    split at hbj
    · rename_i n
      obtain ⟨rfl, _⟩ := hr
      simp only [Bool.and_eq_true, decide_eq_true_eq] at hbj
      simp only [byteOf]
      congr 1
      simp
      omega
    · cases hbj
  · rw [List.getElem?_eq_none (by rw [← r.1]; omega), List.getElem?_eq_none (by simp; omega)]

omit hT in
theorem run_convert_bytes_none (w : World) (s d e : TypeId) (p : Option Addr) (us : P.underlying s = some (.slice e)) (ue : P.underlying e = some (.int .u8)) (ud : P.underlying d = some .string) :
    (convert s d (.slice p 0 0)).run P w = .ok (.string ByteArray.empty) w := by
  cases p with
  | none =>
    have := run_convert_bytes_string (P := P) w s d e none 0 0 us ue ud
    simpa [Conv.bytesToString] using this
  | some a =>
    exact run_convert_bytes_back (P := P) w s d e a 0 [] us ue ud (fun j hj => by simp at hj)

omit hT in
theorem freeze_self {w : World} {b n : Nat} {cs : Array Value} {ty : TypeId} {fr : Nat × Nat} (hb : w.heap[b]? = some (.cells cs ty fr)) : ∃ fr', (w.freeze ⟨b, n, none⟩ 1).heap[b]? = some (.cells cs ty fr') := by
  simp [World.freeze, Array.getElem?_modify, hb]
omit hT in
theorem freeze_other {w : World} {b n k : Nat} (hk : k ≠ b) : (w.freeze ⟨b, n, none⟩ 1).heap[k]? = w.heap[k]? := by
  simp [World.freeze, Array.getElem?_modify, Ne.symm hk]

omit hT in
include M in
theorem ok_mark {i : Nat} {b : SB} (hb : h[i]? = some b) (ho : b.own = true) : ∃ (cs : List Value) (fr : Nat × Nat), w.heap[(ρ.f i).1]? = some (.cells cs.toArray b.ty fr) ∧ Step h ρ w (h.set i ⟨false, b.ty, b.cells⟩) ρ (w.freeze ⟨(ρ.f i).1, cs.length, none⟩ 1) := by
  obtain ⟨h0, cs, ⟨fr, hcur, _⟩, rc⟩ := M.own i b hb ho
  have hil : i < h.length := (List.getElem?_eq_some_iff.1 hb).1
  obtain ⟨fr', hself⟩ := freeze_self (n := cs.length) hcur
  have cas : ∀ {j : Nat} {x : SB}, (h.set i ⟨false, b.ty, b.cells⟩)[j]? = some x → (j = i ∧ x = ⟨false, b.ty, b.cells⟩) ∨ (j ≠ i ∧ h[j]? = some x) := by
    intro j x hx
    by_cases hj : j = i
    · subst hj
      rw [List.getElem?_set_self hil] at hx
      exact .inl ⟨rfl, (Option.some.inj hx).symm⟩
    · rw [List.getElem?_set_ne (Ne.symm hj)] at hx
      exact .inr ⟨hj, hx⟩
  have oth : ∀ {j : Nat} {x : SB}, j ≠ i → h[j]? = some x → x.void = false → (w.freeze ⟨(ρ.f i).1, cs.length, none⟩ 1).heap[(ρ.f j).1]? = w.heap[(ρ.f j).1]? :=
    fun hj hx hv => freeze_other (M.sep i _ b _ (Ne.symm hj) hb hx ho hv).symm
  have E : Ext (ownB h ρ) w (w.freeze ⟨(ρ.f i).1, cs.length, none⟩ 1) := ⟨rfl, rfl, rfl, by simp [World.freeze], fun k hk hS => freeze_other fun he => hS ⟨i, b, hb, ho, he.symm⟩⟩
  refine ⟨cs, fr, hcur, Rho.le_refl ρ, ?_, fun k h1 h2 => by omega, E, fun j x _ hx hxo => ?_, fun j x _ hx hxv => ?_⟩
  · constructor
    · simp [M.n]
    · intro j x hx hxo
      rcases cas hx with ⟨rfl, rfl⟩ | ⟨hj, hx⟩
      · cases hxo
      · obtain ⟨q1, zs, q2, q3⟩ := M.own j x hx hxo
        exact ⟨q1, zs, q2.of (oth hj hx (void_of_own hxo)), q3⟩
    · intro j x hx k c hc
      rcases cas hx with ⟨rfl, rfl⟩ | ⟨hj, hx⟩
      · obtain ⟨y, g1, g2⟩ := rc.get hc
        refine ⟨y, ?_, g2⟩
        simp only [Rho.at, h0, Nat.zero_add]
        rw [cell_of_row _ _ k _ _ _ hself]
        simpa using g1
      · obtain ⟨y, g1, g2⟩ := M.ro j x hx k c hc
        exact ⟨y, by rw [← g1]; exact World.cell?_of_block (oth hj hx (void_of_cell hc)), g2⟩
    · intro j k bj bk hne hj hk hjo hv
      rcases cas hj with ⟨e1, e2⟩ | ⟨_, qj⟩
      · subst e2; cases hjo
      · rcases cas hk with ⟨e3, e4⟩ | ⟨_, qk⟩
        · subst e3; exact M.sep j k bj b hne qj hb hjo (void_of_own ho)
        · exact M.sep j k bj bk hne qj qk hjo hv
    · intro j x hx hv
      have hs : (w.freeze ⟨(ρ.f i).1, cs.length, none⟩ 1).heap.size = w.heap.size := by simp [World.freeze]
      rw [hs]
      rcases cas hx with ⟨rfl, rfl⟩ | ⟨hj, hx⟩
      · exact M.lt j b hb (void_of_own ho)
      · exact M.lt j x hx hv
    · intro k hk
      have hs : (w.freeze ⟨(ρ.f i).1, cs.length, none⟩ 1).heap.size = w.heap.size := by simp [World.freeze]
      refine ⟨by rw [hs]; exact (M.zone k hk).1, ?_⟩
      rw [freeze_other (M.zsep k i b hk hb ho).symm]
      exact (M.zone k hk).2
    · intro k j x hk hx hxo
      rcases cas hx with ⟨rfl, rfl⟩ | ⟨hj, hx⟩
      · cases hxo
      · exact M.zsep k j x hk hx hxo
  · rcases cas hx with ⟨rfl, rfl⟩ | ⟨hj, hx⟩
    · cases hxo
    · exact ⟨x, hx, hxo⟩
  · rcases cas hx with ⟨rfl, rfl⟩ | ⟨hj, hx⟩
    · exact ⟨b, hb, void_of_own ho⟩
    · exact ⟨x, hx, hxv⟩

include M in
theorem ok_bytes_same {o : Oper} {s d : TypeId} {x : Operand} (ho : o.op = .convert s d x) {i k n c : Nat} (r : SC.rel ρ (.sl i k n c) (E x))
    {e e' : TypeId} {a1 a2 : Nat} {a3 : List Value} (hs : T s = some ⟨.slice e, a1, a2, a3⟩) {b1 b2 : Nat} {b3 : List Value} (hd : T d = some ⟨.slice e', b1, b2, b3⟩) {c1 c2 : Nat} {c3 : List Value} (he : T e' = some ⟨.int .u8, c1, c2, c3⟩)
    {b : SB} (hb : h[i]? = some b) :
    OutOK P h ρ w E o.op ((execOp E o).run P) (.mem (s = d ∧ b.own = true ∧ 0 < c) (.c (.sl i k n c)) (h.set i ⟨false, b.ty, b.cells⟩)) := by
  rintro ⟨rfl, hown, hc⟩
  have ud : P.underlying s = some (.slice e') := (hT s _ hd).desc
  have ue : P.underlying e' = some (.int .u8) := (hT e' _ he).desc
  rcases r with ⟨_, rfl, _⟩ | ⟨hi, hnc, hx⟩
  · omega
  obtain ⟨cs, fr0, hcur, st⟩ := ok_mark M hb hown
  refine ⟨_, ρ, st, (fun hl => by rw [ho] at hl; simp [leaves] at hl), .inr ⟨by rw [ho]; rfl, .slice (some (ρ.at i k)) n c, ?_, .inr ⟨hi, hnc, rfl⟩⟩⟩
  have hsh : w.shape? (ρ.f i).1 = some (b.ty, cs.length) := by
    unfold World.shape?
    rw [hcur]; simp
  have : (convert s s (.slice (some (ρ.at i k)) n c)).run P w = .ok (.slice (some (ρ.at i k)) n c) (w.freeze ⟨(ρ.f i).1, cs.length, none⟩ 1) := by
    simp [convert, run_underlying ud, run_underlying ue, markStringish, Rho.at, hsh]
  simp [execOp, ho, hx, this] <;> rfl

include M in
theorem ok_bytes_str {o : Oper} {s d : TypeId} {x : Operand} (ho : o.op = .convert s d x) {i k n c : Nat} (r : SC.rel ρ (.sl i k n c) (E x))
    {e : TypeId} {a1 a2 : Nat} {a3 : List Value} (hs : T s = some ⟨.slice e, a1, a2, a3⟩) {b1 b2 : Nat} {b3 : List Value} (hd : T d = some ⟨.str, b1, b2, b3⟩) {c1 c2 : Nat} {c3 : List Value} (he : T e = some ⟨.int .u8, c1, c2, c3⟩) :
    OutOK P h ρ w E o.op ((execOp E o).run P) (.val (k + n ≤ lenW h i ∧ ∀ c ∈ win h i k n, isByte c = true) (.c (.v (.string (strOf (win h i k n)))))) := by
  rintro ⟨h1, h2⟩
  have us : P.underlying s = some (.slice e) := (hT s _ hs).desc
  have ud : P.underlying d = some .string := (hT d _ hd).desc
  have ue : P.underlying e = some (.int .u8) := (hT e _ he).desc
  rcases r with ⟨rfl, rfl, p, hx⟩ | ⟨hi, hnc, hx⟩
  · have hw : win h i k 0 = [] := by unfold win; split <;> simp
    refine ⟨.string (strOf (win h i k 0)), fun w' _ => ?_, rfl, rfl⟩
    have := run_convert_bytes_none (P := P) w' s d e p us ue ud
    simp [execOp, ho, hx, this, hw] <;> rfl
  obtain ⟨ys, r1, r2, r3⟩ := win_vals M h1 hi
  have hy := byteOf_cells hT r1 h2
  have hlen : (win h i k n).length = n := by rw [r1.1, r2]
  have key : ∀ w', (0 < n → w'.heap[(ρ.at i k).block]? = w.heap[(ρ.at i k).block]?) → (convert s d (.slice (some (ρ.at i k)) n c)).run P w' = .ok (.string (strOf (win h i k n))) w' := by
    intro w' hE
    have r3 : ∀ (j : Nat) (y : Value), ys[j]? = some y → w'.cell? ((ρ.at i k).add j) = some y := fun j y hy => by
      have := r3 j y hy
      rw [← this]
      exact World.cell?_of_block (a := (ρ.at i k).add j) (by rw [show ((ρ.at i k).add j).block = (ρ.at i k).block from by unfold Addr.add; split <;> rfl]; exact hE (by have := (List.getElem?_eq_some_iff.1 hy).1; omega))
    have := run_convert_bytes_back (P := P) w' s d e (ρ.at i k) c ((win h i k n).map byteOf) us ue ud (fun j hj => by
      have hj' : j < n := by simpa [hlen] using hj
      refine r3 j _ ?_
      rw [hy]
      simp [List.getElem?_eq_getElem (show j < (win h i k n).length by omega)])
    simp only [List.length_map, hlen] at this
    exact this
  exact ⟨_, fun w' hE => by simp [execOp, ho, hx, key w' (by rw [ho] at hE; simpa only [Same, hx, blkSame] using hE)] <;> rfl, rfl, rfl⟩

include M in
theorem ok_bytes_ro {o : Oper} {s d : TypeId} {x : Operand} (ho : o.op = .convert s d x) {cs : List RC} {n c : Nat} (r : SC.rel ρ (.ro cs n c) (E x))
    {e : TypeId} {a1 a2 : Nat} {a3 : List Value} (hs : T s = some ⟨.slice e, a1, a2, a3⟩) {b1 b2 : Nat} {b3 : List Value} (hd : T d = some ⟨.str, b1, b2, b3⟩) {c1 c2 : Nat} {c3 : List Value} (he : T e = some ⟨.int .u8, c1, c2, c3⟩) :
    OutOK P h ρ w E o.op ((execOp E o).run P) (.val (n ≤ cs.length ∧ ∀ c ∈ (cs.take n).map RC.toSC, isByte c = true) (.c (.v (.string (strOf ((cs.take n).map RC.toSC)))))) := by
  rintro ⟨h1, h2⟩
  have us : P.underlying s = some (.slice e) := (hT s _ hs).desc
  have ud : P.underlying d = some .string := (hT d _ hd).desc
  have ue : P.underlying e = some (.int .u8) := (hT e _ he).desc
  simp only [SC.rel, RC.rel] at r
  rcases r with ⟨rfl, rfl, p, hx⟩ | ⟨hnc, b, k, hx, hz, hL⟩
  · refine ⟨.string (strOf ((cs.take 0).map RC.toSC)), fun w' _ => ?_, rfl, rfl⟩
    have := run_convert_bytes_none (P := P) w' s d e p us ue ud
    simp [execOp, ho, hx, this] <;> rfl
  obtain ⟨ys, r1, r3⟩ := M.zvals hz hL
  have r1 : RelL ρ ((cs.take n).map RC.toSC) (ys.take n) := by rw [List.map_take]; exact r1.take _
  have hy := byteOf_cells hT r1 h2
  have hlen : ((cs.take n).map RC.toSC).length = n := by simp; omega
  generalize (cs.take n).map RC.toSC = l at *
  have key : ∀ w', (0 < n → w'.heap[b]? = w.heap[b]?) → (convert s d (.slice (some ⟨b, k, none⟩) n c)).run P w' = .ok (.string (strOf l)) w' := by
    intro w' hE
    have := run_convert_bytes_back (P := P) w' s d e ⟨b, k, none⟩ c (l.map byteOf) us ue ud (fun j hj => by
      have hj' : j < n := by simpa [hlen] using hj
      have h4 : (ys.take n)[j]? = some (.int .u8 ((l.map byteOf)[j]).toNat) := by
        rw [hy]
        simp [List.getElem?_eq_getElem (show j < l.length by omega)]
      rw [List.getElem?_take, if_pos hj'] at h4
      have := r3 j _ h4
      rw [Addr.add_lit, ← this]
      exact World.cell?_of_block (a := ⟨b, k + j, none⟩) (hE (by omega)))
    simp only [List.length_map, hlen] at this
    exact this
  exact ⟨_, fun w' hE => by simp [execOp, ho, hx, key w' (by rw [ho] at hE; simpa only [Same, hx, blkSame] using hE)] <;> rfl, rfl, rfl⟩

theorem ok_nil_str {o : Oper} {s d : TypeId} {x : Operand} (ho : o.op = .convert s d x) (r : E x = .slice none 0 0)
    {e : TypeId} {a1 a2 : Nat} {a3 : List Value} (hs : T s = some ⟨.slice e, a1, a2, a3⟩) {b1 b2 : Nat} {b3 : List Value} (hd : T d = some ⟨.str, b1, b2, b3⟩) {c1 c2 : Nat} {c3 : List Value} (he : T e = some ⟨.int .u8, c1, c2, c3⟩) :
    OutOK P h ρ w E o.op ((execOp E o).run P) (.val True (.c (.v (.string ByteArray.empty)))) := by
  intro _
  have us : P.underlying s = some (.slice e) := (hT s _ hs).desc
  have ud : P.underlying d = some .string := (hT d _ hd).desc
  have ue : P.underlying e = some (.int .u8) := (hT e _ he).desc
  have key := fun w => run_convert_bytes_string (P := P) w s d e none 0 0 us ue ud
  exact ⟨_, fun _ _ => by simp [execOp, ho, r, key, Conv.bytesToString] <;> rfl, rfl, rfl⟩

include M in
theorem ok_str_bytes {o : Oper} {s d : TypeId} {x : Operand} (ho : o.op = .convert s d x) {b : ByteArray} (r : E x = .string b)
    {e : TypeId} {a1 a2 : Nat} {a3 : List Value} (hs : T s = some ⟨.str, a1, a2, a3⟩) {b1 b2 : Nat} {b3 : List Value} (hd : T d = some ⟨.slice e, b1, b2, b3⟩) {c1 c2 : Nat} {c3 : List Value} (he : T e = some ⟨.int .u8, c1, c2, c3⟩) :
    OutOK P h ρ w E o.op ((execOp E o).run P) (.conv (b.size ≤ maxLen) b.size fun c => (.c (.sl h.length 0 b.size c), h ++ [⟨true, e, b.data.toList.map byteC ++ List.replicate (c - b.size) (.v (.int .u8 0))⟩])) := by
  intro hb
  have us : P.underlying s = some .string := (hT s _ hs).desc
  have ud : P.underlying d = some (.slice e) := (hT d _ hd).desc
  have ue : P.underlying e = some (.int .u8) := (hT e _ he).desc
  have key := run_bytes_of_string (P := P) w s d e b us ud ue
  have hge := grownCap_ge w b.size 0 e
  have hle := grownCap_le_maxLen w b.size 0 e hb
  have hrow : (bytesRow b (grownCap w b.size 0 e)).toList = (b.data.toList.map fun x => Value.int .u8 x.toNat) ++ List.replicate (grownCap w b.size 0 e - b.size) (.int .u8 0) := by
    simp [bytesRow]
  have hrel : RelL ρ (b.data.toList.map byteC ++ List.replicate (grownCap w b.size 0 e - b.size) (.v (.int .u8 0))) (bytesRow b (grownCap w b.size 0 e)).toList := by
    rw [hrow]
    refine RelL.append ?_ ?_
    · have := RelL.vs (ρ := ρ) (l := b.data.toList.map fun x => Value.int .u8 x.toNat) (by intro x hx; simp at hx; obtain ⟨y, _, rfl⟩ := hx; rfl)
      have e : byteC = fun x => SC.v (Value.int .u8 x.toNat) := rfl
      rw [e]
      simpa [Function.comp_def] using this
    · have := RelL.vs (ρ := ρ) (l := List.replicate (grownCap w b.size 0 e - b.size) (Value.int .u8 0)) (by intro x hx; rw [List.eq_of_mem_replicate hx]; rfl)
      simpa using this
  have Md : Models h ρ w.drew := M.ext (Ext.drew _ _)
  have hp := Md.push ⟨true, e, b.data.toList.map byteC ++ List.replicate (grownCap w b.size 0 e - b.size) (.v (.int .u8 0))⟩ _ ((bytesRow b (grownCap w b.size 0 e)).size, (bytesRow b (grownCap w b.size 0 e)).size + 1) hrel (fun _ => .inr (by simp))
  rw [Array.toArray_toList] at hp
  refine ⟨grownCap w b.size 0 e, _, _, _, hge, hle, ⟨ρ.le_push _, hp, fun i h1 h2 => ?_, (Ext.drew _ _).trans (Ext.alloc _ _ _), fun i x hi hb ho => ⟨x, by rwa [List.getElem?_append_left (by rw [← M.n]; exact hi)] at hb, ho⟩, fun i x hi hb ho => ⟨x, by rwa [List.getElem?_append_left (by rw [← M.n]; exact hi)] at hb, ho⟩⟩, (Ext.drew _ _).trans (Ext.alloc _ _ _), by simp [execOp, ho, r, key] <;> rfl, sl_new Md hge⟩
  have : i = ρ.n := by simp [Rho.push] at h2; omega
  subst this; simp [Rho.push]

/-! ### Literals -/
include M in
theorem ok_build_struct {o : Oper} {t : TypeId} {ps : Array (Nat × Operand)} (ho : o.op = .build t ps) {ss : List SV} (r : RelO ρ E ss (ps.toList.map (·.2)))
    {fs : List (Nat × TypeId)} {sz by' : Nat} {z : List Value} (ht : T t = some ⟨.struct fs, sz, by', z⟩) {cs : List SC}
    (hf : fillC (z.map .v) (placeOf T fs) ((ps.toList.map (·.1)).zip ss) = some cs) :
    OutOK P h ρ w E o.op ((execOp E o).run P) (.val True (.agg cs)) := by
  intro _
  have H := hT t _ ht
  obtain ⟨flds, g1, g2, g3⟩ := H.desc
  obtain ⟨inf, zz, k1, k2, k3, k4, k5, k6, k7⟩ := H.info
  simp only at k5 k7
  have hplaces : ∃ pl : Array (Nat × Nat), (∀ w, (flds.mapM fun f => (do pure (f.offset, ← sizeOf f.type) : Sem (Nat × Nat))).run P w = .ok pl w) ∧ ∀ i x, placeOf T fs i = some x → pl[i]? = some x := by
    have gen : ∀ (l : List Field), (∀ f ∈ l, (P.info? f.type).isSome = true) → ∃ pl : List (Nat × Nat), (∀ w, (l.mapM fun f => (do pure (f.offset, ← sizeOf f.type) : Sem (Nat × Nat))).run P w = .ok pl w) ∧ ∀ (i : Nat) (x : Nat × Nat), placeOf T (l.map (fun f => (f.offset, f.type))) i = some x → pl[i]? = some x := by
      intro l
      induction l with
      | nil => intro _; exact ⟨[], fun _ => by simp only [List.mapM_nil, Sem.run_pure], by intro i x hx; simp [placeOf] at hx⟩
      | cons f l ih =>
        intro hl
        obtain ⟨pl, e1, e2⟩ := ih fun p hp => hl p (by simp [hp])
        obtain ⟨inf, hinf⟩ := Option.isSome_iff_exists.1 (hl f (by simp))
        have hsz : ∀ w, (sizeOf f.type).run P w = .ok inf.size w := by intro w; simp [Go.sizeOf, typeInfo, hinf]
        refine ⟨(f.offset, inf.size) :: pl, fun w => ?_, fun i x hx => ?_⟩
        · simp only [List.mapM_cons, Sem.run_bind, Sem.run_pure, hsz, Result.andThen_ok, e1]
        · cases i with
          | zero =>
            simp only [placeOf, List.map_cons, List.getElem?_cons_zero] at hx
            split at hx
            · rename_i ti hti
              obtain ⟨inf', z', q1, q2, _⟩ := (hT _ _ hti).info
              rw [hinf] at q1
              cases q1
              cases hx
              simp [q2]
            · cases hx
          | succ i => exact e2 i x (by simpa [placeOf] using hx)
    obtain ⟨pl, e1, e2⟩ := gen flds.toList g3
    refine ⟨pl.toArray, fun w => ?_, fun i x hx => ?_⟩
    · rw [Array.mapM_eq_mapM_toList]
      simp only [Sem.run_map, e1, Result.andThen_ok]
    · rw [← g2] at hx; simpa using e2 i x hx
  obtain ⟨pl, p1, p2⟩ := hplaces
  have hz : RelL ρ (z.map SC.v) zz.cells.toList := by rw [k5]; exact RelL.vs k7
  obtain ⟨cv, q1, q2⟩ := fill_ok (ρ := ρ) p2 ((ps.toList.map (·.1)).zip ss) (ps.toList.map fun x => (x.1, E x.2)) _ _ cs (by have := r.1; simp at this ⊢; omega) (fun j p v hp hv => by
    simp only [List.getElem?_zip_eq_some, List.getElem?_map] at hp hv
    obtain ⟨hp1, hp2⟩ := hp
    cases hq : ps.toList[j]? with
    | none => rw [hq] at hv; cases hv
    | some x =>
      rw [hq] at hp1 hv
      simp only [Option.map_some, Option.some.injEq] at hp1 hv
      subst hv
      exact ⟨hp1.symm, r.2 j p.2 x.2 hp2 (by simp [List.getElem?_map, hq])⟩) hz hf
  refine ⟨.agg cv, fun _ _ => ?_, cv, rfl, q2⟩
  simp only [Array.toArray_toList] at q1
  simp only [execOp, ho, Instr.build, Sem.run_bind, zeroValue, typeInfo, run_program, k1, k4, Sem.run_pure, Result.andThen_ok, run_underlying g1, p1, Array.toList_map, q1]

include M in
theorem ok_build_arr {o : Oper} {t : TypeId} {ps : Array (Nat × Operand)} (ho : o.op = .build t ps) {ss : List SV} (r : RelO ρ E ss (ps.toList.map (·.2)))
    {n e : Nat} {sz by' : Nat} {z : List Value} (ht : T t = some ⟨.array n e, sz, by', z⟩) {ti : TI} (hte : T e = some ti) {cs : List SC}
    (hf : fillC (z.map .v) (fun i => some (i * ti.size, ti.size)) ((ps.toList.map (·.1)).zip ss) = some cs) :
    OutOK P h ρ w E o.op ((execOp E o).run P) (.val True (.agg cs)) := by
  intro _
  have H := hT t _ ht
  have He := hT e _ hte
  have g1 : P.underlying t = some (.array n e) := H.desc
  obtain ⟨inf, zz, k1, k2, k3, k4, k5, k6, k7⟩ := H.info
  simp only at k5 k7
  have hz : RelL ρ (z.map SC.v) zz.cells.toList := by rw [k5]; exact RelL.vs k7
  obtain ⟨cv, q1, q2⟩ := fill_ok (ρ := ρ) (fun _ _ h => h) ((ps.toList.map (·.1)).zip ss) (ps.toList.map fun x => (x.1, E x.2)) _ _ cs (by have := r.1; simp at this ⊢; omega) (fun j p v hp hv => by
    simp only [List.getElem?_zip_eq_some, List.getElem?_map] at hp hv
    obtain ⟨hp1, hp2⟩ := hp
    cases hq : ps.toList[j]? with
    | none => rw [hq] at hv; cases hv
    | some x =>
      rw [hq] at hp1 hv
      simp only [Option.map_some, Option.some.injEq] at hp1 hv
      subst hv
      exact ⟨hp1.symm, r.2 j p.2 x.2 hp2 (by simp [List.getElem?_map, hq])⟩) hz hf
  refine ⟨.agg cv, fun _ _ => ?_, cv, rfl, q2⟩
  simp only [Array.toArray_toList] at q1
  simp only [execOp, ho, Instr.build, Sem.run_bind, zeroValue, typeInfo, run_program, k1, k4, Sem.run_pure, Result.andThen_ok, run_underlying g1, He.sizeOf, Array.toList_map, q1]

include M in
theorem ok_buildSlice {o : Oper} {t : TypeId} {len : Nat} {ps : Array (Nat × Operand)} (ho : o.op = .buildSlice t len ps) {ss : List SV} (r : RelO ρ E ss (ps.toList.map (·.2)))
    {e : Nat} {sz by' : Nat} {z : List Value} (ht : T t = some ⟨.slice e, sz, by', z⟩) {ti : TI} (hte : T e = some ti) {cs : List SC}
    (hf : fillC ((List.replicate len (ti.zero.map SC.v)).flatten) (fun i => some (i * ti.size, ti.size)) ((ps.toList.map (·.1)).zip ss) = some cs) :
    OutOK P h ρ w E o.op ((execOp E o).run P) (.mem (len * ti.size ≤ 16777216) (.c (.sl h.length 0 len len)) (h ++ [⟨true, e, cs⟩])) := by
  intro hlen
  have H := hT t _ ht
  have He := hT e _ hte
  have g1 : P.underlying t = some (.slice e) := H.desc
  obtain ⟨inf, zz, k1, k4, k2, k3, m1, m2, m3⟩ := mk_flat (ρ := ρ) He len
  obtain ⟨cv, q1, q2⟩ := fill_ok (ρ := ρ) (fun _ _ h => h) ((ps.toList.map (·.1)).zip ss) (ps.toList.map fun x => (x.1, E x.2)) _ _ cs (by have := r.1; simp at this ⊢; omega) (fun j p v hp hv => by
    simp only [List.getElem?_zip_eq_some, List.getElem?_map] at hp hv
    obtain ⟨hp1, hp2⟩ := hp
    cases hq : ps.toList[j]? with
    | none => rw [hq] at hv; cases hv
    | some x =>
      rw [hq] at hp1 hv
      simp only [Option.map_some, Option.some.injEq] at hp1 hv
      subst hv
      exact ⟨hp1.symm, r.2 j p.2 x.2 hp2 (by simp [List.getElem?_map, hq])⟩) m3 hf
  have hs := Step.alloc M ⟨true, e, cs⟩ cv.toList q2
  rw [Array.toArray_toList] at hs
  refine ⟨_, _, hs.1, fun _ => hs.2, .inr ⟨by rw [ho]; rfl, _, ?_, sl_new M (Nat.le_refl _)⟩⟩
  have hle : ¬ (len * inf.size > 2 ^ 24) := by rw [k2]; omega
  rw [k2] at m2
  have hrow : (List.replicate len ti.zero).flatten.toArray = madeCells zz.cells (len * ti.size) := by rw [← m2, Array.toArray_toList]
  rw [hrow] at q1
  by_cases h0 : len * ti.size = 0
  · have e0 : madeCells zz.cells (len * ti.size) = #[] := by apply Array.eq_empty_of_size_eq_zero; rw [size_madeCells]; exact h0
    rw [e0] at q1
    have e1 : ∀ f : Nat → Value, (Array.range 0).map f = #[] := by intro f; apply Array.eq_empty_of_size_eq_zero; simp
    simp only [execOp, ho, Instr.buildSlice, Sem.run_bind, run_underlying g1, Result.andThen_ok, He.sizeOf, h0]
    simp [q1, newRow, e1]
  · have h2 : ¬ (len * ti.size > 2 ^ 24) := by omega
    simp only [execOp, ho, Instr.buildSlice, Sem.run_bind, run_underlying g1, Result.andThen_ok, He.sizeOf, h2, h0, if_false, zeroValue, typeInfo, run_program, k1, k4, Sem.run_pure, Array.toList_map, Sem.run_ite]
    unfold madeCells at q1
    simp [q1, newRow]

end
end Go.Proofs.Ythbojoiogjdbeaa.Sx
