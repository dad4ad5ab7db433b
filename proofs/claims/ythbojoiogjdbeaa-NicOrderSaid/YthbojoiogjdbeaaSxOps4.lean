/- A symbolic executor for the model's code: each operation does what its symbols say (operators, builtins), and all of them. No condition. -/
import Derived.Test.YthbojoiogjdbeaaSxOps3
namespace Go.Proofs.Ythbojoiogjdbeaa.Sx
open Go
set_option linter.unusedSectionVars false
variable {P : Program} {w : World} {ρ : Rho} {h : List SB}

/-! ### Operators -/
theorem binI_ok {op : BinOp} {k : IntKind} {a b : Int} (hs : op ≠ .shl ∧ op ≠ .shr) (t : TypeId) (p : Prop) (s : SV) (hb : binI op k a b = .val p s) (hp : p) :
    ∃ y, (∀ w, (binOp op t (.int k a) (.int k b)).run P w = .ok y w) ∧ s.rel ρ y := by
  have key : ∀ {v v' : Value}, s = .c (.v v) → v'.oneCell' = true → (∀ w, (binOp op t (.int k a) (.int k b)).run P w = .ok v' w) → v = v' → ∃ y, (∀ w, (binOp op t (.int k a) (.int k b)).run P w = .ok y w) ∧ s.rel ρ y := by
    intro v v' e1 e2 e3 e4
    subst e4
    exact ⟨v, e3, by subst e1; exact ⟨rfl, e2⟩⟩
  cases op with
  | shl => exact absurd rfl hs.1
  | shr => exact absurd rfl hs.2
  | add => simp only [binI, OR.val.injEq] at hb; exact key hb.2.symm rfl (by intro w; simp [binOp, Op.intArith] <;> rfl) rfl
  | sub => simp only [binI, OR.val.injEq] at hb; exact key hb.2.symm rfl (by intro w; simp [binOp, Op.intArith] <;> rfl) rfl
  | mul => simp only [binI, OR.val.injEq] at hb; exact key hb.2.symm rfl (by intro w; simp [binOp, Op.intArith] <;> rfl) rfl
  | quo =>
    simp only [binI, OR.val.injEq] at hb
    have hp' : ¬ b = 0 := by rw [← hb.1] at hp; exact hp
    exact key hb.2.symm rfl (by intro w; simp [binOp, Op.intDiv, hp'] <;> rfl) rfl
  | rem =>
    simp only [binI, OR.val.injEq] at hb
    have hp' : ¬ b = 0 := by rw [← hb.1] at hp; exact hp
    exact key hb.2.symm rfl (by intro w; simp [binOp, Op.intDiv, hp'] <;> rfl) rfl
  | and => simp only [binI, OR.val.injEq] at hb; exact key hb.2.symm rfl (by intro w; simp [binOp, Op.intBits] <;> rfl) rfl
  | or => simp only [binI, OR.val.injEq] at hb; exact key hb.2.symm rfl (by intro w; simp [binOp, Op.intBits] <;> rfl) rfl
  | xor => simp only [binI, OR.val.injEq] at hb; exact key hb.2.symm rfl (by intro w; simp [binOp, Op.intBits] <;> rfl) rfl
  | andNot => simp only [binI, OR.val.injEq] at hb; exact key hb.2.symm rfl (by intro w; simp only [binOp, ne_eq, not_true_eq_false, if_false, Op.intBits, Sem.run_pure]; rfl) rfl
  | eql => simp only [binI, OR.val.injEq] at hb; exact key hb.2.symm rfl (by intro w; simp [binOp, Op.intCmp] <;> rfl) rfl
  | neq => simp only [binI, OR.val.injEq] at hb; exact key hb.2.symm rfl (by intro w; simp [binOp, Op.intCmp] <;> rfl) rfl
  | lss => simp only [binI, OR.val.injEq] at hb; exact key hb.2.symm rfl (by intro w; simp [binOp, Op.intCmp] <;> rfl) rfl
  | leq => simp only [binI, OR.val.injEq] at hb; exact key hb.2.symm rfl (by intro w; simp [binOp, Op.intCmp] <;> rfl) rfl
  | gtr => simp only [binI, OR.val.injEq] at hb; exact key hb.2.symm rfl (by intro w; simp [binOp, Op.intCmp] <;> rfl) rfl
  | geq => simp only [binI, OR.val.injEq] at hb; exact key hb.2.symm rfl (by intro w; simp [binOp, Op.intCmp] <;> rfl) rfl

theorem run_equalIn_ptr (d : Nat) (t e : TypeId) (p : Option Addr) (hu : P.underlying t = some (.pointer e)) : (Op.equalIn (d + 1) t (.pointer p) (.pointer none)).run P w = .ok p.isNone w := by
  cases p <;> simp [Op.equalIn, run_underlying hu]

theorem run_eql_ptr (t e : TypeId) (p : Option Addr) (hu : P.underlying t = some (.pointer e)) :
    (binOp .eql t (.pointer p) (.pointer none)).run P w = .ok (.bool p.isNone) w ∧ (binOp .neq t (.pointer p) (.pointer none)).run P w = .ok (.bool (!p.isNone)) w := by
  constructor <;> (simp only [binOp]; simp [Op.equal, Op.maxDepth, run_equalIn_ptr 9999 t e p hu])

/-- '==' and '!=' on aggregates of a type are as the cells say. -/
def FlatOk (P : Program) (t : TypeId) (zs : List Value) : Prop := ∀ (w : World) (x y : Operand) (xs ys : Array Value) (b : Bool), xs.toList.map isBv = zs.map isBv → eqCells (xs.toList.map .v) (ys.toList.map .v) = some b →
  (eqGuard .eql t x y (.agg xs) (.agg ys)).run P w = .ok () w ∧ (eqGuard .neq t x y (.agg xs) (.agg ys)).run P w = .ok () w ∧
  (binOp .eql t (.agg xs) (.agg ys)).run P w = .ok (.bool b) w ∧ (binOp .neq t (.agg xs) (.agg ys)).run P w = .ok (.bool (!b)) w

theorem isB_v (v : Value) : isB (.v v) = isBv v := by cases v <;> rfl

theorem eqCells_vals : ∀ {xs ys : List SC} {b : Bool} {us vs : List Value}, eqCells xs ys = some b → RelL ρ xs us → RelL ρ ys vs → xs = us.map .v ∧ ys = vs.map .v := by
  have one : ∀ {c : SC} {x : Value} {xs : List SC} {us : List Value}, c = .v x → RelL ρ (c :: xs) us → ∃ us', us = x :: us' ∧ RelL ρ xs us' := by
    intro c x xs us hc r
    cases us with
    | nil => have := r.1; simp at this
    | cons u us =>
      have := r.2 0 _ _ rfl rfl
      subst hc
      rw [this.1]
      exact ⟨us, rfl, by have := r.1; simpa using this, fun j c y h1 h2 => r.2 (j + 1) c y (by simpa using h1) (by simpa using h2)⟩
  intro xs
  induction xs with
  | nil =>
    intro ys b us vs he r r'
    cases ys with
    | nil =>
      have e1 := r.1
      have e2 := r'.1
      simp only [List.length_nil] at e1 e2
      rw [List.length_eq_zero_iff.1 e1.symm, List.length_eq_zero_iff.1 e2.symm]
      exact ⟨rfl, rfl⟩
    | cons y ys => simp [eqCells] at he
  | cons x xs ih =>
    intro ys b us vs he r r'
    unfold eqCells at he
    split at he
    · rename_i e0; cases e0
    · rename_i k a r0 k' b' s0 e1
      cases e1
      split at he
      · obtain ⟨us', rfl, q⟩ := one rfl r
        obtain ⟨vs', rfl, q'⟩ := one rfl r'
        cases hr : eqCells xs s0 with
        | none => rw [hr] at he; cases he
        | some b0 => obtain ⟨e2, e3⟩ := ih hr q q'; simp [← e2, ← e3]
      · cases he
    · rename_i a r0 b' s0 e1
      cases e1
      obtain ⟨us', rfl, q⟩ := one rfl r
      obtain ⟨vs', rfl, q'⟩ := one rfl r'
      cases hr : eqCells xs s0 with
      | none => rw [hr] at he; cases he
      | some b0 => obtain ⟨e2, e3⟩ := ih hr q q'; simp [← e2, ← e3]
    · cases he

section
variable {T : TypeId → Option TI} (hT : TOk P T) {flat : TypeId → Bool} (hflat : ∀ t ti, flat t = true → T t = some ti → FlatOk P t ti.zero) (M : Models h ρ w) {E : Operand → Value}
include hT

include hflat in
theorem ok_binOp {o : Oper} {op : BinOp} {t u : TypeId} {x y : Operand} (ho : o.op = .binOp op t x y u) {a b : SV} (ra : a.rel ρ (E x)) (rb : b.rel ρ (E y)) {ti : TI} (ht : T t = some ti) :
    OutOK P h ρ w E o.op ((execOp E o).run P) (binS ti.desc (ti.zero.map isBv) (flat t) op a b) := by
  have H := (hT t ti ht).desc
  have fin : ∀ {p : Prop} {s : SV}, (p → (∀ w, (eqGuard op t x y (E x) (E y)).run P w = .ok () w) ∧ ∃ v, (∀ w, (binOp op t (E x) (E y)).run P w = .ok v w) ∧ s.rel ρ v) → OutOK P h ρ w E o.op ((execOp E o).run P) (.val p s) := by
    intro p s hh hp
    obtain ⟨h1, v, h2, h3⟩ := hh hp
    exact ⟨v, fun _ _ => by simp [execOp, ho, h1, h2], h3⟩
  unfold binS
  split
  · rename_i k i k' j
    obtain ⟨hx, _⟩ := ra
    obtain ⟨hy, _⟩ := rb
    rw [hx, hy] at fin
    split
    · refine fin fun hp => ⟨by intro w; simp [eqGuard], _, by intro w; simp [binOp, Op.shift, Int.not_lt.2 hp] <;> rfl, rfl, rfl⟩
    · refine fin fun hp => ⟨by intro w; simp [eqGuard], _, by intro w; simp [binOp, Op.shift, Int.not_lt.2 hp] <;> rfl, rfl, rfl⟩
    · split
      · rename_i hns1 hns2 hk
        subst hk
        cases hb : binI op k i j with
        | val p s => exact fin fun hp => ⟨by intro w; simp [eqGuard] <;> (intros; split <;> first | rfl | simp_all), binI_ok ⟨hns1, hns2⟩ t p s hb hp⟩
        | bad => trivial
        | mem _ _ _ => cases op <;> simp [binI] at hb
        | app _ _ _ _ _ => cases op <;> simp [binI] at hb
        | conv _ _ _ => cases op <;> simp [binI] at hb
        | call _ _ _ => cases op <;> simp [binI] at hb
      · trivial
  · obtain ⟨hx, _⟩ := ra
    obtain ⟨hy, _⟩ := rb
    rw [hx, hy] at fin
    split
    · rename_i hd
      have hu : P.underlying t = some .bool := by rw [hd] at H; exact H
      exact fin fun _ => ⟨by intro w; simp [eqGuard], _, fun w => run_eql_bool (w := w) t _ _ hu, rfl, rfl⟩
    · rename_i hd
      have hu : P.underlying t = some .bool := by rw [hd] at H; exact H
      exact fin fun _ => ⟨by intro w; simp [eqGuard], _, fun w => run_neq_bool (w := w) t _ _ hu, rfl, rfl⟩
    · trivial
  · obtain ⟨hx, _⟩ := ra
    obtain ⟨hy, _⟩ := rb
    rw [hx, hy] at fin
    split
    · exact fin fun _ => ⟨by intro w; simp [eqGuard], _, by intro w; simp [binOp, Op.stringOp] <;> rfl, rfl, rfl⟩
    · exact fin fun _ => ⟨by intro w; simp [eqGuard], _, by intro w; simp [binOp, Op.stringOp] <;> rfl, rfl, rfl⟩
    · refine fin fun hp => ⟨by intro w; simp [eqGuard], _, fun w => ?_, rfl, rfl⟩
      have hm : IntKind.i64.max = 9223372036854775807 := rfl
      simp only [binOp, Op.stringOp]
      rw [if_neg (by rw [hm]; omega), Sem.run_pure]
    · trivial
  · obtain ⟨hi, hx⟩ := ra
    obtain ⟨hy, _⟩ := rb
    rw [hx, hy] at fin
    split
    · rename_i hd
      rw [hd] at H
      obtain ⟨e, hu⟩ := H
      exact fin fun _ => ⟨by intro w; simp [eqGuard], _, fun w => (run_eql_ptr (w := w) t e _ hu).1, rfl, rfl⟩
    · rename_i hd
      rw [hd] at H
      obtain ⟨e, hu⟩ := H
      exact fin fun _ => ⟨by intro w; simp [eqGuard], _, fun w => (run_eql_ptr (w := w) t e _ hu).2, rfl, rfl⟩
    · trivial
  · obtain ⟨hx, _⟩ := ra
    obtain ⟨hy, _⟩ := rb
    rw [hx, hy] at fin
    split
    · rename_i hd
      rw [hd] at H
      obtain ⟨e, hu⟩ := H
      exact fin fun _ => ⟨by intro w; simp [eqGuard], _, fun w => (run_eql_ptr (w := w) t e _ hu).1, rfl, rfl⟩
    · rename_i hd
      rw [hd] at H
      obtain ⟨e, hu⟩ := H
      exact fin fun _ => ⟨by intro w; simp [eqGuard], _, fun w => (run_eql_ptr (w := w) t e _ hu).2, rfl, rfl⟩
    · trivial
  · rename_i c _ _
    obtain ⟨hy, _⟩ := rb
    have hx : 0 < c → ∃ a n, E x = .slice (some a) n c := fun hc => by
      rcases ra with ⟨_, h0, _⟩ | ⟨_, _, hx⟩
      · omega
      · exact ⟨_, _, hx⟩
    split
    · rename_i e hd
      rw [hd] at H
      refine fin fun hp => ?_
      obtain ⟨a, n, hx⟩ := hx hp
      rw [hx, hy]
      exact ⟨by intro w; simp [eqGuard], _, fun w => Lib.run_eql_slice_nil w t e _ _ _ _ _ H, rfl, rfl⟩
    · rename_i e hd
      rw [hd] at H
      refine fin fun hp => ?_
      obtain ⟨a, n, hx⟩ := hx hp
      rw [hx, hy]
      exact ⟨by intro w; simp [eqGuard], _, fun w => run_neq_slice_nil_any w t e _ _ _ _ _ H, rfl, rfl⟩
    · trivial
  · rename_i c _ _
    obtain ⟨hy, _⟩ := rb
    have hx : 0 < c → ∃ a n, E x = .slice (some a) n c := fun hc => by
      simp only [SV.rel, SC.rel, RC.rel] at ra
      rcases ra with ⟨_, h0, _⟩ | ⟨_, b, o, hx, _⟩
      · omega
      · exact ⟨_, _, hx⟩
    split
    · rename_i e hd
      rw [hd] at H
      refine fin fun hp => ?_
      obtain ⟨a, n, hx⟩ := hx hp
      rw [hx, hy]
      exact ⟨by intro w; simp [eqGuard], _, fun w => Lib.run_eql_slice_nil w t e _ _ _ _ _ H, rfl, rfl⟩
    · rename_i e hd
      rw [hd] at H
      refine fin fun hp => ?_
      obtain ⟨a, n, hx⟩ := hx hp
      rw [hx, hy]
      exact ⟨by intro w; simp [eqGuard], _, fun w => run_neq_slice_nil_any w t e _ _ _ _ _ H, rfl, rfl⟩
    · trivial
  · obtain ⟨hx, _⟩ := ra
    obtain ⟨hy, _⟩ := rb
    rw [hx, hy] at fin
    split
    · rename_i e hd
      rw [hd] at H
      exact fin fun _ => ⟨by intro w; simp [eqGuard], _, fun w => Lib.run_eql_slice_nil w t e _ _ _ _ _ H, rfl, rfl⟩
    · rename_i e hd
      rw [hd] at H
      exact fin fun _ => ⟨by intro w; simp [eqGuard], _, fun w => run_neq_slice_nil_any w t e _ _ _ _ _ H, rfl, rfl⟩
    · trivial
  · cases hf : flat t
    · simp only [cond_false]; trivial
    · simp only [cond_true]
      obtain ⟨us, hx, r1⟩ := ra
      obtain ⟨vs, hy, r2⟩ := rb
      rw [hx, hy] at fin
      have HF := hflat t ti hf ht
      split
      · rename_i b he
        obtain ⟨e1, e2⟩ := eqCells_vals he r1 r2
        refine fin fun hp => ?_
        have hg := fun w => HF w x y us vs b (by rw [e1, List.map_map] at hp; rw [← hp]; exact List.map_congr_left fun v _ => (isB_v v).symm) (by rw [← e1, ← e2]; exact he)
        exact ⟨fun w => (hg w).1, _, fun w => (hg w).2.2.1, rfl, rfl⟩
      · rename_i b he
        obtain ⟨e1, e2⟩ := eqCells_vals he r1 r2
        refine fin fun hp => ?_
        have hg := fun w => HF w x y us vs b (by rw [e1, List.map_map] at hp; rw [← hp]; exact List.map_congr_left fun v _ => (isB_v v).symm) (by rw [← e1, ← e2]; exact he)
        exact ⟨fun w => (hg w).2.1, _, fun w => (hg w).2.2.2, rfl, rfl⟩
      · trivial
  · obtain ⟨hx, _⟩ := ra
    obtain ⟨hy, _⟩ := rb
    rw [hx, hy] at fin
    split
    · rename_i e hd
      rw [hd] at H
      exact fin fun _ => ⟨by intro w; simp [eqGuard], _, fun w => Lib.run_eql_slice_nil w t e _ _ _ _ _ H, rfl, rfl⟩
    · rename_i e hd
      rw [hd] at H
      exact fin fun _ => ⟨by intro w; simp [eqGuard], _, fun w => run_neq_slice_nil_any w t e _ _ _ _ _ H, rfl, rfl⟩
    · trivial
  · trivial


/-! ### Builtins -/
omit hT in
theorem run_builtin {o : Oper} {b : Builtin} {args : Array Operand} {ts : Array TypeId} (ho : o.op = .call { callee := .builtin b, args, argTypes := ts }) {q : Sem Value} {vs : Array Value} (hv : args.map E = vs)
    (hb : ∀ cs, builtin b ts o.type cs vs = (do pure (.value (← q)))) {y : Value} {w' : World} (hq : q.run P w = .ok y w') :
    (execOp E o).run P w = .ok (.value y) w' := by
  simp only [execOp, ho, resolve, Sem.run_bind, Sem.run_pure, Result.andThen_ok, invoke]
  rw [hv, hb]
  simp only [Sem.run_bind, hq, Result.andThen_ok, Sem.run_pure]

omit hT in
theorem ok_len {o : Oper} {x : Operand} {t : TypeId} {ts : Array TypeId} (ho : o.op = .call { callee := .builtin .len, args := #[x], argTypes := ts }) (ht : ts[0]? = some t) {ti : TI} (H : descOk P t ti.desc) :
    (∀ a n c e, E x = .slice a n c → ti.desc = .slice e → OutOK P h ρ w E o.op ((execOp E o).run P) (.val True (.c (.v (.int .i64 n))))) ∧
    (∀ s, E x = .string s → ti.desc = .str → OutOK P h ρ w E o.op ((execOp E o).run P) (.val True (.c (.v (.int .i64 s.size))))) := by
  constructor
  · intro a n c e hx hd _
    rw [hd] at H
    have hu : P.underlying t = some (.slice e) := H
    exact ⟨_, fun w _ => run_builtin (w := w) ho (q := Builtin.len_ ts o.type #[E x]) (by simp) (fun _ => rfl) (by simp [Builtin.len_, ht, hx, run_underlying hu, goInt] <;> rfl), rfl, rfl⟩
  · intro s hx hd _
    rw [hd] at H
    have hu : P.underlying t = some .string := H
    exact ⟨_, fun w _ => run_builtin (w := w) ho (q := Builtin.len_ ts o.type #[E x]) (by simp) (fun _ => rfl) (by simp [Builtin.len_, ht, hx, run_underlying hu, goInt] <;> rfl), rfl, rfl⟩

omit hT in
theorem ok_cap {o : Oper} {x : Operand} {t : TypeId} {ts : Array TypeId} (ho : o.op = .call { callee := .builtin .cap, args := #[x], argTypes := ts }) (ht : ts[0]? = some t) {ti : TI} (H : descOk P t ti.desc)
    {a : Option Addr} {n c : Nat} {e : TypeId} (hx : E x = .slice a n c) (hd : ti.desc = .slice e) : OutOK P h ρ w E o.op ((execOp E o).run P) (.val True (.c (.v (.int .i64 c)))) := by
  intro _
  rw [hd] at H
  have hu : P.underlying t = some (.slice e) := H
  exact ⟨_, fun w _ => run_builtin (w := w) ho (q := Builtin.cap_ ts o.type #[E x]) (by simp) (fun _ => rfl) (by simp [Builtin.cap_, ht, hx, run_underlying hu, goInt] <;> rfl), rfl, rfl⟩

omit hT in
theorem ok_minmax {o : Oper} {x y : Operand} {ts : Array TypeId} {k k' : IntKind} {a b : Int} (hx : E x = .int k a) (hy : E y = .int k' b) :
    (o.op = .call { callee := .builtin .max, args := #[x, y], argTypes := ts } → OutOK P h ρ w E o.op ((execOp E o).run P) (.val True (.c (.v (.int k (if b > a then b else a)))))) ∧
    (o.op = .call { callee := .builtin .min, args := #[x, y], argTypes := ts } → OutOK P h ρ w E o.op ((execOp E o).run P) (.val True (.c (.v (.int k (if b < a then b else a)))))) := by
  constructor
  · intro ho _
    exact ⟨_, fun w _ => run_builtin (w := w) ho (q := Builtin.max_ ts o.type #[E x, E y]) (by simp) (fun _ => rfl) (by rw [hx, hy]; exact run_max_int2 w ts o.type k k' a b), rfl, rfl⟩
  · intro ho _
    exact ⟨_, fun w _ => run_builtin (w := w) ho (q := Builtin.min_ ts o.type #[E x, E y]) (by simp) (fun _ => rfl) (by rw [hx, hy]; exact run_min_int2 w ts o.type k k' a b), rfl, rfl⟩

omit hT in
/-- The cells of a source. -/
theorem run_first {a : Addr} {n c size : Nat} {ys : List Value} (hl : ys.length = n * size) (hc : ∀ (j : Nat) (y : Value), ys[j]? = some y → w.cell? (a.add j) = some y) :
    (Builtin.firstCells size n (.slice (some a) n c)).run P w = .ok ys.toArray w := by
  have := run_loadCells_at (P := P) hc
  rw [hl] at this
  simpa [Builtin.firstCells] using this

omit hT in
/-- What stands behind a source: its cells. -/
structure Src (P : Program) (w : World) (ρ : Rho) (size : Nat) (news : List SC) (m : Nat) (y : Value) (ys : List Value) : Prop where
  rel : RelL ρ news ys
  len : ys.length = m * size
  val : (m = 0 ∧ ∃ p, y = .slice p 0 0) ∨ ∃ a d, y = .slice (some a) m d ∧ ∀ (j : Nat) (v : Value), ys[j]? = some v → w.cell? (a.add j) = some v

omit hT in
theorem Src.first {size : Nat} {news : List SC} {m : Nat} {y : Value} {ys : List Value} (S : Src P w ρ size news m y ys) : ∃ xa d, y = .slice xa m d ∧ ∀ k, k ≤ m → (Builtin.firstCells size k (.slice xa m d)).run P w = .ok (ys.take (k * size)).toArray w := by
  rcases S.val with ⟨h0, p, hy⟩ | ⟨a, d, hy, hc⟩
  · subst h0
    refine ⟨p, 0, hy, fun k hk => ?_⟩
    have hk0 : k = 0 := by omega
    subst hk0
    cases p with
    | none => simp [Builtin.firstCells]
    | some a => simp [Builtin.firstCells, loadCells, loadCellsFrom]
  · refine ⟨some a, d, hy, fun k hk => ?_⟩
    have hl : (ys.take (k * size)).length = k * size := by
      rw [List.length_take, S.len, Nat.min_eq_left (Nat.mul_le_mul_right _ hk)]
    have := run_loadCells_at (P := P) (w := w) (a := a) (ys := ys.take (k * size)) (fun j v hj => by
      rw [List.getElem?_take] at hj
      split at hj
      · exact hc j v hj
      · cases hj)
    rw [hl] at this
    simpa [Builtin.firstCells] using this

include M in
omit hT in
theorem srcOf_ok {sz : Nat} {y : SC} {p : Prop} {news : List SC} {m : Nat} (hs : srcOf h sz y = some (p, news, m)) {v : Value} (r : y.rel ρ v) (hp : p) : ∃ ys, Src P w ρ sz news m v ys := by
  unfold srcOf at hs
  split at hs
  · rename_i j q m' d
    cases hs
    rcases r with ⟨rfl, rfl, p, hy⟩ | ⟨hj, hmd, hy⟩
    · have hw : win h j q (0 * sz) = [] := by unfold win; split <;> simp
      exact ⟨[], by rw [hw]; exact RelL.nil, by simp, .inl ⟨rfl, p, hy⟩⟩
    · obtain ⟨ys, r1, r2, r3⟩ := win_vals M hp hj
      exact ⟨ys, r1, r2, .inr ⟨_, d, hy, r3⟩⟩
  · cases hs
    exact ⟨[], RelL.nil, by simp, .inl ⟨rfl, none, r.1⟩⟩
  · rename_i cs m' d
    cases hs
    simp only [SC.rel, RC.rel] at r
    rcases r with ⟨rfl, rfl, p, hy⟩ | ⟨hnc, b, o, hy, hz, hL⟩
    · exact ⟨[], by simp; exact RelL.nil, by simp, .inl ⟨rfl, p, hy⟩⟩
    · obtain ⟨ys, r1, r3⟩ := M.zvals hz hL
      have hlen := r1.1
      simp only [List.length_map] at hlen
      refine ⟨ys.take (m * sz), by rw [List.map_take]; exact r1.take _, by rw [List.length_take]; omega, .inr ⟨_, d, hy, fun j v hj => ?_⟩⟩
      rw [List.getElem?_take] at hj
      split at hj
      · rw [Addr.add_lit]; exact r3 j v hj
      · cases hj
  · cases hs
    exact ⟨[], RelL.nil, by simp, .inl ⟨rfl, some _, r.1⟩⟩
  · cases hs

include M in
theorem ok_copy_gen {o : Oper} {x y : Operand} {t t' : TypeId} (ho : o.op = .call { callee := .builtin .copy, args := #[x, y], argTypes := #[t, t'] }) {i k n c : Nat}
    (rx : SC.rel ρ (.sl i k n c) (E x)) {e : TypeId} {sz by' : Nat} {z : List Value} (ht : T t = some ⟨.slice e, sz, by', z⟩) {ti : TI} (hte : T e = some ti)
    {news : List SC} {m : Nat} {ys : List Value} (S : Src P w ρ ti.size news m (E y) ys) :
    OutOK P h ρ w E o.op ((execOp E o).run P) (.mem (ownW h i = true ∧ k + min m n * ti.size ≤ lenW h i) (.c (.v (.int .i64 (min m n : Nat)))) (lay h i k (news.take (min m n * ti.size)))) := by
  rintro ⟨h1, h2⟩
  obtain ⟨xa, d, hy, hf⟩ := S.first
  have hf := hf (min m n) (Nat.min_le_left _ _)
  have hu : P.underlying t = some (.slice e) := (hT t _ ht).desc
  have H := hT e ti hte
  have hb : ∃ b, h[i]? = some b := by
    unfold ownW at h1
    split at h1
    · rename_i b hb; exact ⟨b, hb⟩
    · cases h1
  obtain ⟨b, hb⟩ := hb
  simp only [ownW, hb] at h1
  simp only [lenW, hb] at h2
  have r1 := S.rel.take (min m n * ti.size)
  have r2 : (ys.take (min m n * ti.size)).length = min m n * ti.size := by
    rw [List.length_take, S.len, Nat.min_eq_left (Nat.mul_le_mul_right _ (Nat.min_le_left _ _))]
  generalize ys.take (min m n * ti.size) = ys' at *
  obtain ⟨cur, g0, g1, g2, g3, g4⟩ := M.write (o := k) hb h1 r1 (by rw [r1.1, r2]; omega)
  refine ⟨_, ρ, Step.lay hb h1 g3 g4, ?_, .inr ⟨by rw [ho]; rfl, .int .i64 (min m n : Nat), ?_, rfl, rfl⟩⟩
  · intro hl; rw [ho] at hl; cases hl
  have e0 : Nat.min m n = min m n := rfl
  have hst : ∃ xb, E x = .slice xb n c ∧ ((xb = none ∧ w = w.setRow (ρ.f i).1 (cur.take k ++ ys' ++ cur.drop (k + ys'.length)).toArray) ∨ ∃ a, xb = some a ∧ (storeCells a ys').run P w = .ok () (w.setRow (ρ.f i).1 (cur.take k ++ ys' ++ cur.drop (k + ys'.length)).toArray)) := by
    rcases rx with ⟨rfl, rfl, p, hx⟩ | ⟨hi, hnc, hx⟩
    · have : ys' = [] := List.eq_nil_of_length_eq_zero (by rw [r2]; simp)
      subst this
      have e1 : w.setRow (ρ.f i).1 (cur.take k ++ [] ++ cur.drop (k + ([] : List Value).length)).toArray = w := by
        simp only [List.append_nil, List.length_nil, Nat.add_zero, List.take_append_drop]
        exact g1.self
      rw [e1]
      refine ⟨p, hx, ?_⟩
      cases p with
      | none => exact .inl ⟨rfl, rfl⟩
      | some a => exact .inr ⟨a, rfl, by simp [storeCells]⟩
    · exact ⟨_, hx, .inr ⟨_, rfl, run_storeCells_win g0 g1 (by rw [r2]; omega) r1.one⟩⟩
  obtain ⟨xb, hx, hst⟩ := hst
  clear g3 g4
  generalize w.setRow (ρ.f i).1 (cur.take k ++ ys' ++ cur.drop (k + ys'.length)).toArray = w' at *
  have hq : (Builtin.copy_ #[t, t'] o.type #[E x, E y]).run P w = .ok (.int .i64 (min m n : Nat)) w' := by
    rcases hst with ⟨rfl, rfl⟩ | ⟨a, rfl, hst⟩
    · simp [Builtin.copy_, hx, hy, run_underlying hu, Builtin.lenOf, H.sizeOf, e0, hf, goInt]
    · simp [Builtin.copy_, hx, hy, run_underlying hu, Builtin.lenOf, H.sizeOf, e0, hf, hst, goInt]
  exact run_builtin ho (by simp) (fun _ => rfl) hq

include M in
theorem ok_copy_str {o : Oper} {x y : Operand} {t t' : TypeId} (ho : o.op = .call { callee := .builtin .copy, args := #[x, y], argTypes := #[t, t'] }) {i k n c : Nat} {s : ByteArray}
    (rx : SC.rel ρ (.sl i k n c) (E x)) (ry : E y = .string s) {e : TypeId} {sz by' : Nat} {z : List Value} (ht : T t = some ⟨.slice e, sz, by', z⟩) {c1 c2 : Nat} {c3 : List Value} (hte : T e = some ⟨.int .u8, c1, c2, c3⟩) :
    OutOK P h ρ w E o.op ((execOp E o).run P) (.mem (ownW h i = true ∧ k + min s.size n ≤ lenW h i) (.c (.v (.int .i64 (min s.size n : Nat)))) (lay h i k ((s.data.toList.take (min s.size n)).map byteC))) := by
  rintro ⟨h1, h2⟩
  have hu : P.underlying t = some (.slice e) := (hT t _ ht).desc
  have H := hT e _ hte
  have hb : ∃ b, h[i]? = some b := by
    unfold ownW at h1
    split at h1
    · rename_i b hb; exact ⟨b, hb⟩
    · cases h1
  obtain ⟨b, hb⟩ := hb
  simp only [ownW, hb] at h1
  simp only [lenW, hb] at h2
  have r1 : RelL ρ ((s.data.toList.take (min s.size n)).map byteC) ((s.data.toList.take (min s.size n)).map fun b => Value.int .u8 b.toNat) := by
    have := RelL.vs (ρ := ρ) (l := (s.data.toList.take (min s.size n)).map fun x => Value.int .u8 x.toNat) (by intro x hx; simp only [List.mem_map] at hx; obtain ⟨y, _, rfl⟩ := hx; rfl)
    have e : byteC = fun x => SC.v (Value.int .u8 x.toNat) := rfl
    rw [e]
    simpa [Function.comp_def] using this
  have hlen : ((s.data.toList.take (min s.size n)).map fun b => Value.int .u8 b.toNat).length = min s.size n := by
    have : s.data.toList.length = s.size := by simp
    simp only [List.length_map, List.length_take, this]; omega
  obtain ⟨cur, g0, g1, g2, g3, g4⟩ := M.write (o := k) hb h1 r1 (by rw [r1.1, hlen]; omega)
  refine ⟨_, ρ, Step.lay hb h1 g3 g4, ?_, .inr ⟨by rw [ho]; rfl, .int .i64 (min s.size n : Nat), ?_, rfl, rfl⟩⟩
  · intro hl; rw [ho] at hl; cases hl
  have hst : ∃ xb, E x = .slice xb n c ∧ ((xb = none ∧ w = w.setRow (ρ.f i).1 (cur.take k ++ ((s.data.toList.take (min s.size n)).map fun b => Value.int .u8 b.toNat) ++ cur.drop (k + ((s.data.toList.take (min s.size n)).map fun b => Value.int .u8 b.toNat).length)).toArray) ∨
      ∃ a, xb = some a ∧ (storeCells a ((s.data.toList.take (min s.size n)).map fun b => Value.int .u8 b.toNat)).run P w = .ok () (w.setRow (ρ.f i).1 (cur.take k ++ ((s.data.toList.take (min s.size n)).map fun b => Value.int .u8 b.toNat) ++ cur.drop (k + ((s.data.toList.take (min s.size n)).map fun b => Value.int .u8 b.toNat).length)).toArray)) := by
    rcases rx with ⟨rfl, rfl, p, hx⟩ | ⟨hi, hnc, hx⟩
    · have h0 : ((s.data.toList.take (min s.size 0)).map fun b => Value.int .u8 b.toNat) = [] := by simp
      rw [h0]
      have e1 : w.setRow (ρ.f i).1 (cur.take k ++ [] ++ cur.drop (k + ([] : List Value).length)).toArray = w := by
        simp only [List.append_nil, List.length_nil, Nat.add_zero, List.take_append_drop]
        exact g1.self
      rw [e1]
      refine ⟨p, hx, ?_⟩
      cases p with
      | none => exact .inl ⟨rfl, rfl⟩
      | some a => exact .inr ⟨a, rfl, by simp [storeCells]⟩
    · exact ⟨_, hx, .inr ⟨_, rfl, run_storeCells_win g0 g1 (by rw [hlen]; omega) r1.one⟩⟩
  obtain ⟨xb, hx, hst⟩ := hst
  have hcells : ((s.extract 0 (min s.size n)).data.map fun b => Value.int .u8 b.toNat).toList = ((s.data.toList.take (min s.size n)).map fun b => Value.int .u8 b.toNat) := by
    rw [Array.toList_map]
    congr 1
    simp [ByteArray.data_extract, List.extract_eq_take_drop]
  have e0 : Nat.min s.size n = min s.size n := rfl
  have hfc : ∀ sz, (Builtin.firstCells sz (min s.size n) (.string s)).run P w = .ok ((s.data.toList.take (min s.size n)).map fun b => Value.int .u8 b.toNat).toArray w := by
    intro sz
    simp only [Builtin.firstCells, Sem.run_pure]
    rw [← hcells, Array.toArray_toList]
  clear hcells r1 g3 g4 hlen
  generalize ((s.data.toList.take (min s.size n)).map fun b => Value.int .u8 b.toNat) = L at *
  generalize w.setRow (ρ.f i).1 (cur.take k ++ L ++ cur.drop (k + L.length)).toArray = w' at *
  have hq : (Builtin.copy_ #[t, t'] o.type #[E x, E y]).run P w = .ok (.int .i64 (min s.size n : Nat)) w' := by
    rcases hst with ⟨rfl, rfl⟩ | ⟨a, rfl, hst⟩
    · simp [Builtin.copy_, hx, ry, run_underlying hu, Builtin.lenOf, H.sizeOf, e0, hfc, goInt]
    · simp [Builtin.copy_, hx, ry, run_underlying hu, Builtin.lenOf, H.sizeOf, e0, hfc, hst, goInt]
  exact run_builtin ho (by simp) (fun _ => rfl) hq

include M in
theorem ok_clear {o : Oper} {x : Operand} {t : TypeId} (ho : o.op = .call { callee := .builtin .clear, args := #[x], argTypes := #[t] }) {i k n c : Nat}
    (rx : SC.rel ρ (.sl i k n c) (E x)) {e : TypeId} {sz by' : Nat} {z : List Value} (ht : T t = some ⟨.slice e, sz, by', z⟩) {ti : TI} (hte : T e = some ti) :
    OutOK P h ρ w E o.op ((execOp E o).run P) (.mem (ownW h i = true ∧ k + n * ti.size ≤ lenW h i) (.tup []) (lay h i k (List.replicate n (ti.zero.map SC.v)).flatten)) := by
  rintro ⟨h1, h2⟩
  have hu : P.underlying t = some (.slice e) := (hT t _ ht).desc
  obtain ⟨inf, zz, q1, q2, q3, q4, q5, _, q7⟩ := mk_flat (ρ := ρ) (hT e ti hte) n
  obtain ⟨_, _, _, _, _, _, _, h6, _⟩ := (hT e ti hte).info
  have hb : ∃ b, h[i]? = some b := by
    unfold ownW at h1
    split at h1
    · rename_i b hb; exact ⟨b, hb⟩
    · cases h1
  obtain ⟨b, hb⟩ := hb
  simp only [ownW, hb] at h1
  simp only [lenW, hb] at h2
  have hlen : ((List.replicate n ti.zero).flatten).length = n * ti.size := by
    have : ∀ m : Nat, ((List.replicate m ti.zero).flatten).length = m * ti.size := fun m => by
      induction m with
      | zero => simp
      | succ m ih => rw [List.replicate_succ, List.flatten_cons, List.length_append, ih, h6, Nat.succ_mul, Nat.add_comm]
    exact this n
  obtain ⟨cur, g0, g1, g2, g3, g4⟩ := M.write (o := k) hb h1 q7 (by rw [q7.1, hlen]; omega)
  refine ⟨_, ρ, Step.lay hb h1 g3 g4, ?_, .inr ⟨by rw [ho]; rfl, .tuple #[], ?_, ⟨#[], rfl, rfl, fun j c z h => by simp at h⟩⟩⟩
  · intro hl; rw [ho] at hl; cases hl
  have hq : (Builtin.clear_ #[t] o.type #[E x]).run P w = .ok (.tuple #[]) (w.setRow (ρ.f i).1 (cur.take k ++ (List.replicate n ti.zero).flatten ++ cur.drop (k + (List.replicate n ti.zero).flatten.length)).toArray) := by
    cases n with
    | zero =>
      have e1 : w.setRow (ρ.f i).1 (cur.take k ++ (List.replicate 0 ti.zero).flatten ++ cur.drop (k + (List.replicate 0 ti.zero).flatten.length)).toArray = w := by
        simp only [List.replicate_zero, List.flatten_nil, List.append_nil, List.length_nil, Nat.add_zero, List.take_append_drop]
        exact g1.self
      rw [e1]
      have hx : ∃ p d, E x = .slice p 0 d := by
        rcases rx with ⟨_, _, p, hx⟩ | ⟨_, _, hx⟩
        · exact ⟨p, 0, hx⟩
        · exact ⟨_, _, hx⟩
      obtain ⟨p, d, hx⟩ := hx
      cases p <;> simp [Builtin.clear_, hx, run_underlying hu]
    | succ m =>
      obtain ⟨hi, hnc, hx⟩ : i < ρ.n ∧ m + 1 ≤ c ∧ E x = .slice (some (ρ.at i k)) (m + 1) c := by
        rcases rx with ⟨h0, _⟩ | h
        · omega
        · exact h
      have hst : (storeCells (ρ.at i k) (List.replicate (m + 1) ti.zero).flatten).run P w = .ok () (w.setRow (ρ.f i).1 (cur.take k ++ (List.replicate (m + 1) ti.zero).flatten ++ cur.drop (k + (List.replicate (m + 1) ti.zero).flatten.length)).toArray) := run_storeCells_win g0 g1 (by rw [hlen]; omega) q7.one
      simp [Builtin.clear_, hx, run_underlying hu, zeroValue, typeInfo, q1, q2, q5, hst]
  exact run_builtin ho (by simp) (fun _ => rfl) hq

omit M in
theorem ok_copy_nil {o : Oper} {x y : Operand} {t t' : TypeId} (ho : o.op = .call { callee := .builtin .copy, args := #[x, y], argTypes := #[t, t'] }) {e : TypeId} {sz by' : Nat} {z : List Value} (ht : T t = some ⟨.slice e, sz, by', z⟩) {ti : TI} (hte : T e = some ti)
    {a b : Option Addr} {n c m d : Nat} (hx : E x = .slice a n c) (hy : E y = .slice b m d) (h0 : n = 0 ∨ m = 0) :
    OutOK P h ρ w E o.op ((execOp E o).run P) (.val True (.c (.v (.int .i64 0)))) := by
  intro _
  have hu : P.underlying t = some (.slice e) := (hT t _ ht).desc
  have H := hT e ti hte
  have hmn : Nat.min m n = 0 := by
    have : Nat.min m n = min m n := rfl
    rcases h0 with h | h <;> omega
  have hf : ∀ w, (Builtin.firstCells ti.size 0 (.slice b m d)).run P w = .ok #[] w := by
    intro w
    cases b with
    | none => simp [Builtin.firstCells]
    | some a => simp [Builtin.firstCells, loadCells, loadCellsFrom]
  have hq : ∀ w, (Builtin.copy_ #[t, t'] o.type #[E x, E y]).run P w = .ok (.int .i64 0) w := by
    intro w
    cases a with
    | none => simp [Builtin.copy_, hx, hy, run_underlying hu, Builtin.lenOf, H.sizeOf, hmn, hf, goInt]
    | some a => simp [Builtin.copy_, hx, hy, run_underlying hu, Builtin.lenOf, H.sizeOf, hmn, hf, goInt, storeCells]
  exact ⟨_, fun w _ => run_builtin (w := w) ho (by simp) (fun _ => rfl) (hq w), rfl, rfl⟩

end
end Go.Proofs.Ythbojoiogjdbeaa.Sx
