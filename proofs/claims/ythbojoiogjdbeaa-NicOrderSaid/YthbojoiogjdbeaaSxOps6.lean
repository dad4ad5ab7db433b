/- A symbolic executor for the model's code: all operations together. No condition. -/
import Derived.Test.YthbojoiogjdbeaaSxOps5
namespace Go.Proofs.Ythbojoiogjdbeaa.Sx
open Go
set_option linter.unusedSectionVars false
set_option linter.unusedVariables false
variable {P : Program} {w : World} {ρ : Rho} {h : List SB}

theorem RelO.get {E : Operand → Value} {ss : List SV} {os : List Operand} (r : RelO ρ E ss os) : ss.length = os.length := r.1

section
variable {T : TypeId → Option TI} (hT : TOk P T) {flat : TypeId → Bool} (hflat : ∀ t ti, flat t = true → T t = some ti → FlatOk P t ti.zero) (M : Models h ρ w) {E : Operand → Value}
include hT M

theorem opB_ok {o : Oper} {b : Builtin} {args : Array Operand} {ts : Array TypeId} (ho : o.op = .call { callee := .builtin b, args, argTypes := ts }) {ss : List SV} (r : RelO ρ E ss args.toList) :
    OutOK P h ρ w E o.op ((execOp E o).run P) (opB T h b ts.toList ss) := by
  have a1 : ∀ {s : SV}, ss = [s] → ∃ x, args = #[x] ∧ s.rel ρ (E x) := by
    intro s hs
    subst hs
    obtain ⟨l⟩ := args
    match l, r with
    | [x], r => exact ⟨x, rfl, r.one⟩
    | [], r => have := r.1; simp at this
    | _ :: _ :: _, r => have := r.1; simp at this
  have a2 : ∀ {s s' : SV}, ss = [s, s'] → ∃ x y, args = #[x, y] ∧ s.rel ρ (E x) ∧ s'.rel ρ (E y) := by
    intro s s' hs
    subst hs
    obtain ⟨l⟩ := args
    match l, r with
    | [x, y], r => exact ⟨x, y, rfl, r.two⟩
    | [], r => have := r.1; simp at this
    | [_], r => have := r.1; simp at this
    | _ :: _ :: _ :: _, r => have := r.1; simp at this
  have t1 : ∀ {t : TypeId}, ts.toList = [t] → ts = #[t] := fun h => by rw [← Array.toArray_toList (xs := ts), h]
  have t2 : ∀ {t t' : TypeId}, ts.toList = [t, t'] → ts = #[t, t'] := fun h => by rw [← Array.toArray_toList (xs := ts), h]
  have sl : ∀ {i o n c : Nat} {v : Value}, SC.rel ρ (.sl i o n c) v → ∃ p, v = .slice p n c := by
    intro i o n c v r
    rcases r with ⟨rfl, rfl, p, h⟩ | ⟨_, _, h⟩
    · exact ⟨p, h⟩
    · exact ⟨_, h⟩
  have rol : ∀ {cs : List RC} {n c : Nat} {v : Value}, SC.rel ρ (.ro cs n c) v → ∃ p, v = .slice p n c := by
    intro cs n c v r
    simp only [SC.rel, RC.rel] at r
    rcases r with ⟨rfl, rfl, p, h⟩ | ⟨_, b, o, h, _⟩
    · exact ⟨p, h⟩
    · exact ⟨_, h⟩
  unfold opB
  split
  · rename_i t _ _ n _ hts
    obtain ⟨x, rfl, rx⟩ := a1 rfl
    obtain ⟨p, hx⟩ := sl rx
    have := t1 hts
    subst this
    split
    · rename_i ht
      exact (ok_len ho (t := t) rfl (hT t _ ht).desc).1 _ _ _ _ hx rfl
    · trivial
  · rename_i t n _ hts
    obtain ⟨x, rfl, rx⟩ := a1 rfl
    obtain ⟨hx, _⟩ := rx
    have := t1 hts
    subst this
    split
    · rename_i ht
      exact (ok_len ho (t := t) rfl (hT t _ ht).desc).1 _ _ _ _ hx rfl
    · trivial
  · rename_i t s hts
    obtain ⟨x, rfl, rx⟩ := a1 rfl
    obtain ⟨hx, _⟩ := rx
    have := t1 hts
    subst this
    split
    · rename_i ht
      exact (ok_len ho (t := t) rfl (hT t _ ht).desc).2 _ hx rfl
    · trivial
  · rename_i t _ _ _ c hts
    obtain ⟨x, rfl, rx⟩ := a1 rfl
    obtain ⟨p, hx⟩ := sl rx
    have := t1 hts
    subst this
    split
    · rename_i ht
      exact ok_cap ho (t := t) rfl (hT t _ ht).desc hx rfl
    · trivial
  · rename_i t _ n _ hts
    obtain ⟨x, rfl, rx⟩ := a1 rfl
    obtain ⟨p, hx⟩ := rol rx
    have := t1 hts
    subst this
    split
    · rename_i ht
      exact (ok_len ho (t := t) rfl (hT t _ ht).desc).1 _ _ _ _ hx rfl
    · trivial
  · rename_i t _ _ c hts
    obtain ⟨x, rfl, rx⟩ := a1 rfl
    obtain ⟨p, hx⟩ := rol rx
    have := t1 hts
    subst this
    split
    · rename_i ht
      exact ok_cap ho (t := t) rfl (hT t _ ht).desc hx rfl
    · trivial
  · obtain ⟨x, y, rfl, ⟨hx, _⟩, ⟨hy, _⟩⟩ := a2 rfl
    exact (ok_minmax hx hy).1 ho
  · obtain ⟨x, y, rfl, ⟨hx, _⟩, ⟨hy, _⟩⟩ := a2 rfl
    exact (ok_minmax hx hy).2 ho
  · rename_i t t' s y0 hts
    obtain ⟨x, y, rfl, rx, ry⟩ := a2 rfl
    have := t2 hts
    subst this
    by_cases htt : t = t'
    · subst htt
      simp only [beq_self_eq_true, Bool.not_true, cond_false]
      split
      · rename_i e _ _ _ ht
        split
        · rename_i ti hte
          split
          · rename_i q news m hsr
            have key : ∀ hq : q, OutOK P h ρ w E o.op ((execOp E o).run P) (opAppend h e ti s news m) := by
              intro hq
              obtain ⟨ys, S⟩ := srcOf_ok (P := P) M hsr ry hq
              exact ok_append hT M ho rx ht hte S
            split
            · rename_i p need cap room grow hap
              rw [hap] at key
              rintro ⟨hp, hq⟩
              exact key hq hp
            · rename_i hno
              have hshape : opAppend h e ti s news m = .bad ∨ ∃ p need cap room grow, opAppend h e ti s news m = .app p need cap room grow := by
                unfold opAppend
                split
                · exact .inr ⟨_, _, _, _, _, rfl⟩
                · exact .inr ⟨_, _, _, _, _, rfl⟩
                · exact .inr ⟨_, _, _, _, _, rfl⟩
                · exact .inl rfl
              rcases hshape with h1 | ⟨p, need, cap, room, grow, h1⟩
              · rw [h1]; trivial
              · exact absurd h1 (hno p need cap room grow)
          · trivial
        · trivial
      · trivial
    · have : (t == t') = false := by simpa using htt
      simp only [this, Bool.not_false, cond_true]
      trivial
  · rename_i t t' _ _ _ _ _ hts
    obtain ⟨x, y, rfl, rx, ry⟩ := a2 rfl
    have := t2 hts
    subst this
    split
    · rename_i ht
      split
      · rename_i hte
        exact ok_copy_str hT M ho rx ry.1 ht hte
      · trivial
    · trivial
  · rename_i t t' _ _ _ _ _ _ hts
    obtain ⟨x, y, rfl, rx, ry⟩ := a2 rfl
    have := t2 hts
    subst this
    split
    · rename_i ht
      split
      · rename_i hte
        split
        · rename_i hsr
          rintro ⟨hp, h1, h2⟩
          obtain ⟨ys, S⟩ := srcOf_ok (P := P) M hsr ry hp
          exact ok_copy_gen hT M ho rx ht hte S ⟨h1, h2⟩
        · trivial
      · trivial
    · trivial
  · rename_i t t' y0 hts
    obtain ⟨x, y, rfl, rx, ry⟩ := a2 rfl
    have := t2 hts
    subst this
    split
    · rename_i ht
      split
      · rename_i hte
        split
        · rename_i hsr
          have hy : ∃ p m d, E y = .slice p m d := by
            unfold srcOf at hsr
            split at hsr
            · obtain ⟨p, hy⟩ := sl ry; exact ⟨p, _, _, hy⟩
            · exact ⟨_, _, _, ry.1⟩
            · obtain ⟨p, hy⟩ := rol ry; exact ⟨p, _, _, hy⟩
            · exact ⟨_, _, _, ry.1⟩
            · cases hsr
          obtain ⟨p, m, d, hy⟩ := hy
          exact ok_copy_nil hT ho ht hte rx.1 hy (.inl rfl)
        · trivial
      · trivial
    · trivial
  · rename_i t _ _ n _ hts
    obtain ⟨x, rfl, rx⟩ := a1 rfl
    have := t1 hts
    subst this
    split
    · rename_i ht
      split
      · rename_i hte
        exact ok_clear hT M ho rx ht hte
      · trivial
    · trivial
  · trivial

theorem capsOf_ok : ∀ {ss : List SV} {cs : List (Nat × Nat)} {os : List Operand}, capsOf ss = some cs → RelO ρ E ss os → cs.length = os.length ∧ ∀ (j : Nat) (p : Nat × Nat) (x : Operand), cs[j]? = some p → os[j]? = some x → SC.rel ρ (.ptr p.1 p.2) (E x)
  | [], cs, os, hc, r => by
    simp only [capsOf, Option.some.injEq] at hc
    subst hc
    exact ⟨r.1, fun j p x hp => by simp at hp⟩
  | s :: ss, cs, os, hc, r => by
    cases os with
    | nil => have := r.1; simp at this
    | cons x os =>
      obtain ⟨r1, r2⟩ := r.inv
      unfold capsOf at hc
      split at hc
      · rename_i e; cases e
      · rename_i i k rr e
        cases e
        cases hq : capsOf ss with
        | none => rw [hq] at hc; cases hc
        | some cs' =>
          rw [hq] at hc
          simp only [Option.map_some, Option.some.injEq] at hc
          subst hc
          obtain ⟨l1, l2⟩ := capsOf_ok hq r2
          refine ⟨by simp [l1], fun j p y hp hy => ?_⟩
          cases j with
          | zero => simp at hp hy; subst hp; subst hy; exact r1
          | succ j => exact l2 j p y (by simpa using hp) (by simpa using hy)
      · cases hc

include hflat in
theorem opR_ok {o : Oper} {ss : List SV} (r : RelO ρ E ss o.op.operands.toList) : OutOK P h ρ w E o.op ((execOp E o).run P) (opR T flat h o.op ss) := by
  unfold opR
  split
  · rename_i ho; rw [ho] at r; exact ok_move M (.inl ho) r.one
  · rename_i ho; rw [ho] at r; exact ok_move M (.inr ho) r.one
  · rename_i ho; rw [ho] at r
    split
    · rename_i ht; exact ok_alloc hT M ho ht
    · trivial
  · rename_i ho; rw [ho] at r
    split
    · rename_i hc; exact ok_box hT M ho r.one hc
    · trivial
  · rename_i ss t ps ho; rw [ho] at r
    have e0 : (Op.build t ps).operands.toList = ps.toList.map (·.2) := by simp [Op.operands]
    rw [e0] at r
    have r' := r
    split
    · rename_i ht
      split
      · rename_i hf; exact ok_build_struct hT M ho r' ht hf
      · trivial
    · rename_i ht
      split
      · rename_i hte
        split
        · rename_i hf; exact ok_build_arr hT M ho r' ht hte hf
        · trivial
      · trivial
    · trivial
  · rename_i ss t len ps ho; rw [ho] at r
    have e0 : (Op.buildSlice t len ps).operands.toList = ps.toList.map (·.2) := by simp [Op.operands]
    rw [e0] at r
    have r' := r
    split
    · rename_i ht
      split
      · rename_i hte
        split
        · rename_i hf; exact ok_buildSlice hT M ho r' ht hte hf
        · trivial
      · trivial
    · trivial
  · rename_i ho; rw [ho] at r
    split
    · rename_i ht; exact ok_load hT M ho r.one ht
    · trivial
  · rename_i ho; rw [ho] at r
    split
    · rename_i ht hc; exact ok_store hT M ho r.two.1 r.two.2 ht hc
    · trivial
  · rename_i ho; rw [ho] at r
    split
    · rename_i ht; exact ok_load_rp hT M ho r.one ht
    · trivial
  · rename_i ho; rw [ho] at r; exact ok_nilCheck M ho r.one
  · rename_i ho; rw [ho] at r; exact ok_nilCheck_rp M ho r.one
  · rename_i ho; rw [ho] at r
    split
    · rename_i ht
      split
      · rename_i hf
        split
        · rename_i hft; exact ok_fieldAddr hT M ho r.one ht hf hft
        · trivial
      · trivial
    · trivial
  · rename_i ho; rw [ho] at r
    split
    · rename_i ht
      split
      · rename_i hf
        split
        · rename_i hft; exact ok_fieldAddr_rp hT M ho r.one ht hf hft
        · trivial
      · trivial
    · trivial
  · rename_i ho; rw [ho] at r
    split
    · rename_i ht
      split
      · rename_i hf
        split
        · rename_i hft; exact ok_field hT M ho r.one ht hf hft
        · trivial
      · trivial
    · trivial
  · rename_i ho; rw [ho] at r
    split
    · rename_i ht
      split
      · rename_i hte; exact ok_indexAddr_sl hT M ho r.two.1 r.two.2.1 ht hte
      · trivial
    · trivial
  · rename_i ho; rw [ho] at r
    split
    · rename_i ht
      split
      · rename_i hte; exact ok_indexAddr_arr hT M ho r.two.1 r.two.2.1 ht hte
      · trivial
    · trivial
  · rename_i ho; rw [ho] at r
    split
    · rename_i ht
      split
      · rename_i hte; exact ok_indexAddr_ro hT M ho r.two.1 r.two.2.1 ht hte
      · trivial
    · trivial
  · rename_i ho; rw [ho] at r
    split
    · rename_i ht
      split
      · rename_i hte; exact ok_indexAddr_rp hT M ho r.two.1 r.two.2.1 ht hte
      · trivial
    · trivial
  · rename_i ho; rw [ho] at r
    split
    · rename_i ht
      split
      · rename_i hte; exact ok_index_arr hT M ho r.two.1 r.two.2.1 ht hte
      · trivial
    · trivial
  · rename_i ho; rw [ho] at r
    split
    · rename_i ht; exact ok_index_str hT ho r.two.1.1 r.two.2.1 ht
    · trivial
  · rename_i t x lo hi mx xs rr ho; rw [ho] at r
    have r' : RelO ρ E (xs :: rr) (x :: (lo.toList ++ hi.toList ++ mx.toList)) := by
      have : (Op.operands (.slice t x lo hi mx)).toList = x :: (lo.toList ++ hi.toList ++ mx.toList) := by
        cases lo <;> cases hi <;> cases mx <;> rfl
      rw [this] at r; exact r
    obtain ⟨rx, ro⟩ := r'.inv
    split
    · trivial
    · rename_i l u m hso
      obtain ⟨b1, b2, b3, b4, b5⟩ := sliceOps_ok ro hso
      split
      · rename_i ht
        split
        · rename_i e1 e2 e3 e4; exact ok_slice_sl hT ho rx ht e1 (b1 _ _ e2) (b2 _ _ e3) (b3 _ _ e4) b5
        · trivial
      · rename_i ht
        split
        · rename_i e1 e2 e3 e4; exact ok_slice_ro hT ho rx ht e1 (b1 _ _ e2) (b2 _ _ e3) (b3 _ _ e4) b5
        · trivial
      · rename_i ht
        split
        · rename_i e1 e2 e3 e4; exact ok_slice_nil hT ho rx.1 ht e1 (b1 _ _ e2) (b2 _ _ e3) (b3 _ _ e4) b5
        · trivial
      · rename_i ht
        split
        · rename_i e1 e2 e3 e4; exact ok_slice_arr hT ho rx ht e1 (b1 _ _ e2) (b2 _ _ e3) (b3 _ _ e4) b5
        · trivial
      · rename_i ht
        split
        · rename_i e2 e3
          simp only [Option.isSome_none] at b4
          have : mx = none := by cases mx with
            | none => rfl
            | some _ => simp at b4
          subst this
          exact ok_slice_str hT ho rx.1 ht (b1 _ _ e2) (b2 _ _ e3)
        · trivial
      · trivial
  · rename_i ho; rw [ho] at r
    split
    · rename_i ht
      split
      · rename_i hte; exact ok_makeSlice hT M ho r.two.1.1 r.two.2.1 ht hte
      · trivial
    · trivial
  · rename_i ss f first caps ho; rw [ho] at r
    split
    · rename_i h0
      have : first = #[] := Array.eq_empty_of_size_eq_zero h0
      subst this
      have e0 : (Op.makeFunc (.func f) #[] caps).operands.toList = caps.toList := by simp [Op.operands]
      rw [e0] at r
      have r' := r
      split
      · rename_i hc
        obtain ⟨l1, l2⟩ := capsOf_ok hT M hc r'
        exact ok_makeFunc M ho (by simpa using l1) (fun j p x hp hx => l2 j p x hp (by simpa using hx))
      · trivial
    · trivial
  · rename_i ho; rw [ho] at r; exact (ok_unOp M ho).1 _ rfl r.one.1
  · rename_i ho; rw [ho] at r; exact (ok_unOp M ho).2.1 _ _ rfl r.one.1
  · rename_i ho; rw [ho] at r; exact (ok_unOp M ho).2.2 _ _ rfl r.one.1
  · rename_i ho; rw [ho] at r
    split
    · rename_i ht; exact ok_binOp hT hflat ho r.two.1 r.two.2 ht
    · trivial
  · rename_i ho; rw [ho] at r
    split
    · rename_i hs hd; exact ok_convert_int hT ho r.one.1 hs hd
    · trivial
  · rename_i ho; rw [ho] at r
    split
    · rename_i hs hd
      split
      · rename_i he; exact ok_bytes_str hT M ho r.one hs hd he
      · trivial
    · rename_i hs hd
      split
      · rename_i he hb; exact ok_bytes_same hT M ho r.one hs hd he hb
      · trivial
    · trivial
  · rename_i ho; rw [ho] at r
    split
    · rename_i hs hd
      split
      · rename_i he; exact ok_bytes_ro hT M ho r.one hs hd he
      · trivial
    · trivial
  · rename_i ho; rw [ho] at r
    split
    · rename_i hs hd
      split
      · rename_i he; exact ok_nil_str hT ho r.one.1 hs hd he
      · trivial
    · trivial
  · rename_i ho; rw [ho] at r
    split
    · rename_i hs hd
      split
      · rename_i he; exact ok_str_bytes hT M ho r.one.1 hs hd he
      · trivial
    · trivial
  · rename_i ho; rw [ho] at r
    split
    · rename_i hx; exact (ok_extract M ho r.one).1 _ hx
    · rename_i hx; exact (ok_extract M ho r.one).2 _ hx
    · trivial
  · rename_i f args ts g caps rr ho; rw [ho] at r
    have r' : RelO ρ E (.c (.fn g caps) :: rr) (f :: args.toList) := by simpa [Op.operands, Call.operands] using r
    obtain ⟨rf, ra⟩ := r'.inv
    exact ok_call M ho rf (by simpa using ra.1) (fun j s x hs hx => ra.2 j s x hs (by simpa using hx))
  · rename_i ss b args ts ho; rw [ho] at r
    exact opB_ok hT M ho (by simpa [Op.operands, Call.operands] using r)
  · trivial

end
end Go.Proofs.Ythbojoiogjdbeaa.Sx
