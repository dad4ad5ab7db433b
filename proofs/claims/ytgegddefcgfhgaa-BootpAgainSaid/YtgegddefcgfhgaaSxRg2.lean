/- A symbolic executor for the model's code: a round, and a call of yield. No condition. -/
import Derived.Test.YtgegddefcgfhgaaSxRng
namespace Go.Proofs.Ytgegddefcgfhgaa.Sx
open Go
set_option linter.unusedSectionVars false
set_option linter.unusedVariables false
set_option linter.unusedSimpArgs false

theorem Models.put0 {h : List SB} {ρ : Rho} {w : World} (M : Models h ρ w) {D : Nat} {o : Obj} (o' : Obj) (hD : w.heap[D]? = some o) (ho : o.isCells = false) {B : Nat} (hz : ∀ k, ρ.zone k → k < B) (hB : B ≤ D) : Models h ρ (w.putObj D o') :=
  M.putObj o' hD ho fun hk => by have := hz D hk; omega

/-- A round: a block is turned and turned back. -/
theorem Step.turned {h h' : List SB} {ρ ρ1 ρ3 : Rho} {W w1 w3 : World} {l : Nat} {o b : Obj} (M : Models h ρ W) (s1 : Step h ρ W h ρ1 w1) (hl : W.heap[l]? = some o) (ho : o.isCells = false) (hl1 : w1.heap[l]? = some o) (s3 : Step h ρ1 (w1.putObj l b) h' ρ3 w3) (hl3 : w3.heap[l]? = some b) (hb : b.isCells = false) {B : Nat} (hz : ∀ k, ρ.zone k → k < B) (hB : B ≤ l) : Step h ρ W h' ρ3 (w3.putObj l o) := by
  have n1 : ρ1.n = ρ.n := by rw [s1.models.n, M.n]
  have hf : ∀ i, i < ρ.n → ρ1.f i = ρ.f i := s1.le.2
  have own : ∀ k, ownB h ρ1 k → ownB h ρ k := fun k ⟨i, x, q1, q2, q3⟩ => ⟨i, x, q1, q2, by rw [← hf i (M.some_lt q1)]; exact q3⟩
  refine ⟨⟨Nat.le_trans s1.le.1 s3.le.1, fun i hi => (s3.le.2 i (by rw [n1]; exact hi)).trans (hf i hi), s3.le.3.trans s1.le.3, s3.le.4.trans s1.le.4⟩, s3.models.put0 o hl3 hb (B := B) (fun k hk => hz k (by rw [s3.le.4, s1.le.4] at hk; exact hk)) hB, fun i h1 h2 => ?_, ?_, fun i x hi hx hox => ?_, fun i x hi hx hv => ?_⟩
  · have h1' : ρ1.n ≤ i := by rw [n1]; exact h1
    have := s3.fresh i h1' h2
    rw [putObj_size] at this
    exact Nat.le_trans s1.ext.size this
  · refine ⟨s3.ext.os.trans s1.ext.os, s3.ext.tape.trans s1.ext.tape, s3.ext.output.trans s1.ext.output, ?_, fun k hk hn => ?_⟩
    · rw [putObj_size]
      have := s3.ext.size
      rw [putObj_size] at this
      exact Nat.le_trans s1.ext.size this
    · by_cases hkl : k = l
      · subst hkl
        rw [World.putObj_heap_same (Array.getElem?_eq_some_iff.1 hl3).1, hl]
      · rw [World.putObj_heap_other hkl, s3.ext.block k (by rw [putObj_size]; exact Nat.lt_of_lt_of_le hk s1.ext.size) (fun hh => hn (own k hh)), World.putObj_heap_other hkl]
        exact s1.ext.block k hk hn
  · exact s3.flags i x (by rw [n1]; exact hi) hx hox
  · exact s3.nonv i x (by rw [n1]; exact hi) hx hv

theorem contIn_end {F : Fence} {P : Program} {e : Env} {J : St → Prop} {ex : Exit} {a : Act} {w : World} (h : contIn F P e [.lp J] (hatQ e fun _ _ => False) ex a w) : ex = .normal ∧ ∃ σ, Sat e σ a w ∧ J σ := by
  cases ex with
  | normal => exact ⟨rfl, h⟩
  | exit id => obtain ⟨_, _, h⟩ : hatQ e (fun _ _ => False) (.exit id) a w := h; exact h.elim
  | goto l => exact (show hatQ e (fun _ _ => False) (.goto l) a w from h).elim
  | ret => obtain ⟨_, _, h⟩ : hatQ e (fun _ _ => False) .ret a w := h; exact h.elim
  | panic c => obtain ⟨_, _, h⟩ : hatQ e (fun _ _ => False) (.panic c) a w := h; exact h.elim
  | outgrown => exact (show hatQ e (fun _ _ => False) .outgrown a w from h).elim

/-- The record of a loop. -/
structure LR where
  fn : FuncId
  tmps : Array Value
  tp : Tmp
  asg : Code
  body : Code
  D : Nat
def LR.obj (L : LR) (st : LoopState) : Obj := .loop { state := st, pending := none, fn := L.fn, tmps := L.tmps, params := #[L.tp], assign := L.asg, body := L.body, defers := L.D }
theorem LR.nc (L : LR) (st : LoopState) : (L.obj st).isCells = false := rfl
def LR.pins (L : LR) (l : Nat) (st : LoopState) : List (Nat × Obj) := [(l, L.obj st), (L.D, .deferred (some []))]

section
variable {cx : Cx} (hc : CxOk cx)
include hc

/-- One round, by the executor. -/
theorem round_ok {L : LR} {l nt nx : Nat} {hp : List SB} {ρ : Rho} {W : World} {v : Value} {x : SC} {tm : List (Nat × SV)} {K : List SB → Prop} {B : Nat} (M : Models hp ρ W) (pn : PinsOk (L.pins l .ready) W) (hz : ∀ k, ρ.zone k → k < B) (hB : B ≤ l) (hlD : l ≠ L.D)
    (hs : L.tmps.size = nt) (htm : ∀ (t : Nat) (s : SV), look t tm = some s → ∃ y, L.tmps[t]? = some y ∧ s.rel ρ y) (hx : x.rel ρ v) (htp : L.tp < nt)
    (ca : codeOk nt L.asg = true) (cb : codeOk nt L.body = true) (sa : simpleC L.asg = true) (sb : simpleC L.body = true) (J1 : St → Prop) (n1 n2 : Nat)
    (hA : X cx n1 [.code L.asg, .lp J1] ⟨⟨nx, hp.length⟩, put (some L.tp) (.c x) tm, hp⟩ (fun _ _ => False)) (hJ : ∀ σ, J1 σ → σ.nm = ⟨nx, hp.length⟩ ∧ σ.hp = hp)
    (hBd : ∀ σ, J1 σ → X cx n2 [.code L.body, .lp fun σ' => K σ'.hp] σ (fun _ _ => False)) :
    RoundIn (rF none) 0 cx.P l L.fn (L.tmps.setIfInBounds L.tp v) L.asg L.body W fun e W' => e = .returned (.bool true) ∧ ∃ hp' ρ', Step hp ρ W hp' ρ' W' ∧ K hp' ∧ PinsOk (L.pins l .ready) W' := by
  refine roundIn_of_wpIn (F := rF none) (rF_fn none _) ?_
  have hl := (pn _ (.head _)).1
  have hD := (pn _ (.tail _ (.head _))).1
  obtain ⟨e1, he1⟩ : ∃ e1 : Env, e1 = ⟨W, hp, ρ, nt, [], L.pins l .ready⟩ := ⟨_, rfl⟩
  have S1 : Sat e1 ⟨⟨nx, hp.length⟩, put (some L.tp) (.c x) tm, hp⟩ { tmps := L.tmps.setIfInBounds L.tp v, defers := [] } W := by
    subst he1
    refine ⟨ρ, ⟨rfl, M.n⟩, ⟨⟨[], rfl, List.nodup_nil, fun D hD => by simp at hD⟩, pn⟩, by simp [hs], Step.refl M, fun t s hts => ?_⟩
    have hts : look t (put.go L.tp (.c x) tm) = some s := hts
    rw [look_put] at hts
    simp only [Array.getElem?_setIfInBounds]
    by_cases h : t = L.tp
    · subst h
      simp only [beq_self_eq_true, cond_true, Option.some.injEq] at hts
      subst hts
      exact ⟨v, by simp [hs, htp], hx⟩
    · have : (t == L.tp) = false := by simpa using h
      rw [this] at hts
      obtain ⟨y, h1, h2⟩ := htm t s hts
      exact ⟨y, by rw [if_neg (Ne.symm h)]; exact h1, h2⟩
  have run1 := X_in hc (some l) n1 _ _ _ hA (by simp [KI.simple, sa]) e1 _ W (fun i hi => by
    subst he1
    simp only [List.mem_cons, List.not_mem_nil, or_false] at hi
    rcases hi with rfl | rfl
    · exact ca
    · exact trivial) S1
  have run1 : L.asg.wpIn (rF (some l)) 0 cx.P (contIn (rF (some l)) cx.P e1 [.lp J1] (hatQ e1 fun _ _ => False)) { tmps := L.tmps.setIfInBounds L.tp v, defers := [] } W := run1
  show L.asg.wpIn (rF (some l)) 0 cx.P _ _ W
  refine wpIn_mono run1 ?_
  intro ex a1 w1 hq
  obtain ⟨rfl, σ1, ⟨ρ1, T1⟩, j1⟩ := contIn_end hq
  obtain ⟨hnm, hhp⟩ := hJ σ1 j1
  have st1 : Step hp ρ W hp ρ1 w1 := by have := T1.step; rw [hhp, he1] at this; exact this
  have pn1 : PinsOk (L.pins l .ready) w1 := by have := T1.defers.2; rw [he1] at this; exact this
  have hl1 := (pn1 _ (.head _)).1
  have hD1 := (pn1 _ (.tail _ (.head _))).1
  refine ⟨_, run_beginRound hl1 rfl, ?_⟩
  have hz1 : ∀ k, ρ1.zone k → k < B := fun k hk => hz k (by rw [st1.le.4] at hk; exact hk)
  have M2 : Models hp ρ1 (w1.putObj l (L.obj .busy)) := st1.models.put0 _ hl1 (L.nc _) hz1 hB
  have hlt := (Array.getElem?_eq_some_iff.1 hl1).1
  obtain ⟨e2, he2⟩ : ∃ e2 : Env, e2 = ⟨w1.putObj l (L.obj .busy), hp, ρ1, nt, a1.defers, L.pins l .busy⟩ := ⟨_, rfl⟩
  have S2 : Sat e2 σ1 a1 (w1.putObj l (L.obj .busy)) := by
    subst he2
    refine ⟨ρ1, ⟨by rw [hnm], M2.n⟩, ⟨⟨[], rfl, List.nodup_nil, fun D hD => by simp at hD⟩, fun p hp => ?_⟩, ?_, by rw [hhp]; exact Step.refl M2, T1.tm⟩
    · simp only [LR.pins, List.mem_cons, List.not_mem_nil, or_false] at hp
      rcases hp with rfl | rfl
      · exact ⟨World.putObj_heap_same hlt, rfl⟩
      · exact ⟨(World.putObj_heap_other (Ne.symm hlD)).trans hD1, rfl⟩
    · have := T1.size
      rw [he1] at this
      exact this
  have run2 := X_in hc (some l) n2 _ _ _ (hBd σ1 j1) (by simp [KI.simple, sb]) e2 _ _ (fun i hi => by
    subst he2
    simp only [List.mem_cons, List.not_mem_nil, or_false] at hi
    rcases hi with rfl | rfl
    · exact cb
    · exact trivial) S2
  have run2 : L.body.wpIn (rF (some l)) 0 cx.P (contIn (rF (some l)) cx.P e2 [.lp fun σ' => K σ'.hp] (hatQ e2 fun _ _ => False)) a1 (w1.putObj l (L.obj .busy)) := run2
  show L.body.wpIn (rF (some l)) 0 cx.P _ a1 (w1.putObj l (L.obj .busy))
  refine wpIn_mono run2 ?_
  intro ex a3 w3 hq
  obtain ⟨rfl, σ3, ⟨ρ3, T3⟩, k3⟩ := contIn_end hq
  have st3 : Step hp ρ1 (w1.putObj l (L.obj .busy)) σ3.hp ρ3 w3 := by have := T3.step; rw [he2] at this; exact this
  have pn3 : PinsOk (L.pins l .busy) w3 := by have := T3.defers.2; rw [he2] at this; exact this
  have hl3 := (pn3 _ (.head _)).1
  have hD3 := (pn3 _ (.tail _ (.head _))).1
  refine ⟨.bool true, w3.putObj l (L.obj .ready), run_endRound none hl3, rfl, σ3.hp, ρ3, Step.turned M st1 hl (L.nc _) hl1 st3 hl3 (L.nc _) hz hB, k3, fun p hp => ?_⟩
  simp only [LR.pins, List.mem_cons, List.not_mem_nil, or_false] at hp
  rcases hp with rfl | rfl
  · exact ⟨World.putObj_heap_same (Array.getElem?_eq_some_iff.1 hl3).1, rfl⟩
  · exact ⟨(World.putObj_heap_other (Ne.symm hlD)).trans hD3, rfl⟩

/-- A call of yield, in the iterator. -/
theorem yield_ok {L : LR} {l : Nat} {e : Env} {σ : St} {ρ : Rho} {a : Act} {w : World} {dst : Option Tmp} {ty : TypeId} {pos : String} {aft : Array Edge} {tf tx : Tmp} {ts : Array TypeId} {x : SC} (K : List SB → Prop) {N : Exit → Act → World → Prop} {next : Act → World → Prop} (S : SatR e σ ρ a w)
    (hf : look tf σ.tm = some (.c (.v (.func (.yield l) #[] #[])))) (hx : look tx σ.tm = some (.c x)) (hl : w.heap[l]? = some (L.obj .ready)) (hd : ∀ d, dst = some d → d < e.nt)
    (hR : ∀ v, x.rel ρ v → RoundIn (rF none) 0 cx.P l L.fn (L.tmps.setIfInBounds L.tp v) L.asg L.body w fun e' W' => e' = .returned (.bool true) ∧ ∃ hp' ρ', Step σ.hp ρ w hp' ρ' W' ∧ K hp') (hk : ∀ a' w' hp', K hp' → Sat e ⟨σ.nm, put dst (.c (.v (.bool true))) σ.tm, hp'⟩ a' w' → next a' w') :
    Oper.wpIn (rF none) 0 cx.P ⟨dst, .call ⟨.value (.tmp tf), #[.tmp tx], ts⟩, ty, pos, aft, none⟩ a w next N := by
  obtain ⟨yf, f1, f2⟩ := S.tm tf _ hf
  obtain ⟨v, x1, x2⟩ := S.tm tx _ hx
  have ef : a.eval (.tmp tf) = .func (.yield l) #[] #[] := by simp [Act.eval, Array.getD_eq_getD_getElem?, f1]; exact f2.1
  have ex : a.eval (.tmp tx) = v := by simp [Act.eval, Array.getD_eq_getD_getElem?, x1]
  refine ⟨fun f _ => rF_fn none f, ?_⟩
  have hy := run_yield (P := cx.P) (args := #[v]) hl rfl
  have hexec : (execOp a.eval ⟨dst, .call ⟨.value (.tmp tf), #[.tmp tx], ts⟩, ty, pos, aft, none⟩).run cx.P w = .ok (.round l L.fn (L.tmps.setIfInBounds L.tp v) L.asg L.body) w := by
    simp [execOp, resolve, Deferred.ofValue, invoke, ef, ex, hy]
  rw [Oper.semAt_eq _ _ _ (fun c hc => by cases hc), hexec, Oper.uponIn_round]
  refine ⟨(fun h => by cases h), (hR v x2).mono ?_⟩
  rintro e' W' ⟨rfl, hp', ρ', st, k⟩
  exact hk _ _ hp' k ⟨ρ', S.put hd st ⟨rfl, rfl⟩⟩
end

/-! ### Runs of plain code -/
section
variable {cx : Cx} (hc : CxOk cx)
include hc
theorem run_in {r : Option Nat} {n : Nat} {c : Code} {J : St → Prop} {σ : St} {Q : XE → St → Prop} {e : Env} {a : Act} {w : World} (h : X cx n [.code c, .lp J] σ Q) (hs : simpleC c = true) (hok : codeOk e.nt c = true) (S : Sat e σ a w) :
    c.wpIn (rF r) 0 cx.P (contIn (rF r) cx.P e [.lp J] (hatQ e Q)) a w :=
  X_in hc r n _ _ _ h (by simp [KI.simple, hs]) e a w (fun i hi => by
    simp only [List.mem_cons, List.not_mem_nil, or_false] at hi
    rcases hi with rfl | rfl
    · exact hok
    · exact trivial) S
theorem run_ops {r : Option Nat} {n : Nat} {all : Array Oper} {l : List Oper} {J : St → Prop} {σ : St} {Q : XE → St → Prop} {e : Env} {a : Act} {w : World} (h : X cx n [.ops all.toList (l.map fun o => (o, false)), .lp J] σ Q) (hs : (l.all notDefer) = true) (hok : (l.all (dstOk e.nt)) = true) (S : Sat e σ a w) :
    wpListIn (rF r) 0 cx.P all (contIn (rF r) cx.P e [.lp J] (hatQ e Q)) l a w := by
  have := X_in hc r n _ _ _ h (by simpa [KI.simple, List.all_map, Function.comp_def] using hs) e a w (fun i hi => by
    simp only [List.mem_cons, List.not_mem_nil, or_false] at hi
    rcases hi with rfl | rfl
    · intro p hp
      simp only [List.mem_map] at hp
      obtain ⟨o, ho, rfl⟩ := hp
      exact List.all_eq_true.1 hok o ho
    · exact trivial) S
  have this : wpListIn (rF r) 0 cx.P all.toList.toArray (contIn (rF r) cx.P e [.lp J] (hatQ e Q)) ((l.map fun o => (o, false)).map (·.1)) a w := this
  simpa [List.map_map, Function.comp_def] using this
end
theorem wpListIn_app {F : Fence} {P : Program} {ops : Array Oper} {Q : Exit → Act → World → Prop} {l2 : List Oper} : ∀ {l1 : List Oper} {a : Act} {w : World}, wpListIn F 0 P ops (Exit.then (wpListIn F 0 P ops Q l2) Q) l1 a w → wpListIn F 0 P ops Q (l1 ++ l2) a w
  | [], a, w, h => h
  | o :: l1, a, w, h => by
    simp only [wpListIn, List.cons_append] at h ⊢
    split
    · rename_i hw
      rw [if_pos hw] at h
      obtain ⟨h1, h2⟩ := h
      refine ⟨h1, ?_⟩
      have key : ∀ (r : Result Next), Oper.uponIn F 0 P o a (wpListIn F 0 P ops (Exit.then (wpListIn F 0 P ops Q l2) Q) l1) (Exit.then (wpListIn F 0 P ops Q l2) Q) r → Oper.uponIn F 0 P o a (wpListIn F 0 P ops Q (l1 ++ l2)) Q r := by
        intro r hr
        cases r with
        | ok n w' =>
          cases n with
          | value v => exact wpListIn_app hr
          | skip => exact wpListIn_app hr
          | defer d => exact wpListIn_app hr
          | enter f vs =>
            refine ⟨hr.1, hr.2.mono ?_⟩
            intro e w2 hh
            cases e with
            | returned v => exact wpListIn_app hh
            | panicked ch => exact hh
            | outgrown =>
              obtain ⟨a0, w0, hq⟩ := hh
              exact ⟨a0, w0, hq⟩
          | row x vs => exact ⟨hr.1, hr.2.mono fun v w2 hh => wpListIn_app hh⟩
          | round l f t b c =>
            refine ⟨hr.1, hr.2.mono ?_⟩
            intro e w2 hh
            cases e with
            | returned v => exact wpListIn_app hh
            | panicked ch => exact hh
            | outgrown =>
              obtain ⟨a0, w0, hq⟩ := hh
              exact ⟨a0, w0, hq⟩
          | _ => exact hr.elim
        | halt x w' =>
          cases x with
          | panic v => exact hr
          | _ => exact hr.elim
      exact key _ h2
    · rename_i hw
      rw [if_neg hw] at h
      exact ⟨h.1, wpListIn_app h.2⟩
theorem wpListIn_mono {F : Fence} {P : Program} {ops : Array Oper} {Q Q' : Exit → Act → World → Prop} (hq : ∀ e a w, Q e a w → Q' e a w) : ∀ {l : List Oper} {a : Act} {w : World}, wpListIn F 0 P ops Q l a w → wpListIn F 0 P ops Q' l a w
  | [], a, w, h => hq _ _ _ h
  | o :: l1, a, w, h => by
    simp only [wpListIn] at h ⊢
    split
    · rename_i hw
      rw [if_pos hw] at h
      obtain ⟨h1, h2⟩ := h
      refine ⟨h1, ?_⟩
      have key : ∀ (r : Result Next), Oper.uponIn F 0 P o a (wpListIn F 0 P ops Q l1) Q r → Oper.uponIn F 0 P o a (wpListIn F 0 P ops Q' l1) Q' r := by
        intro r hr
        cases r with
        | ok n w' =>
          cases n with
          | value v => exact wpListIn_mono hq hr
          | skip => exact wpListIn_mono hq hr
          | defer d => exact wpListIn_mono hq hr
          | enter f vs =>
            refine ⟨hr.1, hr.2.mono ?_⟩
            intro e w2 hh
            cases e with
            | returned v => exact wpListIn_mono hq hh
            | panicked ch => exact hq _ _ _ hh
            | outgrown =>
              obtain ⟨a0, w0, hh⟩ := hh
              exact ⟨a0, w0, hq _ _ _ hh⟩
          | row x vs => exact ⟨hr.1, hr.2.mono fun v w2 hh => wpListIn_mono hq hh⟩
          | round l f t b c =>
            refine ⟨hr.1, hr.2.mono ?_⟩
            intro e w2 hh
            cases e with
            | returned v => exact wpListIn_mono hq hh
            | panicked ch => exact hq _ _ _ hh
            | outgrown =>
              obtain ⟨a0, w0, hh⟩ := hh
              exact ⟨a0, w0, hq _ _ _ hh⟩
          | _ => exact hr.elim
        | halt x w' =>
          cases x with
          | panic v => exact hq _ _ _ hr
          | _ => exact hr.elim
      exact key _ h2
    · rename_i hw
      rw [if_neg hw] at h
      exact ⟨h.1, wpListIn_mono hq h.2⟩

end Go.Proofs.Ytgegddefcgfhgaa.Sx
