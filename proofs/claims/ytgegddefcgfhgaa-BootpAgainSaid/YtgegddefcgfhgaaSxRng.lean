/- A symbolic executor for the model's code: rounds of a range over a function. No condition. -/
import Derived.Test.YtgegddefcgfhgaaSxXX
import Derived.TacticsIn
import Derived.RangeFuncCalls
namespace Go.Proofs.Ytgegddefcgfhgaa.Sx
open Go
set_option linter.unusedSectionVars false
set_option linter.unusedVariables false
set_option linter.unusedSimpArgs false

/-- In a round, or in none. -/
def rF : Option Nat → Fence
  | none => Fence.wide
  | some l => Fence.wide.inRound l
theorem rF_round (r : Option Nat) : (rF r).round = r := by cases r <;> rfl
theorem rF_fn (r : Option Nat) (f : FuncId) : (rF r).fn f := by cases r <;> exact trivial
theorem rF_depth (r : Option Nat) : (rF r).depth = none := by cases r <;> rfl
theorem rF_calls {r : Option Nat} {P : Program} {f : FuncId} {vs : Array Value} {w : World} {R : Ending → World → Prop} (h : Calls P f vs w R) : CallsIn (rF r) 0 P f vs w R := by
  cases r with
  | none => exact callsIn_wide.2 h
  | some l => exact CallsIn.inRound l (callsIn_wide.2 h)
theorem rF_rows {r : Option Nat} {P : Program} {row : String} {vs : Array Value} {w : World} {R : Value → World → Prop} (h : Rows P row vs w R) : RowsIn (rF r) 0 P row vs w R := by
  have h1 : RowsIn Fence.wide 0 P row vs w R := fun c cs _ => let ⟨v, w', q, s⟩ := h c cs; ⟨v, w', q, stepsIn_wide.2 s⟩
  cases r with
  | none => exact h1
  | some l => exact h1

def notDefer (o : Oper) : Bool := match o.op with
  | .defer _ => false
  | _ => true
theorem oper_in {r : Option Nat} {P : Program} {o : Oper} {a : Act} {w : World} {K : Act → World → Prop} {Q : Exit → Act → World → Prop} (hd : notDefer o = true) (h : o.wp P a w K Q) : o.wpIn (rF r) 0 P a w K Q := by
  refine ⟨fun f _ => rF_fn r f, ?_⟩
  rw [Oper.semAt_eq _ _ _ (fun c hc => by simp [notDefer, hc] at hd)]
  unfold Oper.wp at h
  have hn : ((rF r).depth.isSome = true → 1 ≤ 0) := by rw [rF_depth]; intro h; cases h
  generalize (execOp a.eval o).run P w = res at h ⊢
  cases res with
  | ok n w' =>
    cases n with
    | value v => exact h
    | skip => exact h
    | defer d => exact h
    | enter f vs =>
      refine ⟨hn, (rF_calls h).mono ?_⟩
      intro e w2 hh
      cases e <;> exact hh
    | row x vs => exact ⟨hn, rF_rows h⟩
    | _ => exact h.elim
  | halt x w' =>
    cases x with
    | panic v => exact h
    | _ => exact h.elim

/-! ### Plain code, in a round or in none -/
def simpleC : Code → Bool
  | .skip => true
  | .region _ ops draw => !draw && ops.toList.all notDefer
  | .seq a b => simpleC a && simpleC b
  | .cond _ a b => simpleC a && simpleC b
  | .block _ a => simpleC a
  | .exit _ => true
  | .ret => true
  | _ => false
def KI.simple : KI → Bool
  | .code c => simpleC c
  | .ops _ l => l.all fun p => notDefer p.1
  | .blk _ => true
  | .lp _ => true
  | _ => false

def contIn (F : Fence) (P : Program) (e : Env) : List KI → (Exit → Act → World → Prop) → Exit → Act → World → Prop
  | [], Q => Q
  | .code c :: k, Q => Exit.then (c.wpIn F 0 P (contIn F P e k Q)) (contIn F P e k Q)
  | .ops all l :: k, Q => Exit.then (wpListIn F 0 P all.toArray (contIn F P e k Q) (l.map (·.1))) (contIn F P e k Q)
  | .blk id :: k, Q => Exit.inBlock id (contIn F P e k Q)
  | .lp J :: k, Q => Exit.then (fun a w => ∃ σ, Sat e σ a w ∧ J σ) (contIn F P e k Q)
  | _ :: k, Q => contIn F P e k Q

section
variable {e : Env} {σ : St} {a : Act} {w : World} {F : Fence} {P : Program}
theorem contIn_ret {Q : Exit → Act → World → Prop} (h : Q .ret a w) : ∀ (k : List KI), contIn F P e k Q .ret a w
  | [] => h
  | .code c :: k => contIn_ret h k
  | .ops _ _ :: k => contIn_ret h k
  | .scp :: k => contIn_ret h k
  | .lp _ :: k => contIn_ret h k
  | .rnd _ _ :: k => contIn_ret h k
  | .blk j :: k => contIn_ret h k
theorem contIn_panic {Q : Exit → Act → World → Prop} {ch : List PanicEntry} (h : Q (.panic ch) a w) : ∀ (k : List KI), contIn F P e k Q (.panic ch) a w
  | [] => h
  | .code c :: k => contIn_panic h k
  | .ops _ _ :: k => contIn_panic h k
  | .scp :: k => contIn_panic h k
  | .lp _ :: k => contIn_panic h k
  | .rnd _ _ :: k => contIn_panic h k
  | .blk j :: k => contIn_panic h k
theorem popTo_in {id : Nat} {Q : Exit → Act → World → Prop} : ∀ {k : List KI}, (∀ k', popTo id k = some k' → contIn F P e k' Q .normal a w) → (popTo id k = none → Q (.exit id) a w) → contIn F P e k Q (.exit id) a w
  | [], _, h => h rfl
  | .code c :: k, h1, h2 => popTo_in (k := k) h1 h2
  | .ops _ _ :: k, h1, h2 => popTo_in (k := k) h1 h2
  | .scp :: k, h1, h2 => popTo_in (k := k) h1 h2
  | .lp _ :: k, h1, h2 => popTo_in (k := k) h1 h2
  | .rnd _ _ :: k, h1, h2 => popTo_in (k := k) h1 h2
  | .blk j :: k, h1, h2 => by
    simp only [contIn, Exit.inBlock]
    by_cases hj : id = j
    · subst hj
      simp only [if_true]
      exact h1 k (by simp [popTo])
    · simp only [hj, if_false]
      have : (j == id) = false := by simpa using Ne.symm hj
      exact popTo_in (k := k) (fun k' hk => h1 k' (by simpa [popTo, this] using hk)) (fun hn => h2 (by simpa [popTo, this] using hn))
end

/-- What the executor says of plain code holds in a round too. -/
def HoldsIn (F : Fence) (cx : Cx) (xn : XN) : Prop := ∀ (k : List KI) (σ : St) (Q : XE → St → Prop), xn k σ Q → (k.all KI.simple) = true → ∀ (e : Env) (a : Act) (w : World), (∀ i ∈ k, i.ok e.nt) → Sat e σ a w → contIn F cx.P e k (hatQ e Q) .normal a w

theorem holdsIn_succ {cx : Cx} (hc : CxOk cx) (r : Option Nat) {xn : XN} (hx : HoldsIn (rF r) cx xn) : HoldsIn (rF r) cx (stepX cx xn) := by
  intro k σ Q h hsm e a w hk S
  have ok1 : ∀ {i : KI} {k' : List KI}, (∀ j ∈ i :: k', j.ok e.nt) → i.ok e.nt ∧ ∀ j ∈ k', j.ok e.nt := fun h => ⟨h _ (.head _), fun j hj => h j (.tail _ hj)⟩
  have ok2 : ∀ {i : KI} {k' : List KI}, i.ok e.nt → (∀ j ∈ k', j.ok e.nt) → ∀ j ∈ i :: k', j.ok e.nt := fun h1 h2 j hj => by
    cases hj with
    | head => exact h1
    | tail _ hj => exact h2 j hj
  have sm1 : ∀ {i : KI} {k' : List KI}, ((i :: k').all KI.simple) = true → i.simple = true ∧ (k'.all KI.simple) = true := fun h => by simpa only [List.all_cons, Bool.and_eq_true] using h
  have sm2 : ∀ {i : KI} {k' : List KI}, i.simple = true → (k'.all KI.simple) = true → ((i :: k').all KI.simple) = true := fun h1 h2 => by rw [List.all_cons, h1, h2]; rfl
  unfold stepX at h
  split at h
  · exact ⟨σ, S, h⟩
  · exact wpIn_skip (hx _ _ _ h (sm1 hsm).2 e a w (ok1 hk).2 S)
  · -- a region in the text's order
    rename_i id ops k
    obtain ⟨o1, o2⟩ := ok1 hk
    obtain ⟨s1, s2⟩ := sm1 hsm
    refine wpIn_region_list ?_
    obtain ⟨ρ, S⟩ := S
    have hnd : (ops.toList.all notDefer) = true := by simpa [KI.simple, simpleC] using s1
    have := hx _ _ _ h (sm2 (by simpa [KI.simple, List.all_map, Function.comp_def] using hnd) s2) e a w (ok2 (fun p hp => by
      simp only [List.mem_map] at hp
      obtain ⟨o, ho, rfl⟩ := hp
      exact List.all_eq_true.1 o1 o ho) o2) ⟨ρ, S.tm_sub fun t s hs => (look_trim' hs).2⟩
    have this : wpListIn (rF r) 0 cx.P ops.toList.toArray (contIn (rF r) cx.P e k (hatQ e Q)) ((ops.toList.map fun o => (o, false)).map (·.1)) a w := this
    simpa [List.map_map, Function.comp_def] using this
  · rename_i id ops k
    exact absurd (sm1 hsm).1 (by simp [KI.simple, simpleC])
  · rename_i x y k
    obtain ⟨o1, o2⟩ := ok1 hk
    obtain ⟨s1, s2⟩ := sm1 hsm
    have o3 : codeOk e.nt x = true ∧ codeOk e.nt y = true := by simpa [KI.ok, codeOk] using o1
    have s3 : simpleC x = true ∧ simpleC y = true := by simpa [KI.simple, simpleC] using s1
    exact wpIn_seq (hx _ _ _ h (sm2 s3.1 (sm2 s3.2 s2)) e a w (ok2 o3.1 (ok2 o3.2 o2)) S)
  · rename_i c x y k
    obtain ⟨o1, o2⟩ := ok1 hk
    obtain ⟨s1, s2⟩ := sm1 hsm
    have o3 : codeOk e.nt x = true ∧ codeOk e.nt y = true := by simpa [KI.ok, codeOk] using o1
    have s3 : simpleC x = true ∧ simpleC y = true := by simpa [KI.simple, simpleC] using s1
    split at h
    · rename_i p t hev
      obtain ⟨hp, h1, h2⟩ := h
      obtain ⟨ρ, S⟩ := S
      have hb := (ev_ok S rfl hev hp).1
      exact wpIn_cond_split hb (fun ht => hx _ _ _ (h1 ht) (sm2 s3.1 s2) e a w (ok2 o3.1 o2) ⟨ρ, S⟩) (fun ht => hx _ _ _ (h2 ht) (sm2 s3.2 s2) e a w (ok2 o3.2 o2) ⟨ρ, S⟩)
    · exact h.elim
  · rename_i id c k
    obtain ⟨o1, o2⟩ := ok1 hk
    obtain ⟨s1, s2⟩ := sm1 hsm
    exact wpIn_block (hx _ _ _ h (sm2 (by simpa [KI.simple, simpleC] using s1) (sm2 rfl s2)) e a w (ok2 o1 (ok2 trivial o2)) S)
  · exact absurd (sm1 hsm).1 (by simp [KI.simple, simpleC])
  · exact absurd (sm1 hsm).1 (by simp [KI.simple, simpleC])
  · rename_i id k
    obtain ⟨o1, o2⟩ := ok1 hk
    obtain ⟨s1, s2⟩ := sm1 hsm
    refine wpIn_exit (popTo_in (fun k' hk' => ?_) (fun hn => ?_))
    · rw [hk'] at h
      exact hx _ _ _ h (List.all_eq_true.2 fun i hi => List.all_eq_true.1 s2 i (popTo_mem hk' i hi)) e a w (fun i hi => o2 i (popTo_mem hk' i hi)) S
    · rw [hn] at h
      exact ⟨σ, S, h⟩
  · exact wpIn_ret (contIn_ret ⟨σ, S, h⟩ _)
  · exact absurd (sm1 hsm).1 (by simp [KI.simple, simpleC])
  · exact h.elim
  · exact hx _ _ _ h (sm1 hsm).2 e a w (ok1 hk).2 S
  · -- one operation
    rename_i all o ben r' k
    obtain ⟨o1, o2⟩ := ok1 hk
    obtain ⟨s1, s2⟩ := sm1 hsm
    have od : dstOk e.nt o = true := o1 (o, ben) (.head _)
    have or : KI.ok e.nt (.ops all r') := fun p hp => o1 p (.tail _ hp)
    have s3 : notDefer o = true ∧ KI.simple (.ops all r') = true := by simpa [KI.simple] using s1
    show wpListIn (rF r) 0 cx.P all.toArray (contIn (rF r) cx.P e k (hatQ e Q)) (((o, ben) :: r').map (·.1)) a w
    simp only [List.map_cons, wpListIn]
    have hab : ∀ (o : Oper) (a : Act) (w : World) f, o.about cx.P w a.eval = some f → (rF r).fn f := fun _ _ _ f _ => rF_fn r f
    have run : ∀ (o : Oper) (σ : St) (a : Act) (w : World), notDefer o = true → dstOk e.nt o = true → Sat e σ a w → stepR cx.P xn ben o (.ops all r' :: k) σ Q (opG cx true σ o.op) →
        o.wpIn (rF r) 0 cx.P a w (wpListIn (rF r) 0 cx.P all.toArray (contIn (rF r) cx.P e k (hatQ e Q)) (r'.map (·.1))) (contIn (rF r) cx.P e k (hatQ e Q)) := fun o σ a w hnd hod S h =>
      oper_in hnd (Oper.wp_mono (fun a' w' ⟨_, σ', h2, h3⟩ => hx _ _ _ h3 (sm2 s3.2 s2) e _ _ (ok2 or o2) h2) (stepR_to hc (N := contIn (rF r) cx.P e k (hatQ e Q)) (fun ch σ' a' w' hq hS => contIn_panic ⟨σ', hS, hq⟩ k) hod h S))
    split at h
    · rename_i hg
      rw [if_pos (by simp [Region.wanted, hg])]
      exact run o σ a w s3.1 od S h
    · rename_i gd hg
      split at h
      · rename_i g hgv
        obtain ⟨ρ, S⟩ := S
        have hw := guard_ok S (by rw [hg]; simp) hgv
        rw [hw]
        have hd := dst_lt od
        have M := S.step.models
        have br : XBr xn g (.ops all (({ o with guard := none }, ben) :: r') :: k) (.ops all r' :: k) σ ⟨σ.nm, put o.dst skipV σ.tm, σ.hp⟩ Q →
            (if g = true then o.wpIn (rF r) 0 cx.P a w (wpListIn (rF r) 0 cx.P all.toArray (contIn (rF r) cx.P e k (hatQ e Q)) (r'.map (·.1))) (contIn (rF r) cx.P e k (hatQ e Q)) else (∀ f, o.about cx.P w a.eval = some f → (rF r).fn f) ∧ wpListIn (rF r) 0 cx.P all.toArray (contIn (rF r) cx.P e k (hatQ e Q)) (r'.map (·.1)) (a.put o.dst undef) w) := by
          rintro ⟨h1, h2⟩
          cases g
          · simp only [Bool.false_eq_true, if_false]
            exact ⟨hab o a w, hx _ _ _ (h2 rfl) (sm2 s3.2 s2) e _ _ (ok2 or o2) ⟨ρ, S.put hd (Step.refl M) skip_rel⟩⟩
          · simp only [if_true]
            have := hx _ _ _ (h1 rfl) (sm2 (by simp only [KI.simple, List.all_cons, Bool.and_eq_true]; exact ⟨s3.1, by simpa [KI.simple] using s3.2⟩) s2) e a w (ok2 (fun p hp => by
              cases hp with
              | head => exact od
              | tail _ hp => exact or p hp) o2) ⟨ρ, S⟩
            have this : wpListIn (rF r) 0 cx.P all.toArray (contIn (rF r) cx.P e k (hatQ e Q)) ((({ o with guard := none }, ben) :: r').map (·.1)) a w := this
            simp only [List.map_cons, wpListIn] at this
            rw [if_pos (by simp [Region.wanted])] at this
            exact this
        cases hr : opG cx g σ o.op with
        | bad =>
          rw [hr] at h
          obtain ⟨rfl, h⟩ := h
          simp only [Bool.false_eq_true, if_false]
          exact ⟨hab o a w, hx _ _ _ h (sm2 s3.2 s2) e _ _ (ok2 or o2) ⟨ρ, S.put hd (Step.refl M) skip_rel⟩⟩
        | val p s =>
          rw [hr] at h
          simp only [stepU] at h
          cases hic : isC s
          · rw [hic] at h; exact br h
          rw [hic] at h
          obtain ⟨hp, h⟩ := h
          cases g
          · simp only [Bool.false_eq_true, if_false]
            exact ⟨hab o a w, hx _ _ _ h (sm2 s3.2 s2) e _ _ (ok2 or o2) ⟨ρ, S.put hd (Step.refl M) (undV_rel hic (fun h => by cases h) (fun _ => rfl))⟩⟩
          · simp only [if_true]
            have key := opG_ok hc S rfl o
            rw [hr] at key
            obtain ⟨y, h1, h2⟩ := key (hp rfl)
            refine oper_in s3.1 ?_
            unfold Oper.wp
            rw [h1 w Same.refl]
            exact hx _ _ _ h (sm2 s3.2 s2) e _ _ (ok2 or o2) ⟨ρ, S.put hd (Step.refl M) (undV_rel hic (fun _ => h2) (fun h => by cases h))⟩
        | mem p s h' => rw [hr] at h; exact br h
        | app p need cap room grow => rw [hr] at h; exact br h
        | conv p n grow => rw [hr] at h; exact br h
        | call p f args => rw [hr] at h; exact br h
      · exact h.elim
  · exact hx _ _ _ h (sm1 hsm).2 e a w (ok1 hk).2 S
  · exact absurd (sm1 hsm).1 (by simp [KI.simple])
  · exact ⟨σ, S, h⟩
  · exact h.elim
  · exact absurd (sm1 hsm).1 (by simp [KI.simple])

theorem X_in {cx : Cx} (hc : CxOk cx) (r : Option Nat) : ∀ n, HoldsIn (rF r) cx (X cx n)
  | 0 => fun _ _ _ h => h.elim
  | n + 1 => fun k σ Q h => holdsIn_succ hc r (X_in hc r n) k σ Q h

end Go.Proofs.Ytgegddefcgfhgaa.Sx
