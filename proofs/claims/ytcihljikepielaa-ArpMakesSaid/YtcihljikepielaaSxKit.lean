/- A symbolic executor for the model's code: functions, calls, loops. No condition. -/
import Derived.Test.YtcihljikepielaaSxMain
import Derived.KernelRfl
namespace Go.Proofs.Ytcihljikepielaa.Sx
open Go
set_option linter.unusedSectionVars false
set_option linter.unusedVariables false

/-! ### A function by its body -/
def argsTm : Nat → List SV → List (Nat × SV)
  | _, [] => []
  | k, s :: r => (k, s) :: argsTm (k + 1) r

def resC (T : TypeId → Option TI) (tm : List (Nat × SV)) (hp : List SB) : ResultVar → Option (Prop × (Bool × List SC))
  | .tmp t => match look t tm with
    | some (.c x) => some (True, (false, [x]))
    | some (.agg xs) => some (True, (true, xs))
    | _ => none
  | .cell t ty => match look t tm, T ty with
    | some (.c (.ptr i o)), some ti => bif ti.desc.agg then some (o + ti.size ≤ lenW hp i, (true, win hp i o ti.size)) else match hp[i]? with
      | some b => some (o < b.cells.length, (false, [b.cells.getD o .any]))
      | none => none
    | _, _ => none

def resL (T : TypeId → Option TI) (tm : List (Nat × SV)) (hp : List SB) : List ResultVar → Option (Prop × List (Bool × List SC))
  | [] => some (True, [])
  | r :: l => match resC T tm hp r, resL T tm hp l with
    | some (p, x), some (q, xs) => some (p ∧ q, x :: xs)
    | _, _ => none

def toSV : List (Bool × List SC) → SV
  | [(true, cs)] => .agg cs
  | [(false, [x])] => .c x
  | l => .tup l

def retQ (T : TypeId → Option TI) (rs : List ResultVar) (K : SV → List SB → Prop) : XE → St → Prop
  | .exit _, _ => False
  | .normal, σ => match resL T σ.tm σ.hp rs with
    | some (p, l) => p ∧ K (toSV l) σ.hp
    | none => False
  | .ret, σ => match resL T σ.tm σ.hp rs with
    | some (p, l) => p ∧ K (toSV l) σ.hp
    | none => False

theorem look_args {args : List SV} : ∀ {k t : Nat} {s : SV}, look t (argsTm k args) = some s → k ≤ t ∧ args[t - k]? = some s := by
  induction args with
  | nil => intro k t s h; simp [argsTm, look] at h
  | cons x r ih =>
    intro k t s h
    simp only [argsTm, look] at h
    cases ht : t == k
    · rw [ht] at h
      simp only [cond_false] at h
      obtain ⟨h1, h2⟩ := ih h
      refine ⟨by omega, ?_⟩
      rw [show t - k = (t - (k + 1)) + 1 from by omega]
      simpa using h2
    · rw [ht] at h
      have : t = k := by simpa using ht
      subst this
      simp only [cond_true, Option.some.injEq] at h
      subst h
      simp

variable {cx : Cx}

def readRes (tmps : Array Value) : ResultVar → Sem Value
  | .tmp t => pure (tmps.getD t undef)
  | .cell b t => do loadVar t (← asAddr (tmps.getD b undef))

theorem results_read (fn : Func) (tmps : Array Value) : results fn tmps = (do
    let vs ← fn.results.mapM (readRes tmps)
    pure (if h : vs.size = 1 then vs[0] else .tuple vs)) := by
  unfold results
  congr 1

theorem resC_ok (hc : CxOk cx) {e : Env} {σ : St} {ρ : Rho} {a : Act} {w : World} (S : SatR e σ ρ a w) {r : ResultVar} {p : Prop} {x : Bool × List SC} (h : resC cx.T σ.tm σ.hp r = some (p, x)) (hp : p) :
    ∃ y, (readRes a.tmps r).run cx.P w = .ok y w ∧ relT ρ x y := by
  have gd : ∀ {t y}, a.tmps[t]? = some y → a.tmps.getD t undef = y := by
    intro t y hy
    simp [Array.getD_eq_getD_getElem?, hy]
  cases r with
  | tmp t =>
    simp only [resC] at h
    split at h
    · rename_i c hl
      cases h
      obtain ⟨y, h1, h2⟩ := S.tm t _ hl
      exact ⟨y, by simp [readRes, gd h1], h2⟩
    · rename_i xs hl
      cases h
      obtain ⟨y, h1, h2⟩ := S.tm t _ hl
      exact ⟨y, by simp [readRes, gd h1], h2⟩
    · cases h
  | cell t ty =>
    simp only [resC] at h
    split at h
    · rename_i i o ti hl ht
      obtain ⟨y, h1, hi, h2⟩ := S.tm t _ hl
      have H := hc.T ty ti ht
      have M := S.step.models
      cases hag : ti.desc.agg
      · rw [hag] at h
        simp only [cond_false] at h
        split at h
        · rename_i b hb
          cases h
          obtain ⟨z, g1, g2⟩ := M.ro i b hb o _ (getD_get hp)
          exact ⟨z, by simp [readRes, gd h1, h2, asAddr, loadVar, H.isAgg, hag, g1], g2⟩
        · cases h
      · rw [hag] at h
        simp only [cond_true, Option.some.injEq, Prod.mk.injEq] at h
        obtain ⟨hp', hx⟩ := h
        subst hp'; subst hx
        obtain ⟨ys, g1, g2, g3⟩ := win_vals M hp hi
        have hl := run_loadCells_at (P := cx.P) g3
        rw [g2] at hl
        exact ⟨.agg ys.toArray, by simp [readRes, gd h1, h2, asAddr, loadVar, H.isAgg, hag, H.sizeOf, hl], ys.toArray, rfl, by simpa using g1⟩
    · cases h

theorem resL_ok (hc : CxOk cx) {e : Env} {σ : St} {ρ : Rho} {a : Act} {w : World} (S : SatR e σ ρ a w) : ∀ {rs : List ResultVar} {p : Prop} {xs : List (Bool × List SC)}, resL cx.T σ.tm σ.hp rs = some (p, xs) → p →
    ∃ ys : List Value, (rs.mapM (readRes a.tmps)).run cx.P w = .ok ys w ∧ xs.length = ys.length ∧ ∀ (j : Nat) (c : Bool × List SC) (z : Value), xs[j]? = some c → ys[j]? = some z → relT ρ c z
  | [], p, xs, h, hp => by
    simp only [resL, Option.some.injEq, Prod.mk.injEq] at h
    obtain ⟨_, rfl⟩ := h
    exact ⟨[], by simp only [List.mapM_nil, Sem.run_pure], rfl, fun j c z hc => by simp at hc⟩
  | r :: rs, p, xs, h, hp => by
    simp only [resL] at h
    split at h
    · rename_i p1 x1 p2 xs2 h1 h2
      cases h
      obtain ⟨y, g1, g2⟩ := resC_ok hc S h1 hp.1
      obtain ⟨ys, k1, k2, k3⟩ := resL_ok hc S h2 hp.2
      refine ⟨y :: ys, by simp only [List.mapM_cons, Sem.run_bind, g1, k1, Result.andThen_ok, Sem.run_pure], by simp [k2], fun j c z hcj hz => ?_⟩
      cases j with
      | zero => simp at hcj hz; subst hcj; subst hz; exact g2
      | succ j => exact k3 j c z (by simpa using hcj) (by simpa using hz)
    · cases h

theorem toSV_rel {ρ : Rho} {xs : List (Bool × List SC)} {ys : List Value} (hl : xs.length = ys.length) (h : ∀ (j : Nat) (c : Bool × List SC) (z : Value), xs[j]? = some c → ys[j]? = some z → relT ρ c z) :
    (toSV xs).rel ρ (if h : ys.toArray.size = 1 then ys.toArray[0] else .tuple ys.toArray) := by
  unfold toSV
  split
  · rename_i cs
    match ys, hl with
    | [y], _ =>
      have := h 0 _ _ rfl rfl
      simp
      exact this
  · rename_i x
    match ys, hl with
    | [y], _ =>
      have := h 0 _ _ rfl rfl
      simp
      exact this
  · rename_i h1 h2
    by_cases h3 : ys.length = 1
    · exfalso
      obtain ⟨c, rfl⟩ := List.length_eq_one_iff.1 (hl.trans h3)
      obtain ⟨y, rfl⟩ := List.length_eq_one_iff.1 h3
      have h4 := h 0 _ _ rfl rfl
      obtain ⟨b, cs⟩ := c
      cases b with
      | true => exact h1 _ rfl
      | false =>
        match cs, h4 with
        | [x], _ => exact h2 _ rfl
    · rw [dif_neg (by simpa using h3)]
      exact ⟨_, rfl, by simpa using hl, fun j c z hc hz => h j c z hc (by simpa using hz)⟩

theorem results_ok (hc : CxOk cx) {fn : Func} {e : Env} {σ : St} {a : Act} {w : World} {K : SV → List SB → Prop} (S : Sat e σ a w) (h : match resL cx.T σ.tm σ.hp fn.results.toList with
    | some (p, l) => p ∧ K (toSV l) σ.hp
    | none => False) : ∃ (y : Value) (s : SV) (ρ : Rho), (results fn a.tmps).run cx.P w = .ok y w ∧ Step e.h e.ρ e.w σ.hp ρ w ∧ s.rel ρ y ∧ K s σ.hp := by
  obtain ⟨ρ, S⟩ := S
  split at h
  · rename_i p l hr
    obtain ⟨hp, hK⟩ := h
    obtain ⟨ys, h1, h2, h3⟩ := resL_ok hc S hr hp
    refine ⟨_, toSV l, ρ, ?_, S.step, toSV_rel h2 h3, hK⟩
    simp only [results_read, Sem.run_bind]
    rw [Array.mapM_eq_mapM_toList, Sem.run_map]
    rw [h1]
    simp only [Result.andThen_ok, Sem.run_pure]
  · exact h.elim

/-- A contract out of the body. -/
theorem spec_of_X (hc : CxOk cx) {f : FuncId} {fn : Func} {c : Code} (hf : cx.P.funcs[f]? = some fn) (hb : fn.body = some c) (hname : (fn.name == "runtime.NumGoroutine") = false) (hok : codeOk fn.ntmps c = true)
    {args : List SV} {hp : List SB} {K : SV → List SB → Prop} (hargs : args.length ≤ fn.ntmps) (n nm : Nat) (h : X cx n [.code c] ⟨⟨nm, hp.length⟩, argsTm 0 args, hp⟩ (retQ cx.T fn.results.toList K)) : Spec cx.P f args hp K := by
  refine ⟨fun vs w => ?_, fun ρ w vs M hl hr => ?_⟩
  · have hn : ¬ fn.name = "runtime.NumGoroutine" := by simpa using hname
    simp [callFunc, hf, hn, hb]
  · refine calls_of_wp hf hb ?_
    have hsat : Sat ⟨w, hp, ρ, fn.ntmps⟩ ⟨⟨nm, hp.length⟩, argsTm 0 args, hp⟩ { tmps := vs ++ Array.replicate (fn.ntmps - vs.size) undef, defers := [] } w := by
      refine ⟨ρ, ⟨rfl, M.n⟩, rfl, by simp; omega, Step.refl M, fun t s hs => ?_⟩
      obtain ⟨h1, h2⟩ := look_args hs
      simp only [Nat.sub_zero] at h2
      have ht : t < vs.size := by rw [← hl]; exact (List.getElem?_eq_some_iff.1 h2).1
      refine ⟨vs[t], ?_, hr t s vs[t] h2 (by simp [ht])⟩
      rw [Array.getElem?_append_left ht]
      simp [ht]
    have := X_ok hc n _ _ _ h ⟨w, hp, ρ, fn.ntmps⟩ _ w (by simpa [KI.ok] using hok) hsat
    refine wp_mono (Q := contQ cx.P ⟨w, hp, ρ, fn.ntmps⟩ [] (hatQ ⟨w, hp, ρ, fn.ntmps⟩ (retQ cx.T fn.results.toList K))) this ?_
    intro ex a' w' hq
    cases ex with
    | normal =>
      obtain ⟨σ, S, hq⟩ := hq
      obtain ⟨y, s, ρ', h1, h2, h3, h4⟩ := results_ok hc S hq
      obtain ⟨_, S⟩ := S
      exact ⟨S.defers, y, h1, y, s, σ.hp, ρ', rfl, h2, h3, h4⟩
    | ret =>
      obtain ⟨σ, S, hq⟩ := hq
      obtain ⟨y, s, ρ', h1, h2, h3, h4⟩ := results_ok hc S hq
      obtain ⟨_, S⟩ := S
      exact ⟨S.defers, y, h1, y, s, σ.hp, ρ', rfl, h2, h3, h4⟩
    | exit id => obtain ⟨σ, S, hq⟩ := hq; exact hq.elim
    | goto l => exact hq.elim
    | panic c => exact hq.elim
    | outgrown => exact hq.elim

/-! ### Calls -/
theorem Spec.mono {P : Program} {f : FuncId} {args : List SV} {h : List SB} {K K' : SV → List SB → Prop} (s : Spec P f args h K) (hk : ∀ s h', K s h' → K' s h') : Spec P f args h K' :=
  ⟨s.1, fun ρ w vs M h1 h2 => (s.2 ρ w vs M h1 h2).mono fun e w' ⟨y, s, h', ρ', a, b, c, d⟩ => ⟨y, s, h', ρ', a, b, c, hk _ _ d⟩⟩

theorem call_of {P : Program} {xn : XN} {f : FuncId} {args : List SV} {dst : Option Tmp} {k : List KI} {σ : St} {Q : XE → St → Prop}
    (h : ∀ K : SV → List SB → Prop, (∀ s h', xn k ⟨σ.nm, put dst s σ.tm, h'⟩ Q → K s h') → Spec P f args σ.hp K) : CallGoal P xn f args dst k σ Q :=
  ⟨_, h _ fun _ _ h => h, fun _ _ h => h⟩

theorem callB_of {P : Program} {xn : XN} {f : FuncId} {args : List SV} {dst : Option Tmp} {k : List KI} {σ : St} {Q : XE → St → Prop}
    (h : ∀ K : SV → List SB → Prop, (∀ s h', xn k ⟨σ.nm, put dst s σ.tm, σ.hp ++ h'.drop σ.hp.length⟩ Q → K s h') → Spec P f args (mask σ.hp) K) : CallGoalB P xn f args dst k σ Q :=
  ⟨_, h _ fun _ _ h => h, fun _ _ h => h⟩

/-- A call that leaves all windows may be met so in any place. -/
theorem call_pure {P : Program} {xn : XN} {f : FuncId} {args : List SV} {dst : Option Tmp} {k : List KI} {σ : St} {Q : XE → St → Prop}
    (h : CallGoalB P xn f args dst k σ Q) : CallGoal P xn f args dst k σ Q := by
  obtain ⟨K, h1, h2⟩ := h
  refine ⟨fun s h' => ∃ h0, K s h0 ∧ h' = σ.hp ++ h0.drop σ.hp.length, ⟨h1.1, fun ρ w vs M a b => ?_⟩, fun s h' ⟨h0, q1, q2⟩ => by rw [q2]; exact h2 s h0 q1⟩
  refine (h1.2 ρ w vs M.mask a b).mono ?_
  rintro e w' ⟨y, s, h', ρ', rfl, st, r, hK⟩
  exact ⟨y, s, _, ρ', rfl, (st.unmask M).1, r, h', hK, rfl⟩

/-! ### Less may be known, and by other names -/
/-- All windows named are among those. -/
def SC.ids (p : Nat → Bool) : SC → Bool
  | .ptr i _ => p i
  | .sl i _ _ _ => p i
  | .fn _ caps => caps.all fun q => p q.1
  | _ => true

def SC.ren (r : Nat → Nat) : SC → SC
  | .any => .any
  | .v x => .v x
  | .ptr i o => .ptr (r i) o
  | .sl i o n c => .sl (r i) o n c
  | .fn f caps => .fn f (caps.map fun p => (r p.1, p.2))
  | .ro cs n c => .ro cs n c
  | .rp cs => .rp cs

def SV.ids (p : Nat → Bool) : SV → Bool
  | .c x => x.ids p
  | .agg xs => xs.all (SC.ids p)
  | .tup xs => xs.all fun q => q.2.all (SC.ids p)
  | .und _ x => x.ids p

def SV.ren (r : Nat → Nat) : SV → SV
  | .c x => .c (x.ren r)
  | .agg xs => .agg (xs.map (SC.ren r))
  | .tup xs => .tup (xs.map fun p => (p.1, p.2.map (SC.ren r)))
  | .und g x => .und g (x.ren r)

/-- Where a window of the new state comes from. -/
def srcW (π : List (Option Nat)) (k : Nat) : Nat := match π[k]? with
  | some (some i) => i
  | _ => 0
def isW (π : List (Option Nat)) (k : Nat) : Bool := match π[k]? with
  | some (some _) => true
  | _ => false

/-- A cell 's' is as good as 't' says. -/
def leC (π : List (Option Nat)) (s t : SC) : Prop :=
  (t.ids (isW π) = true ∧ s = t.ren (srcW π)) ∨ t = .any ∨ (∃ i o, t = .sl i o 0 0 ∧ (s = .v (.slice none 0 0) ∨ (∃ i' o', s = .sl i' o' 0 0) ∨ ∃ cs, s = .ro cs 0 0))

def leP (π : List (Option Nat)) : List SC → List SC → Prop
  | [], [] => True
  | s :: ss, t :: ts => leC π s t ∧ leP π ss ts
  | _, _ => False

def leL (π : List (Option Nat)) (ss ts : List SC) : Prop := ((ts.all (SC.ids (isW π))) = true ∧ ss = ts.map (SC.ren (srcW π))) ∨ leP π ss ts

def leV (π : List (Option Nat)) (s t : SV) : Prop := (t.ids (isW π) = true ∧ s = t.ren (srcW π)) ∨ ∃ x y, s = .c x ∧ t = .c y ∧ leC π x y

def wkHp (π0 : List (Option Nat)) (h : List SB) : List (Option Nat) → List SB → Prop
  | [], [] => True
  | none :: π, bt :: ht => (bt.own = false ∧ bt.cells = []) ∧ wkHp π0 h π ht
  | some i :: π, bt :: ht => (match h[i]? with
    | some b => leL π0 b.cells bt.cells ∧ (bt.own = true → b.own = true ∧ b.ty = bt.ty)
    | none => False) ∧ wkHp π0 h π ht
  | _, _ => False

/-- The first windows stay where they are; no two come from one. -/
def piBase (B : Nat) : Nat → List (Option Nat) → Bool
  | k, [] => decide (B ≤ k)
  | k, some i :: π => (bif decide (k < B) then i == k else decide (B ≤ i)) && !(π.contains (some i)) && piBase B (k + 1) π
  | k, none :: π => decide (B ≤ k) && piBase B (k + 1) π

def wkTm (π : List (Option Nat)) (tm : List (Nat × SV)) : List (Nat × SV) → Prop
  | [] => True
  | (t, s) :: r => (match look t tm with
    | some s' => leV π s' s
    | none => False) ∧ wkTm π tm r

/-- What is known in 'σ' is known in 'τ', its windows by other names. -/
structure Wk (π : List (Option Nat)) (σ τ : St) : Prop where
  nm : σ.nm = τ.nm
  pi : piBase σ.nm.base 0 π = true
  hp : wkHp π σ.hp π τ.hp
  tm : wkTm π σ.tm τ.tm

section
variable {π : List (Option Nat)}

theorem piBase_get {B : Nat} : ∀ {π : List (Option Nat)} {k : Nat}, piBase B k π = true → (∀ j : Nat, k + j < B → π[j]? = some (some (k + j))) ∧ (∀ j i : Nat, π[j]? = some (some i) → B ≤ k + j → B ≤ i) ∧
    (∀ j l i i' : Nat, j ≠ l → π[j]? = some (some i) → π[l]? = some (some i') → i ≠ i')
  | [], k, h => by
    simp only [piBase, decide_eq_true_eq] at h
    exact ⟨fun j hj => by omega, fun j i hi => by simp at hi, fun j l i i' _ hj => by simp at hj⟩
  | none :: π, k, h => by
    simp only [piBase, Bool.and_eq_true, decide_eq_true_eq] at h
    obtain ⟨h1, h2⟩ := h
    obtain ⟨g1, g2, g3⟩ := piBase_get h2
    refine ⟨fun j hj => by omega, fun j i hi hB => ?_, fun j l i i' hne hj hl => ?_⟩
    · cases j with
      | zero => simp at hi
      | succ j => exact g2 j i (by simpa using hi) (by omega)
    · cases j with
      | zero => simp at hj
      | succ j => cases l with
        | zero => simp at hl
        | succ l => exact g3 j l i i' (by omega) (by simpa using hj) (by simpa using hl)
  | some i0 :: π, k, h => by
    simp only [piBase, Bool.and_eq_true] at h
    obtain ⟨⟨h0, h1⟩, h2⟩ := h
    obtain ⟨g1, g2, g3⟩ := piBase_get h2
    have hno : ∀ l : Nat, π[l]? ≠ some (some i0) := fun l hl => by
      have : some i0 ∈ π := List.mem_of_getElem? hl
      simp [this] at h1
    refine ⟨fun j hj => ?_, fun j i hi hB => ?_, fun j l i i' hne hj hl => ?_⟩
    · cases j with
      | zero =>
        have : decide (k < B) = true := by simpa using hj
        rw [this] at h0
        simp at h0
        simp [h0]
      | succ j =>
        have := g1 j (by omega)
        rw [List.getElem?_cons_succ, this]
        congr 2
        omega
    · cases j with
      | zero =>
        simp at hi
        subst hi
        have : decide (k < B) = false := by simp; omega
        rw [this] at h0
        simpa using h0
      | succ j => exact g2 j i (by simpa using hi) (by omega)
    · cases j with
      | zero =>
        simp at hj
        subst hj
        cases l with
        | zero => omega
        | succ l => intro e; subst e; exact hno l (by simpa using hl)
      | succ j =>
        cases l with
        | zero =>
          simp at hl
          subst hl
          intro e; subst e; exact hno j (by simpa using hj)
        | succ l => exact g3 j l i i' (by omega) (by simpa using hj) (by simpa using hl)

theorem wkHp_get {π0 : List (Option Nat)} {h : List SB} : ∀ {π : List (Option Nat)} {ht : List SB}, wkHp π0 h π ht → π.length = ht.length ∧ ∀ (k : Nat) (bt : SB), ht[k]? = some bt →
    (π[k]? = some none ∧ bt.own = false ∧ bt.cells = []) ∨ (∃ i b, π[k]? = some (some i) ∧ h[i]? = some b ∧ leL π0 b.cells bt.cells ∧ (bt.own = true → b.own = true ∧ b.ty = bt.ty))
  | [], [], _ => ⟨rfl, fun k bt hk => by simp at hk⟩
  | none :: π, bt :: ht, hw => by
    simp only [wkHp] at hw
    obtain ⟨h1, h2⟩ := wkHp_get hw.2
    refine ⟨by simp [h1], fun k b hk => ?_⟩
    cases k with
    | zero => simp at hk; subst hk; exact .inl ⟨rfl, hw.1⟩
    | succ k => simpa using h2 k b (by simpa using hk)
  | some i :: π, bt :: ht, hw => by
    simp only [wkHp] at hw
    obtain ⟨h1, h2⟩ := wkHp_get hw.2
    refine ⟨by simp [h1], fun k b hk => ?_⟩
    cases k with
    | zero =>
      simp at hk; subst hk
      have := hw.1
      split at this
      · rename_i b hb; exact .inr ⟨i, b, rfl, hb, this⟩
      · exact this.elim
    | succ k => simpa using h2 k b (by simpa using hk)
  | [], _ :: _, h => by simp [wkHp] at h
  | some _ :: _, [], h => by simp [wkHp] at h
  | none :: _, [], h => by simp [wkHp] at h

variable {ρ ρ' : Rho}

theorem ids_rel (hw : ρ'.w0 = ρ.w0) (hz : ρ'.zone = ρ.zone) {p : Nat → Bool} {r : Nat → Nat} (h : ∀ k, p k = true → k < ρ'.n ∧ ρ'.f k = ρ.f (r k)) {t : SC} {y : Value} (hi : t.ids p = true) (hr : (t.ren r).rel ρ y) : t.rel ρ' y := by
  cases t with
  | any => exact hr
  | v x => exact hr
  | ptr i o => obtain ⟨h1, h2⟩ := hr; obtain ⟨g1, g2⟩ := h i hi; exact ⟨g1, by rw [h2]; simp [Rho.at, g2]⟩
  | sl i o n c =>
    rcases hr with hr | ⟨h1, h2, h3⟩
    · exact .inl hr
    · obtain ⟨g1, g2⟩ := h i hi; exact .inr ⟨g1, h2, by rw [h3]; simp [Rho.at, g2]⟩
  | fn f caps =>
    obtain ⟨h1, h2⟩ := hr
    simp only [SC.ids, List.all_eq_true] at hi
    refine ⟨fun q hq => (h q.1 (hi q hq)).1, ?_⟩
    rw [h2]
    congr 2
    rw [List.map_map]
    refine List.map_congr_left fun q hq => ?_
    simp [Rho.at, (h q.1 (hi q hq)).2]
  | ro cs n c => simp only [SC.ren, SC.rel, hw, hz] at hr ⊢; exact hr
  | rp cs => simp only [SC.ren, SC.rel, hw, hz] at hr ⊢; exact hr

theorem idsL_rel (hw : ρ'.w0 = ρ.w0) (hz : ρ'.zone = ρ.zone) {p : Nat → Bool} {r : Nat → Nat} (h : ∀ k, p k = true → k < ρ'.n ∧ ρ'.f k = ρ.f (r k)) {ts : List SC} {ys : List Value} (hi : ts.all (SC.ids p) = true) (hr : RelL ρ (ts.map (SC.ren r)) ys) : RelL ρ' ts ys :=
  ⟨by have := hr.1; simpa using this, fun j c y hc hy => ids_rel hw hz h (List.all_eq_true.1 hi c (List.mem_of_getElem? hc)) (hr.2 j (c.ren r) y (by simp [hc]) hy)⟩

theorem leC_rel (hw : ρ'.w0 = ρ.w0) (hz : ρ'.zone = ρ.zone) (h : ∀ k, isW π k = true → k < ρ'.n ∧ ρ'.f k = ρ.f (srcW π k)) {s t : SC} {y : Value} (hl : leC π s t) (hr : s.rel ρ y) : t.rel ρ' y := by
  rcases hl with ⟨h1, rfl⟩ | rfl | ⟨i, o, rfl, h1⟩
  · exact ids_rel hw hz h h1 hr
  · exact SC.rel_one hr
  · rcases h1 with rfl | ⟨i', o', rfl⟩ | ⟨cs, rfl⟩
    · exact .inl ⟨rfl, rfl, none, hr.1⟩
    · rcases hr with hr | ⟨_, _, hr⟩
      · exact .inl hr
      · exact .inl ⟨rfl, rfl, _, hr⟩
    · simp only [SC.rel, RC.rel] at hr
      rcases hr with ⟨_, _, hr⟩ | ⟨_, b, o, hr, _⟩
      · exact .inl ⟨rfl, rfl, hr⟩
      · exact .inl ⟨rfl, rfl, _, hr⟩

theorem leP_rel (hw : ρ'.w0 = ρ.w0) (hz : ρ'.zone = ρ.zone) (h : ∀ k, isW π k = true → k < ρ'.n ∧ ρ'.f k = ρ.f (srcW π k)) : ∀ {ss ts : List SC} {ys : List Value}, leP π ss ts → RelL ρ ss ys → RelL ρ' ts ys
  | [], [], ys, _, hr => ⟨hr.1, fun j c y hc => by simp at hc⟩
  | s :: ss, t :: ts, [], _, hr => by have := hr.1; simp at this
  | s :: ss, t :: ts, y :: ys, ⟨h1, h2⟩, hr =>
    RelL.cons (leC_rel hw hz h h1 (hr.2 0 _ _ rfl rfl)) (leP_rel hw hz h h2 ⟨by have := hr.1; simpa using this, fun j c y h1 h2 => hr.2 (j + 1) c y (by simpa using h1) (by simpa using h2)⟩)
  | [], _ :: _, _, h, _ => h.elim
  | _ :: _, [], _, h, _ => h.elim

theorem leL_rel (hw : ρ'.w0 = ρ.w0) (hz : ρ'.zone = ρ.zone) (h : ∀ k, isW π k = true → k < ρ'.n ∧ ρ'.f k = ρ.f (srcW π k)) {ss ts : List SC} {ys : List Value} (hl : leL π ss ts) (hr : RelL ρ ss ys) : RelL ρ' ts ys := by
  rcases hl with ⟨h1, rfl⟩ | hl
  · exact idsL_rel hw hz h h1 hr
  · exact leP_rel hw hz h hl hr

theorem leV_rel (hw : ρ'.w0 = ρ.w0) (hz : ρ'.zone = ρ.zone) (h : ∀ k, isW π k = true → k < ρ'.n ∧ ρ'.f k = ρ.f (srcW π k)) {s t : SV} {y : Value} (hl : leV π s t) (hr : s.rel ρ y) : t.rel ρ' y := by
  rcases hl with ⟨h1, rfl⟩ | ⟨x, z, rfl, rfl, h1⟩
  · cases t with
    | c x => exact ids_rel hw hz h h1 hr
    | agg xs => obtain ⟨ys, e, r⟩ := hr; exact ⟨ys, e, idsL_rel hw hz h h1 r⟩
    | tup xs =>
      obtain ⟨ys, e, r1, r2⟩ := hr
      refine ⟨ys, e, by simpa using r1, fun j c z hc hz' => ?_⟩
      have h3 := List.all_eq_true.1 h1 c (List.mem_of_getElem? hc)
      have h4 := r2 j (c.1, c.2.map (SC.ren (srcW π))) z (by simp [hc]) hz'
      obtain ⟨b, l⟩ := c
      cases b with
      | true => obtain ⟨zs, q1, q2⟩ := h4; exact ⟨zs, q1, idsL_rel hw hz h h3 q2⟩
      | false =>
        match l, h4, h3 with
        | [x], h4, h3 => exact ids_rel hw hz h (by simpa using h3) h4
        | [], h4, _ => exact h4.elim
        | _ :: _ :: _, h4, _ => exact h4.elim
    | und g x => exact ⟨fun hg => ids_rel hw hz h h1 (hr.1 hg), hr.2⟩
  · exact leC_rel hw hz h h1 hr

theorem wkTm_get {tm : List (Nat × SV)} : ∀ {l : List (Nat × SV)}, wkTm π tm l → ∀ t s, look t l = some s → ∃ s', look t tm = some s' ∧ leV π s' s
  | [], _, t, s, h => by simp [look] at h
  | (u, x) :: r, h, t, s, hl => by
    simp only [wkTm] at h
    simp only [look] at hl
    cases ht : t == u
    · rw [ht] at hl; exact wkTm_get h.2 t s hl
    · rw [ht] at hl
      simp only [cond_true, Option.some.injEq] at hl
      have : t = u := by simpa using ht
      subst this
      subst hl
      have := h.1
      split at this
      · rename_i s' hs'; exact ⟨s', hs', this⟩
      · exact this.elim

theorem Step.wk {h0 h h3 : List SB} {ρ0 ρ : Rho} {w0 w : World} (hen : ρ0.n = h0.length) (S : Step h0 ρ0 w0 h ρ w) (hpi : piBase h0.length 0 π = true) (hwk : wkHp π h π h3) :
    ∃ ρ3 : Rho, Step h0 ρ0 w0 h3 ρ3 w ∧ ∀ s t y, leV π s t → s.rel ρ y → t.rel ρ3 y := by
  obtain ⟨plen, pg⟩ := wkHp_get hwk
  obtain ⟨b1, b2, b3⟩ := piBase_get hpi
  simp only [Nat.zero_add] at b1 b2
  have M := S.models
  let ρ' : Rho := ⟨h3.length, fun k => match π[k]? with
    | some (some i) => ρ.f i
    | _ => (w.heap.size, 0), ρ.w0, ρ.zone⟩
  have hf : ∀ k, isW π k = true → k < ρ'.n ∧ ρ'.f k = ρ.f (srcW π k) := by
    intro k hk
    unfold isW at hk
    split at hk
    · rename_i i hi
      refine ⟨?_, by simp [ρ', hi, srcW]⟩
      show k < h3.length
      rw [← plen]
      exact (List.getElem?_eq_some_iff.1 hi).1
    · cases hk
  have hfi : ∀ k i, π[k]? = some (some i) → ρ'.f k = ρ.f i := fun k i hi => by simp [ρ', hi]
  have rel : ∀ {ss ts : List SC} {ys : List Value}, leL π ss ts → RelL ρ ss ys → RelL ρ' ts ys := fun hl hr => leL_rel (ρ := ρ) (ρ' := ρ') rfl rfl hf hl hr
  have cas : ∀ {k : Nat} {bt : SB}, h3[k]? = some bt → (π[k]? = some none ∧ bt.own = false ∧ bt.cells = []) ∨ (∃ i b, π[k]? = some (some i) ∧ h[i]? = some b ∧ leL π b.cells bt.cells ∧ (bt.own = true → b.own = true ∧ b.ty = bt.ty)) := fun h => pg _ _ h
  have lenL : ∀ {ss ts : List SC}, leL π ss ts → ss.length = ts.length := by
    intro ss ts hl
    rcases hl with ⟨_, rfl⟩ | hl
    · simp
    · have : ∀ (ss ts : List SC), leP π ss ts → ss.length = ts.length := by
        intro ss
        induction ss with
        | nil => intro ts h; cases ts with
          | nil => rfl
          | cons t ts => exact h.elim
        | cons s ss ih => intro ts h; cases ts with
          | nil => exact h.elim
          | cons t ts => simp [ih ts h.2]
      exact this _ _ hl
  have vd : ∀ {b bt : SB}, leL π b.cells bt.cells → (bt.own = true → b.own = true ∧ b.ty = bt.ty) → bt.void = false → b.void = false := by
    intro b bt hl ho hv
    have := lenL hl
    unfold SB.void at hv ⊢
    simp only [Bool.and_eq_false_iff, Bool.not_eq_false'] at hv ⊢
    rcases hv with hv | hv
    · exact .inl (ho hv).1
    · right
      rw [List.isEmpty_eq_false_iff] at hv ⊢
      intro h0
      rw [h0] at this
      exact hv (List.eq_nil_of_length_eq_zero this.symm)
  refine ⟨ρ', ⟨⟨?_, fun i hi => ?_, S.le.3, S.le.4⟩, ⟨rfl, ?_, ?_, ?_, ?_, M.zone, ?_⟩, ?_, S.ext, ?_, ?_⟩, fun s t y h2 g2 => leV_rel (ρ := ρ) (ρ' := ρ') rfl rfl hf h2 g2⟩
  · -- as many at least
    show ρ0.n ≤ h3.length
    rw [← plen]
    rcases Nat.lt_or_ge π.length ρ0.n with hlt | hge
    · have := b1 π.length (by omega)
      simp at this
    · exact hge
  · rw [hfi i i (b1 i (by omega))]
    exact S.le.2 i hi
  · intro k bt hk ho
    rcases cas hk with ⟨_, h2, _⟩ | ⟨i, b, h1, h2, h3, h4⟩
    · rw [h2] at ho; cases ho
    · obtain ⟨q1, q2⟩ := h4 ho
      obtain ⟨g1, csv, g2, g3⟩ := M.own i b h2 q1
      rw [hfi k i h1]
      exact ⟨g1, csv, by rw [← q2]; exact g2, rel h3 g3⟩
  · intro k bt hk j c hc
    rcases cas hk with ⟨_, _, h2⟩ | ⟨i, b, h1, h2, h3, h4⟩
    · rw [h2] at hc; simp at hc
    · obtain ⟨ys, g1, g2⟩ := M.cells h2
      have g3 := rel h3 g1
      obtain ⟨y, q1, q2⟩ := g3.get hc
      exact ⟨y, by simp only [Rho.at, hfi k i h1]; exact g2 j y q1, q2⟩
  · intro k l bk bl hne hk hl ho hv
    rcases cas hk with ⟨_, h2, _⟩ | ⟨i, b, h1, h2, h3, h4⟩
    · rw [h2] at ho; cases ho
    · rcases cas hl with ⟨_, q2, q3⟩ | ⟨j, c, q1, q2, q3, q4⟩
      · simp [SB.void, q2, q3] at hv
      · rw [hfi k i h1, hfi l j q1]
        exact M.sep i j b c (b3 k l i j hne h1 q1) h2 q2 (h4 ho).1 (vd q3 q4 hv)
  · intro k bt hk hv
    rcases cas hk with ⟨_, q2, q3⟩ | ⟨i, b, h1, h2, h3, h4⟩
    · simp [SB.void, q2, q3] at hv
    · rw [hfi k i h1]; exact M.lt i b h2 (vd h3 h4 hv)
  · intro z k bt hz hk ho
    rcases cas hk with ⟨_, h2, _⟩ | ⟨i, b, h1, h2, h3, h4⟩
    · rw [h2] at ho; cases ho
    · rw [hfi k i h1]; exact M.zsep z i b hz h2 (h4 ho).1
  · intro k hk hk'
    cases hp : π[k]? with
    | none =>
      exfalso
      have : k < π.length := by rw [plen]; exact hk'
      rw [List.getElem?_eq_getElem this] at hp
      cases hp
    | some o =>
      cases o with
      | none =>
        have : ρ'.f k = (w.heap.size, 0) := by simp [ρ', hp]
        rw [this]
        exact S.ext.size
      | some i =>
        rw [hfi k i hp]
        have hBi := b2 k i hp (by omega)
        have hkt : k < h3.length := hk'
        rcases cas (List.getElem?_eq_getElem hkt) with ⟨h1, _⟩ | ⟨i', b, h1, h2, _⟩
        · rw [hp] at h1; cases h1
        · rw [hp] at h1
          cases h1
          exact S.fresh i (by omega) (M.some_lt h2)
  · intro i bt hi hk ho
    rcases cas hk with ⟨_, h2, _⟩ | ⟨i', b, h1, h2, h3, h4⟩
    · rw [h2] at ho; cases ho
    · rw [b1 i (by omega)] at h1
      cases h1
      exact S.flags i b hi h2 (h4 ho).1
  · intro i bt hi hk hv
    rcases cas hk with ⟨_, q2, q3⟩ | ⟨i', b, h1, h2, h3, h4⟩
    · simp [SB.void, q2, q3] at hv
    · rw [b1 i (by omega)] at h1
      cases h1
      exact S.nonv i b hi h2 (vd h3 h4 hv)

theorem Sat.wk {e : Env} {σ τ : St} {a : Act} {w : World} (S : Sat e σ a w) (W : Wk π σ τ) : Sat e τ a w := by
  obtain ⟨ρ, S⟩ := S
  obtain ⟨ρ3, S3, hv⟩ := Step.wk S.base.2 S.step (by rw [S.base.1]; exact W.pi) W.hp
  refine ⟨ρ3, ⟨by rw [← W.nm]; exact S.base, S.defers, S.size, S3, fun t s hs => ?_⟩⟩
  obtain ⟨s', h1, h2⟩ := wkTm_get W.tm t s hs
  obtain ⟨y, g1, g2⟩ := S.tm t s' h1
  exact ⟨y, g1, hv _ _ _ h2 g2⟩

/-- Less may be said of what a call comes to, its windows by other names. -/
theorem Spec.wk {P : Program} {f : FuncId} {args : List SV} {h : List SB} {K K' : SV → List SB → Prop} (s : Spec P f args h K)
    (hk : ∀ t h', K t h' → ∃ t3 h3 π, piBase h.length 0 π = true ∧ wkHp π h' π h3 ∧ leV π t t3 ∧ K' t3 h3) : Spec P f args h K' := by
  refine ⟨s.1, fun ρ w vs M hl hr => (s.2 ρ w vs M hl hr).mono ?_⟩
  rintro e w' ⟨y, t, h', ρ', rfl, st, hrel, hK⟩
  obtain ⟨t3, h3, π, k1, k2, k3, k4⟩ := hk t h' hK
  obtain ⟨ρ3, S3, hv⟩ := Step.wk M.n st k1 k2
  exact ⟨y, t3, h3, ρ3, rfl, S3, hv _ _ _ k3 hrel, k4⟩
end

/-! ### Loops -/
/-- A loop by what holds at every round's head: 'I m', where 'm' goes down. -/
theorem loop_of (hc : CxOk cx) {c : Code} {k : List KI} {σ : St} {Q : XE → St → Prop} (n : Nat) (I : Nat → St → Prop) (m : Nat) (σ0 : St) (h0 : I m σ0) (π : List (Option Nat)) (hw : Wk π σ σ0)
    (round : ∀ m σ', I m σ' → X cx n (.code c :: .lp (fun σ'' => ∃ m', m' < m ∧ ∃ σ3, I m' σ3 ∧ ∃ π, Wk π σ'' σ3) :: k) σ' Q) : LoopGoal cx.P c k σ Q := by
  intro e a w hcd hk S
  have S0 := S.wk hw
  refine wp_loop (I := fun a w => ∃ m σ, I m σ ∧ Sat e σ a w) (μ := fun a w => Classical.epsilon fun m => (∃ σ, I m σ ∧ Sat e σ a w) ∧ ∀ m', (∃ σ, I m' σ ∧ Sat e σ a w) → m ≤ m') ⟨m, σ0, h0, S0⟩ ?_
  intro a w hI
  -- the least number
  have least : ∀ a w, (∃ m σ, I m σ ∧ Sat e σ a w) → ∃ m, (∃ σ, I m σ ∧ Sat e σ a w) ∧ ∀ m', (∃ σ, I m' σ ∧ Sat e σ a w) → m ≤ m' := by
    intro a w ⟨m, hm⟩
    induction m using Nat.strongRecOn with
    | _ m ih =>
      by_cases hl : ∃ m', m' < m ∧ ∃ σ, I m' σ ∧ Sat e σ a w
      · obtain ⟨m', h1, h2⟩ := hl
        exact ih m' h1 h2
      · exact ⟨m, hm, fun m' hm' => Nat.le_of_not_lt fun h => hl ⟨m', h, hm'⟩⟩
  have hmu := Classical.epsilon_spec (least a w hI)
  obtain ⟨⟨σ1, h1, S1⟩, h2⟩ := hmu
  generalize (Classical.epsilon fun m => (∃ σ, I m σ ∧ Sat e σ a w) ∧ ∀ m', (∃ σ, I m' σ ∧ Sat e σ a w) → m ≤ m') = M at *
  have := X_ok hc n _ _ _ (round M σ1 h1) e a w (fun i hi => by
    cases hi with
    | head => exact hcd
    | tail _ hi => cases hi with
      | head => trivial
      | tail _ hi => exact hk i hi) S1
  refine wp_mono (Q := contQ cx.P e (.lp (fun σ'' => ∃ m', m' < M ∧ ∃ σ3, I m' σ3 ∧ ∃ π, Wk π σ'' σ3) :: k) (hatQ e Q)) this ?_
  intro ex a' w' hq
  cases ex with
  | normal =>
    obtain ⟨σ2, S2, m', hlt, σ3, hI3, π3, hw3⟩ := hq
    have S3 := S2.wk hw3
    refine ⟨⟨m', σ3, hI3, S3⟩, ?_⟩
    have h4 := (Classical.epsilon_spec (least a' w' ⟨m', σ3, hI3, S3⟩)).2 m' ⟨σ3, hI3, S3⟩
    exact Nat.lt_of_le_of_lt h4 hlt
  | exit id => exact hq
  | goto l => exact hq
  | ret => exact hq
  | panic ch => exact hq
  | outgrown => exact hq

/-- Less may be known at a loop's head, once. -/
theorem loop_wk {cx : Cx} {c : Code} {k : List KI} {σ σ0 : St} {Q : XE → St → Prop} (π : List (Option Nat)) (hw : Wk π σ σ0) (h : LoopGoal cx.P c k σ0 Q) : LoopGoal cx.P c k σ Q :=
  fun e a w hcd hk S => h e a w hcd hk (S.wk hw)

/-- A loop, round by round: at most 'm' rounds. -/
theorem loop_rounds (hc : CxOk cx) {c : Code} {k : List KI} {σ : St} {Q : XE → St → Prop} (n m : Nat) (h : X cx n (.rnd m c :: k) σ Q) : LoopGoal cx.P c k σ Q := by
  intro e a w hcd hk S
  have := X_ok hc n _ _ _ h e a w (fun i hi => by
    cases hi with
    | head => exact hcd
    | tail _ hi => exact hk i hi) S
  exact wp_loop_rounds m this

end Go.Proofs.Ytcihljikepielaa.Sx
