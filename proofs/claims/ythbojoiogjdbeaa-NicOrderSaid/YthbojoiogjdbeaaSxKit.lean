/- A symbolic executor for the model's code: functions, calls, loops. No condition. -/
import Derived.Test.YthbojoiogjdbeaaSxMain
import Derived.KernelRfl
import Derived.RangeFuncOwn
import Derived.RangeFuncLeaves
namespace Go.Proofs.Ythbojoiogjdbeaa.Sx
open Go
set_option linter.unusedSectionVars false
set_option linter.unusedVariables false

/-! ### A function by its body -/
def argsTm : Nat → List SV → List (Nat × SV)
  | _, [] => []
  | k, s :: r => (k, s) :: argsTm (k + 1) r

def resC (T : TypeId → Option TI) (tm : List (Nat × SV)) (hp : List SB) : ResultVar → Option (Prop × (Bool × List SC))
  | .tmp t => match look t tm with
    | some (.c x) => some (True, (false, [x]))
    | some (.agg xs) => some (True, (true, xs))
    | _ => none
  | .cell t ty => match look t tm, T ty with
    | some (.c (.ptr i o)), some ti => bif ti.desc.agg then some (o + ti.size ≤ lenW hp i, (true, win hp i o ti.size)) else match hp[i]? with
      | some b => some (o < b.cells.length, (false, [b.cells.getD o .any]))
      | none => none
    | _, _ => none

def resL (T : TypeId → Option TI) (tm : List (Nat × SV)) (hp : List SB) : List ResultVar → Option (Prop × List (Bool × List SC))
  | [] => some (True, [])
  | r :: l => match resC T tm hp r, resL T tm hp l with
    | some (p, x), some (q, xs) => some (p ∧ q, x :: xs)
    | _, _ => none

def toSV : List (Bool × List SC) → SV
  | [(true, cs)] => .agg cs
  | [(false, [x])] => .c x
  | l => .tup l

def retQ (T : TypeId → Option TI) (rs : List ResultVar) (K : SV → List SB → Prop) : XE → St → Prop
  | .exit _, _ => False
  | .panic _, _ => False
  | .normal, σ => match resL T σ.tm σ.hp rs with
    | some (p, l) => p ∧ K (toSV l) σ.hp
    | none => False
  | .ret, σ => match resL T σ.tm σ.hp rs with
    | some (p, l) => p ∧ K (toSV l) σ.hp
    | none => False

theorem look_args {args : List SV} : ∀ {k t : Nat} {s : SV}, look t (argsTm k args) = some s → k ≤ t ∧ args[t - k]? = some s := by
  induction args with
  | nil => intro k t s h; simp [argsTm, look] at h
  | cons x r ih =>
    intro k t s h
    simp only [argsTm, look] at h
    cases ht : t == k
    · rw [ht] at h
      simp only [cond_false] at h
      obtain ⟨h1, h2⟩ := ih h
      refine ⟨by omega, ?_⟩
      rw [show t - k = (t - (k + 1)) + 1 from by omega]
      simpa using h2
    · rw [ht] at h
      have : t = k := by simpa using ht
      subst this
      simp only [cond_true, Option.some.injEq] at h
      subst h
      simp

variable {cx : Cx}

def readRes (tmps : Array Value) : ResultVar → Sem Value
  | .tmp t => pure (tmps.getD t undef)
  | .cell b t => do loadVar t (← asAddr (tmps.getD b undef))

theorem results_read (fn : Func) (tmps : Array Value) : results fn tmps = (do
    let vs ← fn.results.mapM (readRes tmps)
    pure (if h : vs.size = 1 then vs[0] else .tuple vs)) := by
  unfold results
  congr 1

theorem resC_ok (hc : CxOk cx) {e : Env} {σ : St} {ρ : Rho} {a : Act} {w : World} (S : SatR e σ ρ a w) {r : ResultVar} {p : Prop} {x : Bool × List SC} (h : resC cx.T σ.tm σ.hp r = some (p, x)) (hp : p) :
    ∃ y, (readRes a.tmps r).run cx.P w = .ok y w ∧ relT ρ x y := by
  have gd : ∀ {t y}, a.tmps[t]? = some y → a.tmps.getD t undef = y := by
    intro t y hy
    simp [Array.getD_eq_getD_getElem?, hy]
  cases r with
  | tmp t =>
    simp only [resC] at h
    split at h
    · rename_i c hl
      cases h
      obtain ⟨y, h1, h2⟩ := S.tm t _ hl
      exact ⟨y, by simp [readRes, gd h1], h2⟩
    · rename_i xs hl
      cases h
      obtain ⟨y, h1, h2⟩ := S.tm t _ hl
      exact ⟨y, by simp [readRes, gd h1], h2⟩
    · cases h
  | cell t ty =>
    simp only [resC] at h
    split at h
    · rename_i i o ti hl ht
      obtain ⟨y, h1, hi, h2⟩ := S.tm t _ hl
      have H := hc.T ty ti ht
      have M := S.step.models
      cases hag : ti.desc.agg
      · rw [hag] at h
        simp only [cond_false] at h
        split at h
        · rename_i b hb
          cases h
          obtain ⟨z, g1, g2⟩ := M.ro i b hb o _ (getD_get hp)
          exact ⟨z, by simp [readRes, gd h1, h2, asAddr, loadVar, H.isAgg, hag, g1], g2⟩
        · cases h
      · rw [hag] at h
        simp only [cond_true, Option.some.injEq, Prod.mk.injEq] at h
        obtain ⟨hp', hx⟩ := h
        subst hp'; subst hx
        obtain ⟨ys, g1, g2, g3⟩ := win_vals M hp hi
        have hl := run_loadCells_at (P := cx.P) g3
        rw [g2] at hl
        exact ⟨.agg ys.toArray, by simp [readRes, gd h1, h2, asAddr, loadVar, H.isAgg, hag, H.sizeOf, hl], ys.toArray, rfl, by simpa using g1⟩
    · cases h

theorem resL_ok (hc : CxOk cx) {e : Env} {σ : St} {ρ : Rho} {a : Act} {w : World} (S : SatR e σ ρ a w) : ∀ {rs : List ResultVar} {p : Prop} {xs : List (Bool × List SC)}, resL cx.T σ.tm σ.hp rs = some (p, xs) → p →
    ∃ ys : List Value, (rs.mapM (readRes a.tmps)).run cx.P w = .ok ys w ∧ xs.length = ys.length ∧ ∀ (j : Nat) (c : Bool × List SC) (z : Value), xs[j]? = some c → ys[j]? = some z → relT ρ c z
  | [], p, xs, h, hp => by
    simp only [resL, Option.some.injEq, Prod.mk.injEq] at h
    obtain ⟨_, rfl⟩ := h
    exact ⟨[], by simp only [List.mapM_nil, Sem.run_pure], rfl, fun j c z hc => by simp at hc⟩
  | r :: rs, p, xs, h, hp => by
    simp only [resL] at h
    split at h
    · rename_i p1 x1 p2 xs2 h1 h2
      cases h
      obtain ⟨y, g1, g2⟩ := resC_ok hc S h1 hp.1
      obtain ⟨ys, k1, k2, k3⟩ := resL_ok hc S h2 hp.2
      refine ⟨y :: ys, by simp only [List.mapM_cons, Sem.run_bind, g1, k1, Result.andThen_ok, Sem.run_pure], by simp [k2], fun j c z hcj hz => ?_⟩
      cases j with
      | zero => simp at hcj hz; subst hcj; subst hz; exact g2
      | succ j => exact k3 j c z (by simpa using hcj) (by simpa using hz)
    · cases h

theorem toSV_rel {ρ : Rho} {xs : List (Bool × List SC)} {ys : List Value} (hl : xs.length = ys.length) (h : ∀ (j : Nat) (c : Bool × List SC) (z : Value), xs[j]? = some c → ys[j]? = some z → relT ρ c z) :
    (toSV xs).rel ρ (if h : ys.toArray.size = 1 then ys.toArray[0] else .tuple ys.toArray) := by
  unfold toSV
  split
  · rename_i cs
    match ys, hl with
    | [y], _ =>
      have := h 0 _ _ rfl rfl
      simp
      exact this
  · rename_i x
    match ys, hl with
    | [y], _ =>
      have := h 0 _ _ rfl rfl
      simp
      exact this
  · rename_i h1 h2
    by_cases h3 : ys.length = 1
    · exfalso
      obtain ⟨c, rfl⟩ := List.length_eq_one_iff.1 (hl.trans h3)
      obtain ⟨y, rfl⟩ := List.length_eq_one_iff.1 h3
      have h4 := h 0 _ _ rfl rfl
      obtain ⟨b, cs⟩ := c
      cases b with
      | true => exact h1 _ rfl
      | false =>
        match cs, h4 with
        | [x], _ => exact h2 _ rfl
    · rw [dif_neg (by simpa using h3)]
      exact ⟨_, rfl, by simpa using hl, fun j c z hc hz => h j c z hc (by simpa using hz)⟩

theorem results_ok (hc : CxOk cx) {fn : Func} {e : Env} {σ : St} {a : Act} {w : World} {K : SV → List SB → Prop} (S : Sat e σ a w) (h : match resL cx.T σ.tm σ.hp fn.results.toList with
    | some (p, l) => p ∧ K (toSV l) σ.hp
    | none => False) : ∃ (y : Value) (s : SV) (ρ : Rho), (results fn a.tmps).run cx.P w = .ok y w ∧ Step e.h e.ρ e.w σ.hp ρ w ∧ s.rel ρ y ∧ K s σ.hp := by
  obtain ⟨ρ, S⟩ := S
  split at h
  · rename_i p l hr
    obtain ⟨hp, hK⟩ := h
    obtain ⟨ys, h1, h2, h3⟩ := resL_ok hc S hr hp
    refine ⟨_, toSV l, ρ, ?_, S.step, toSV_rel h2 h3, hK⟩
    simp only [results_read, Sem.run_bind]
    rw [Array.mapM_eq_mapM_toList, Sem.run_map]
    rw [h1]
    simp only [Result.andThen_ok, Sem.run_pure]
  · exact h.elim

/-! ### Blocks that are no cells -/
theorem putObj_size (w : World) (D : Nat) (o : Obj) : (w.putObj D o).heap.size = w.heap.size := by simp [World.putObj]
theorem Models.putObj {h : List SB} {ρ : Rho} {w : World} (M : Models h ρ w) {D : Nat} {o : Obj} (o' : Obj) (hD : w.heap[D]? = some o) (ho : o.isCells = false) (hz : ¬ ρ.zone D) : Models h ρ (w.putObj D o') where
  n := M.n
  own i b hb ob := by
    obtain ⟨h1, cs, ⟨fr, hr, hf⟩, rel⟩ := M.own i b hb ob
    refine ⟨h1, cs, ⟨fr, ?_, hf⟩, rel⟩
    rw [World.putObj_heap_other]
    · exact hr
    · intro e
      rw [e, hD] at hr
      cases hr
      cases ho
  ro i b hb j c hc := by
    obtain ⟨y, h1, h2⟩ := M.ro i b hb j c hc
    exact ⟨y, cell_kept h1 (grownBy_putObj' w D o') (fun r e => by cases e; exact ⟨o, hD, ho⟩), h2⟩
  sep := M.sep
  lt i b hb hv := by rw [putObj_size]; exact M.lt i b hb hv
  zone k hk := by
    obtain ⟨h1, h2⟩ := M.zone k hk
    refine ⟨by rw [putObj_size]; exact h1, ?_⟩
    rw [World.putObj_heap_other (by rintro rfl; exact hz hk)]
    exact h2
  zsep := M.zsep
theorem Step.putObj {h h' : List SB} {ρ ρ' : Rho} {w w' : World} (st : Step h ρ w h' ρ' w') {D : Nat} {o : Obj} (o' : Obj) (hD : w'.heap[D]? = some o) (ho : o.isCells = false) (hB : w.heap.size ≤ D) (hz : ¬ ρ'.zone D) : Step h ρ w h' ρ' (w'.putObj D o') where
  le := st.le
  models := st.models.putObj o' hD ho hz
  fresh := st.fresh
  ext := ⟨st.ext.os, st.ext.tape, st.ext.output, by rw [putObj_size]; exact st.ext.size, fun k hk hn => by rw [World.putObj_heap_other (by omega)]; exact st.ext.block k hk hn⟩
  flags := st.flags
  nonv := st.nonv

/-- The blocks for the deferred calls of rounds are shut. -/
def shutD : List Nat → World → World
  | [], w => w
  | D :: Ds, w => shutD Ds (w.putObj D (.deferred none))
theorem MarksOk.tail {B D : Nat} {Ds : List Nat} {w : World} (m : MarksOk B (D :: Ds) w) (o : Obj) : MarksOk B Ds (w.putObj D o) :=
  ⟨(List.nodup_cons.1 m.1).2, fun E hE => by
    obtain ⟨h1, h2⟩ := m.2 E (.tail _ hE)
    refine ⟨h1, ?_⟩
    rw [World.putObj_heap_other (by rintro rfl; exact (List.nodup_cons.1 m.1).1 hE)]
    exact h2⟩
theorem leaves_marks {P : Program} {F : Fence} {n : Nat} {fn : Func} {tmps : Array Value} {R : Ending → World → Prop} {B : Nat} : ∀ (Ds : List Nat) (w : World), MarksOk B Ds w → LeavesInM F n P fn tmps R [] .returning (shutD Ds w) → LeavesInM F n P fn tmps R (Ds.map mkD) .returning w
  | [], w, _, h => h
  | D :: Ds, w, m, h => ⟨(fun h => by cases h), .inl ⟨D, _, rfl, run_takeDeferred (m.2 D (.head _)).2, leaves_marks Ds _ (m.tail _) h⟩⟩
theorem SatR.shut {e : Env} {σ : St} {ρ : Rho} (hz : ∀ k, e.ρ.zone k → k < e.w.heap.size) (hp : ∀ p ∈ e.pins, p.1 < e.w.heap.size) : ∀ (Ds : List Nat) {a : Act} {w : World}, SatR e σ ρ a w → MarksOk e.w.heap.size Ds w → SatR e σ ρ { a with defers := e.df } (shutD Ds w)
  | [], a, w, S, _ => ⟨S.base, ⟨⟨[], rfl, List.nodup_nil, fun D hD => by simp at hD⟩, S.defers.2⟩, S.size, S.step, S.tm⟩
  | D :: Ds, a, w, S, m => by
    obtain ⟨h1, h2⟩ := m.2 D (.head _)
    have S' : SatR e σ ρ { a with defers := e.df } (w.putObj D (.deferred none)) := ⟨S.base, ⟨⟨[], rfl, List.nodup_nil, fun D hD => by simp at hD⟩, fun p h => ⟨by rw [World.putObj_heap_other (by have := hp p h; omega)]; exact (S.defers.2 p h).1, (S.defers.2 p h).2⟩⟩, S.size, S.step.putObj _ h2 rfl h1 (fun hk => by rw [S.step.le.4] at hk; have := hz D hk; omega), S.tm⟩
    exact SatR.shut (a := { a with defers := e.df }) hz hp Ds S' (m.tail _)

/-- A contract out of the body. -/
theorem spec_of_X (hc : CxOk cx) {f : FuncId} {fn : Func} {c : Code} (hf : cx.P.funcs[f]? = some fn) (hb : fn.body = some c) (hname : (fn.name == "runtime.NumGoroutine") = false) (hok : codeOk fn.ntmps c = true)
    {args : List SV} {hp : List SB} {K : SV → List SB → Prop} (hargs : args.length ≤ fn.ntmps) (n nm : Nat) (h : X cx n [.code c] ⟨⟨nm, hp.length⟩, argsTm 0 args, hp⟩ (retQ cx.T fn.results.toList K)) : Spec cx.P f args hp K := by
  refine ⟨fun vs w => ?_, fun ρ w vs M hl hr => ?_⟩
  · have hn : ¬ fn.name = "runtime.NumGoroutine" := by simpa using hname
    simp [callFunc, hf, hn, hb]
  · refine callsIn_wide.1 (callsIn_of_wp_marks (n := 0) hf hb trivial (wpIn_wide.2 ?_) rfl)
    have hsat : Sat ⟨w, hp, ρ, fn.ntmps, [], []⟩ ⟨⟨nm, hp.length⟩, argsTm 0 args, hp⟩ { tmps := vs ++ Array.replicate (fn.ntmps - vs.size) undef, defers := [] } w := by
      refine ⟨ρ, ⟨rfl, M.n⟩, ⟨⟨[], rfl, List.nodup_nil, fun D hD => by simp at hD⟩, fun p h => by simp at h⟩, by simp; omega, Step.refl M, fun t s hs => ?_⟩
      obtain ⟨h1, h2⟩ := look_args hs
      simp only [Nat.sub_zero] at h2
      have ht : t < vs.size := by rw [← hl]; exact (List.getElem?_eq_some_iff.1 h2).1
      refine ⟨vs[t], ?_, hr t s vs[t] h2 (by simp [ht])⟩
      rw [Array.getElem?_append_left ht]
      simp [ht]
    have := X_ok hc n _ _ _ h ⟨w, hp, ρ, fn.ntmps, [], []⟩ _ w (by simpa [KI.ok] using hok) hsat
    refine wp_mono (Q := contQ cx.P ⟨w, hp, ρ, fn.ntmps, [], []⟩ [] (hatQ ⟨w, hp, ρ, fn.ntmps, [], []⟩ (retQ cx.T fn.results.toList K))) this ?_
    intro ex a' w' hq
    have key : ∀ (σ : St), Sat ⟨w, hp, ρ, fn.ntmps, [], []⟩ σ a' w' → (match resL cx.T σ.tm σ.hp fn.results.toList with
        | some (p, l) => p ∧ K (toSV l) σ.hp
        | none => False) → LeavesInM Fence.wide 0 cx.P fn a'.tmps (fun e w' => ∃ (y : Value) (s : SV) (h' : List SB) (ρ' : Rho), e = .returned y ∧ Step hp ρ w h' ρ' w' ∧ s.rel ρ' y ∧ K s h') a'.defers .returning w' := by
      rintro σ ⟨ρ1, S⟩ hq
      obtain ⟨⟨Ds, d1, d2⟩, _⟩ := S.defers
      rw [d1]
      show LeavesInM _ _ _ _ _ _ (Ds.map mkD ++ []) _ _
      rw [List.append_nil]
      refine leaves_marks Ds w' d2 ?_
      have S' := S.shut (fun k hk => (M.zone k hk).1) (fun p h => by simp at h) Ds d2
      obtain ⟨y, s, ρ', h1, h2, h3, h4⟩ := results_ok hc ⟨ρ1, S'⟩ hq
      exact ⟨y, h1, y, s, σ.hp, ρ', rfl, h2, h3, h4⟩
    cases ex with
    | normal => obtain ⟨σ, S, hq⟩ := hq; exact key σ S hq
    | ret => obtain ⟨σ, S, hq⟩ := hq; exact key σ S hq
    | exit id => obtain ⟨σ, S, hq⟩ := hq; exact hq.elim
    | goto l => exact hq.elim
    | panic c => obtain ⟨σ, S, hq⟩ := hq; exact hq.elim
    | outgrown => exact hq.elim

/-! ### Calls -/
theorem Spec.mono {P : Program} {f : FuncId} {args : List SV} {h : List SB} {K K' : SV → List SB → Prop} (s : Spec P f args h K) (hk : ∀ s h', K s h' → K' s h') : Spec P f args h K' :=
  ⟨s.1, fun ρ w vs M h1 h2 => (s.2 ρ w vs M h1 h2).mono fun e w' ⟨y, s, h', ρ', a, b, c, d⟩ => ⟨y, s, h', ρ', a, b, c, hk _ _ d⟩⟩

theorem call_of {P : Program} {xn : XN} {f : FuncId} {args : List SV} {dst : Option Tmp} {k : List KI} {σ : St} {Q : XE → St → Prop}
    (h : ∀ K : SV → List SB → Prop, (∀ s h', xn k ⟨σ.nm, put dst s σ.tm, h'⟩ Q → K s h') → Spec P f args σ.hp K) : CallGoal P xn f args dst k σ Q :=
  .inl ⟨_, h _ fun _ _ h => h, fun _ _ h => .inl h⟩

theorem callB_of {P : Program} {xn : XN} {f : FuncId} {args : List SV} {dst : Option Tmp} {k : List KI} {σ : St} {Q : XE → St → Prop}
    (h : ∀ K : SV → List SB → Prop, (∀ s h', xn k ⟨σ.nm, put dst s σ.tm, σ.hp ++ h'.drop σ.hp.length⟩ Q → K s h') → Spec P f args (mask σ.hp) K) : CallGoalB P xn f args dst k σ Q :=
  ⟨_, h _ fun _ _ h => h, fun _ _ h => h⟩

/-- A call that leaves all windows may be met so in any place. -/
theorem call_pure {P : Program} {xn : XN} {f : FuncId} {args : List SV} {dst : Option Tmp} {k : List KI} {σ : St} {Q : XE → St → Prop}
    (h : CallGoalB P xn f args dst k σ Q) : CallGoal P xn f args dst k σ Q := by
  obtain ⟨K, h1, h2⟩ := h
  refine .inl ⟨fun s h' => ∃ h0, K s h0 ∧ h' = σ.hp ++ h0.drop σ.hp.length, ⟨h1.1, fun ρ w vs M a b => ?_⟩, fun s h' ⟨h0, q1, q2⟩ => by rw [q2]; exact .inl (h2 s h0 q1)⟩
  refine (h1.2 ρ w vs M.mask a b).mono ?_
  rintro e w' ⟨y, s, h', ρ', rfl, st, r, hK⟩
  exact ⟨y, s, _, ρ', rfl, (st.unmask M).1, r, h', hK, rfl⟩

/-- Less may be said of what a call comes to, its windows by other names. -/
theorem Spec.wk {P : Program} {f : FuncId} {args : List SV} {h : List SB} {K K' : SV → List SB → Prop} (s : Spec P f args h K)
    (hk : ∀ t h', K t h' → ∃ t3 h3 π, piBase h.length 0 π = true ∧ wkHp π h' π h3 ∧ leV π t t3 ∧ K' t3 h3) : Spec P f args h K' := by
  refine ⟨s.1, fun ρ w vs M hl hr => (s.2 ρ w vs M hl hr).mono ?_⟩
  rintro e w' ⟨y, t, h', ρ', rfl, st, hrel, hK⟩
  obtain ⟨t3, h3, π, k1, k2, k3, k4⟩ := hk t h' hK
  obtain ⟨ρ3, S3, hv⟩ := Step.wk M.n st k1 k2
  exact ⟨y, t3, h3, ρ3, rfl, S3, hv _ _ _ k3 hrel, k4⟩

/-- What is nothing, read alone, is nil or is not. -/
theorem Spec.ro0 {P : Program} {f : FuncId} {cs : List RC} {h : List SB} {K : SV → List SB → Prop} (h1 : Spec P f [.c (.v (.slice none 0 0))] h K) (h2 : ∀ a, Spec P f [.c (.v (.slice (some a) 0 0))] h K) : Spec P f [.c (.ro cs 0 0)] h K := by
  refine ⟨h1.1, fun ρ w vs M hl hr => ?_⟩
  have one : ∀ x : Value, x.oneCell' = true → vs[0]? = some x → Spec P f [.c (.v x)] h K → Calls P f vs w fun e w' => ∃ (y : Value) (s : SV) (h' : List SB) (ρ' : Rho), e = .returned y ∧ Step h ρ w h' ρ' w' ∧ s.rel ρ' y ∧ K s h' := by
    intro x hx hv s
    refine s.2 ρ w vs M hl fun j t y hj hy => ?_
    cases j with
    | zero =>
      simp only [List.getElem?_cons_zero, Option.some.injEq] at hj
      subst hj
      rw [hv] at hy
      cases hy
      exact ⟨rfl, hx⟩
    | succ j => simp at hj
  have hs : vs.size = 1 := hl.symm
  have hv : vs[0]? = some vs[0] := by simp [hs]
  have r := hr 0 _ vs[0] rfl hv
  simp only [SV.rel, SC.rel, RC.rel] at r
  rcases r with ⟨_, _, p, hy⟩ | ⟨_, b, o, hy, _⟩
  · cases p with
    | none => exact one _ rfl (hv.trans (congrArg some hy)) h1
    | some a => exact one _ rfl (hv.trans (congrArg some hy)) (h2 a)
  · exact one _ rfl (hv.trans (congrArg some hy)) (h2 _)

/-! ### Loops -/
/-- A loop by what holds at every round's head: 'I m', where 'm' goes down; 'R': less may be known. -/
theorem loop_gen (hc : CxOk cx) (R : St → St → Prop) (hR : ∀ (e : Env) (σ τ : St) (a : Act) (w : World), R σ τ → Sat e σ a w → Sat e τ a w) {c : Code} {k : List KI} {σ : St} {Q : XE → St → Prop} (n : Nat) (I : Nat → St → Prop) (m : Nat) (σ0 : St) (h0 : I m σ0) (hw : R σ σ0)
    (round : ∀ m σ', I m σ' → X cx n (.code c :: .lp (fun σ'' => ∃ m', m' < m ∧ ∃ σ3, I m' σ3 ∧ R σ'' σ3) :: k) σ' Q) : LoopGoal cx.P c k σ Q := by
  intro e a w hcd hk S
  have S0 := hR _ _ _ _ _ hw S
  refine wp_loop (I := fun a w => ∃ m σ, I m σ ∧ Sat e σ a w) (μ := fun a w => Classical.epsilon fun m => (∃ σ, I m σ ∧ Sat e σ a w) ∧ ∀ m', (∃ σ, I m' σ ∧ Sat e σ a w) → m ≤ m') ⟨m, σ0, h0, S0⟩ ?_
  intro a w hI
  -- the least number
  have least : ∀ a w, (∃ m σ, I m σ ∧ Sat e σ a w) → ∃ m, (∃ σ, I m σ ∧ Sat e σ a w) ∧ ∀ m', (∃ σ, I m' σ ∧ Sat e σ a w) → m ≤ m' := by
    intro a w ⟨m, hm⟩
    induction m using Nat.strongRecOn with
    | _ m ih =>
      by_cases hl : ∃ m', m' < m ∧ ∃ σ, I m' σ ∧ Sat e σ a w
      · obtain ⟨m', h1, h2⟩ := hl
        exact ih m' h1 h2
      · exact ⟨m, hm, fun m' hm' => Nat.le_of_not_lt fun h => hl ⟨m', h, hm'⟩⟩
  have hmu := Classical.epsilon_spec (least a w hI)
  obtain ⟨⟨σ1, h1, S1⟩, h2⟩ := hmu
  generalize (Classical.epsilon fun m => (∃ σ, I m σ ∧ Sat e σ a w) ∧ ∀ m', (∃ σ, I m' σ ∧ Sat e σ a w) → m ≤ m') = M at *
  have := X_ok hc n _ _ _ (round M σ1 h1) e a w (fun i hi => by
    cases hi with
    | head => exact hcd
    | tail _ hi => cases hi with
      | head => trivial
      | tail _ hi => exact hk i hi) S1
  refine wp_mono (Q := contQ cx.P e (.lp (fun σ'' => ∃ m', m' < M ∧ ∃ σ3, I m' σ3 ∧ R σ'' σ3) :: k) (hatQ e Q)) this ?_
  intro ex a' w' hq
  cases ex with
  | normal =>
    obtain ⟨σ2, S2, m', hlt, σ3, hI3, hw3⟩ := hq
    have S3 := hR _ _ _ _ _ hw3 S2
    refine ⟨⟨m', σ3, hI3, S3⟩, ?_⟩
    have h4 := (Classical.epsilon_spec (least a' w' ⟨m', σ3, hI3, S3⟩)).2 m' ⟨σ3, hI3, S3⟩
    exact Nat.lt_of_le_of_lt h4 hlt
  | exit id => exact hq
  | goto l => exact hq
  | ret => exact hq
  | panic ch => exact hq
  | outgrown => exact hq

/-- A loop by what holds at every round's head: 'I m', where 'm' goes down. -/
theorem loop_of (hc : CxOk cx) {c : Code} {k : List KI} {σ : St} {Q : XE → St → Prop} (n : Nat) (I : Nat → St → Prop) (m : Nat) (σ0 : St) (h0 : I m σ0) (π : List (Option Nat)) (hw : Wk π σ σ0)
    (round : ∀ m σ', I m σ' → X cx n (.code c :: .lp (fun σ'' => ∃ m', m' < m ∧ ∃ σ3, I m' σ3 ∧ ∃ π, Wk π σ'' σ3) :: k) σ' Q) : LoopGoal cx.P c k σ Q :=
  loop_gen hc (fun σ τ => ∃ π, Wk π σ τ) (fun _ _ _ _ _ ⟨_, h⟩ S => S.wk h) n I m σ0 h0 ⟨π, hw⟩ round

/-- Fewer temporaries. -/
def subTm (tm : List (Nat × SV)) : List (Nat × SV) → Prop
  | [] => True
  | (t, s) :: r => look t tm = some s ∧ subTm tm r

theorem subTm_get {tm : List (Nat × SV)} : ∀ {l : List (Nat × SV)}, subTm tm l → ∀ t s, look t l = some s → look t tm = some s
  | [], _, t, s, h => by simp [look] at h
  | (u, x) :: r, h, t, s, hl => by
    simp only [subTm] at h
    simp only [look] at hl
    cases ht : t == u
    · rw [ht] at hl; exact subTm_get h.2 t s hl
    · rw [ht] at hl
      simp only [cond_true, Option.some.injEq] at hl
      have : t = u := by simpa using ht
      subst this
      subst hl
      exact h.1

def Sub (σ τ : St) : Prop := σ.nm = τ.nm ∧ σ.hp = τ.hp ∧ subTm σ.tm τ.tm

theorem Sat.sub {e : Env} {σ τ : St} {a : Act} {w : World} (S : Sat e σ a w) (h : Sub σ τ) : Sat e τ a w := by
  obtain ⟨ρ, S⟩ := S
  obtain ⟨h1, h2, h3⟩ := h
  exact ⟨ρ, ⟨by rw [← h1]; exact S.base, S.defers, S.size, by rw [← h2]; exact S.step, fun t s hs => S.tm t s (subTm_get h3 t s hs)⟩⟩

/-- A loop, the windows as they are. -/
theorem loop_at (hc : CxOk cx) {c : Code} {k : List KI} {σ : St} {Q : XE → St → Prop} (n : Nat) (I : Nat → St → Prop) (m : Nat) (σ0 : St) (h0 : I m σ0) (hw : Sub σ σ0)
    (round : ∀ m σ', I m σ' → X cx n (.code c :: .lp (fun σ'' => ∃ m', m' < m ∧ ∃ σ3, I m' σ3 ∧ Sub σ'' σ3) :: k) σ' Q) : LoopGoal cx.P c k σ Q :=
  loop_gen hc Sub (fun _ _ _ _ _ h S => S.sub h) n I m σ0 h0 hw round

/-- Behind a loop less may be known: 'J' stands at its way out. -/
theorem loop_cut (hc : CxOk cx) {c : Code} {id : Nat} {k : List KI} {σ : St} {Q : XE → St → Prop} (n : Nat) (J : St → Prop) (h : LoopGoal cx.P c (.blk id :: .lp J :: k) σ Q) (hk : ∀ σ', J σ' → X cx n k σ' Q) : LoopGoal cx.P c (.blk id :: k) σ Q := by
  intro e a w hcd hok S
  have hk' : ∀ i ∈ k, i.ok e.nt := fun i hi => hok i (.tail _ hi)
  refine wp_mono (h e a w hcd (fun i hi => by
    cases hi with
    | head => trivial
    | tail _ hi => cases hi with
      | head => trivial
      | tail _ hi => exact hk' i hi) S) ?_
  have key : ∀ a w, (∃ σ, Sat e σ a w ∧ J σ) → contQ cx.P e k (hatQ e Q) .normal a w := fun a w ⟨σ', S', hJ⟩ => X_ok hc n _ _ _ (hk σ' hJ) e a w hk' S'
  intro ex a' w' hq
  cases ex with
  | exit j =>
    simp only [contQ, Exit.inBlock, Exit.then] at hq ⊢
    by_cases hj : j = id
    · rw [if_pos hj] at hq ⊢; exact key _ _ hq
    · rw [if_neg hj] at hq ⊢; exact hq
  | normal => exact key _ _ hq
  | ret => exact hq
  | goto l => exact hq
  | panic c => exact hq
  | outgrown => exact hq

/-- Less may be known at a loop's head, once. -/
theorem loop_wk {cx : Cx} {c : Code} {k : List KI} {σ σ0 : St} {Q : XE → St → Prop} (π : List (Option Nat)) (hw : Wk π σ σ0) (h : LoopGoal cx.P c k σ0 Q) : LoopGoal cx.P c k σ Q :=
  fun e a w hcd hk S => h e a w hcd hk (S.wk hw)

/-- A loop, round by round: at most 'm' rounds. -/
theorem loop_rounds (hc : CxOk cx) {c : Code} {k : List KI} {σ : St} {Q : XE → St → Prop} (n m : Nat) (h : X cx n (.rnd m c :: k) σ Q) : LoopGoal cx.P c k σ Q := by
  intro e a w hcd hk S
  have := X_ok hc n _ _ _ h e a w (fun i hi => by
    cases hi with
    | head => exact hcd
    | tail _ hi => exact hk i hi) S
  exact wp_loop_rounds m this

end Go.Proofs.Ythbojoiogjdbeaa.Sx
