/- A symbolic executor for the model's code: statements whose order is open. No condition. -/
import Derived.Test.YthbojoiogjdbeaaSxKit
import Derived.OrdersHeld
namespace Go.Proofs.Ythbojoiogjdbeaa.Sx
open Go
set_option linter.unusedSectionVars false
set_option linter.unusedVariables false

/-- No way out but the plain one. -/
def only (N : Act → World → Prop) : Exit → Act → World → Prop
  | .normal, a, w => N a w
  | _, _, _ => False

/-! ### Some windows kept -/
def maskL (L : List Nat) : Nat → List SB → List SB
  | _, [] => []
  | k, b :: r => (bif L.contains k then ⟨false, b.ty, b.cells⟩ else b) :: maskL L (k + 1) r

def unL (L : List Nat) : Nat → List SB → List SB → List SB
  | _, _, [] => []
  | _, [], h => h
  | k, b0 :: r0, b :: r => (bif L.contains k then b0 else b) :: unL L (k + 1) r0 r

theorem maskL_get {L : List Nat} : ∀ {h : List SB} {k i : Nat}, (maskL L k h)[i]? = (h[i]?).map fun b => bif L.contains (k + i) then ⟨false, b.ty, b.cells⟩ else b
  | [], k, i => by simp [maskL]
  | b :: r, k, 0 => by simp [maskL]
  | b :: r, k, i + 1 => by
    simp only [maskL, List.getElem?_cons_succ, maskL_get (h := r)]
    rw [show k + 1 + i = k + (i + 1) from by omega]

theorem unL_get {L : List Nat} : ∀ {h0 h : List SB} {k i : Nat}, (unL L k h0 h)[i]? = (h[i]?).map fun b => match h0[i]? with
    | some b0 => bif L.contains (k + i) then b0 else b
    | none => b
  | h0, [], k, i => by cases h0 <;> simp [unL]
  | [], b :: r, k, i => by simp [unL]
  | b0 :: r0, b :: r, k, 0 => by simp [unL]
  | b0 :: r0, b :: r, k, i + 1 => by
    simp only [unL, List.getElem?_cons_succ, unL_get (h0 := r0) (h := r)]
    rw [show k + 1 + i = k + (i + 1) from by omega]

theorem maskL_some {L : List Nat} {h : List SB} {i : Nat} {b : SB} (hb : (maskL L 0 h)[i]? = some b) : ∃ b0, h[i]? = some b0 ∧ b.cells = b0.cells ∧ (b.own = true → b = b0 ∧ L.contains i = false) := by
  rw [maskL_get] at hb
  cases hq : h[i]? with
  | none => rw [hq] at hb; cases hb
  | some b0 =>
    rw [hq] at hb
    simp only [Option.map_some, Option.some.injEq, Nat.zero_add] at hb
    refine ⟨b0, rfl, ?_⟩
    cases hc : L.contains i
    · rw [hc] at hb; simp only [cond_false] at hb; subst hb; exact ⟨rfl, fun _ => ⟨rfl, rfl⟩⟩
    · rw [hc] at hb; simp only [cond_true] at hb; subst hb; exact ⟨rfl, fun h => by cases h⟩

theorem void_of_mask {b b0 : SB} {q : Prop} (h1 : b.cells = b0.cells) (h2 : b.own = true → b = b0 ∧ q) (hv : b.void = false) : b0.void = false := by
  cases ho : b.own with
  | true => obtain ⟨rfl, _⟩ := h2 ho; exact hv
  | false =>
    simp only [SB.void, ho, Bool.not_false, Bool.true_and] at hv
    simp only [SB.void, ← h1, hv, Bool.and_false]

theorem Models.maskL {L : List Nat} {h : List SB} {ρ : Rho} {w : World} (M : Models h ρ w) : Models (Sx.maskL L 0 h) ρ w where
  n := by
    have : ∀ (h : List SB) k, (Sx.maskL L k h).length = h.length := by
      intro h
      induction h with
      | nil => intro k; rfl
      | cons b r ih => intro k; simp [Sx.maskL, ih]
    rw [this]; exact M.n
  own i b hb ho := by
    obtain ⟨b0, h1, h2, h3⟩ := maskL_some hb
    obtain ⟨rfl, _⟩ := h3 ho
    exact M.own i _ h1 ho
  ro i b hb j c hc := by
    obtain ⟨b0, h1, h2, h3⟩ := maskL_some hb
    rw [h2] at hc
    exact M.ro i b0 h1 j c hc
  sep i j bi bj hn hi hj ho hv := by
    obtain ⟨b0, h1, h2, h3⟩ := maskL_some hi
    obtain ⟨c0, k1, k2, k3⟩ := maskL_some hj
    obtain ⟨rfl, _⟩ := h3 ho
    exact M.sep i j _ c0 hn h1 k1 ho (void_of_mask k2 k3 hv)
  lt i b hb hv := by obtain ⟨b0, h1, h2, h3⟩ := maskL_some hb; exact M.lt i b0 h1 (void_of_mask h2 h3 hv)
  zone := M.zone
  zsep k i b hk hb ho := by
    obtain ⟨b0, h1, h2, h3⟩ := maskL_some hb
    obtain ⟨rfl, _⟩ := h3 ho
    exact M.zsep k i _ hk h1 ho

theorem kept {L : List Nat} {h : List SB} {ρ : Rho} {w : World} (M : Models h ρ w) {w' : World} (E : Ext (ownB (maskL L 0 h) ρ) w w') {i : Nat} (hi : L.contains i = true) {x : SB} (hb : h[i]? = some x) (hv : x.void = false) :
    w'.heap[(ρ.f i).1]? = w.heap[(ρ.f i).1]? := by
  refine E.block _ (M.lt i _ hb hv) ?_
  rintro ⟨j, b, h1, h2, h3⟩
  obtain ⟨b0, k1, _, k3⟩ := maskL_some h1
  obtain ⟨rfl, k4⟩ := k3 h2
  by_cases hji : j = i
  · subst hji; rw [hi] at k4; cases k4
  · exact M.sep j i b _ hji k1 hb h2 hv h3

theorem Step.unL {L : List Nat} {h h' : List SB} {ρ ρ' : Rho} {w w' : World} (M : Models h ρ w) (s : Step (maskL L 0 h) ρ w h' ρ' w') : Step h ρ w (unL L 0 h h') ρ' w' := by
  have hn : h.length ≤ h'.length := by rw [← M.n, ← s.models.n]; exact s.le.1
  have cas : ∀ {i : Nat} {b : SB}, (Sx.unL L 0 h h')[i]? = some b → (i < h.length ∧ L.contains i = true ∧ h[i]? = some b ∧ ρ'.f i = ρ.f i) ∨ ((i < h.length → L.contains i = false) ∧ h'[i]? = some b) := by
    intro i b hb
    rw [unL_get] at hb
    cases hq : h'[i]? with
    | none => rw [hq] at hb; cases hb
    | some b' =>
      rw [hq] at hb
      simp only [Option.map_some, Option.some.injEq, Nat.zero_add] at hb
      cases hq0 : h[i]? with
      | none =>
        rw [hq0] at hb
        simp only at hb
        have : h.length ≤ i := List.getElem?_eq_none_iff.1 hq0
        exact .inr ⟨fun h => by omega, by rw [hb]⟩
      | some b0 =>
        rw [hq0] at hb
        simp only at hb
        have hl : i < h.length := (List.getElem?_eq_some_iff.1 hq0).1
        cases hc : L.contains i
        · rw [hc] at hb; exact .inr ⟨fun _ => rfl, by simpa using hb⟩
        · rw [hc] at hb; exact .inl ⟨hl, rfl, by simpa using hb, s.le.2 i (by rw [M.n]; exact hl)⟩
  have old : ∀ {i : Nat} {b : SB}, i < h.length → h'[i]? = some b → b.own = true → ∃ b0, h[i]? = some b0 ∧ b0.own = true := by
    intro i b hi hb ho
    obtain ⟨b0, h1, h2⟩ := s.flags i b (by rw [M.n]; exact hi) hb ho
    obtain ⟨c0, k1, _, k3⟩ := maskL_some h1
    obtain ⟨rfl, _⟩ := k3 h2
    exact ⟨b0, k1, h2⟩
  have rf : ∀ {i : Nat}, i < h.length → ρ'.f i = ρ.f i := fun hi => s.le.2 _ (by rw [M.n]; exact hi)
  have fr : ∀ {i : Nat} {b : SB}, h.length ≤ i → h'[i]? = some b → w.heap.size ≤ (ρ'.f i).1 := fun hi hb => s.fresh _ (by rw [M.n]; exact hi) (s.models.some_lt hb)
  refine ⟨s.le, ⟨?_, ?_, ?_, ?_, ?_, s.models.zone, ?_⟩, s.fresh, s.ext.mono ?_, ?_, ?_⟩
  · rw [s.models.n]
    have : ∀ (h0 h : List SB) k, (Sx.unL L k h0 h).length = h.length := by
      intro h0 h
      induction h generalizing h0 with
      | nil => intro k; cases h0 <;> rfl
      | cons b r ih => intro k; cases h0 <;> simp [Sx.unL, ih]
    exact (this _ _ _).symm
  · intro i b hb ho
    rcases cas hb with ⟨h1, h2, h3, h4⟩ | ⟨h1, h2⟩
    · rw [h4]
      obtain ⟨g1, cs, g2, g3⟩ := M.own i b h3 ho
      exact ⟨g1, cs, g2.of (kept M s.ext h2 h3 (void_of_own ho)), g3.le s.le⟩
    · exact s.models.own i b h2 ho
  · intro i b hb j c hc
    rcases cas hb with ⟨h1, h2, h3, h4⟩ | ⟨h1, h2⟩
    · obtain ⟨y, g1, g2⟩ := M.ro i b h3 j c hc
      refine ⟨y, ?_, SC.rel_le s.le g2⟩
      simp only [Rho.at, h4]
      rw [← g1]
      exact World.cell?_of_block (kept M s.ext h2 h3 (void_of_cell hc))
    · exact s.models.ro i b h2 j c hc
  · intro i j bi bj hne hi hj ho hv
    rcases cas hi with ⟨h1, h2, h3, h4⟩ | ⟨h1, h2⟩ <;> rcases cas hj with ⟨k1, k2, k3, k4⟩ | ⟨k1, k2⟩
    · rw [h4, k4]; exact M.sep i j bi bj hne h3 k3 ho hv
    · rw [h4]
      by_cases hjl : j < h.length
      · rw [rf hjl]
        obtain ⟨b0, hb0, hv0⟩ := s.nonv j bj (by rw [M.n]; exact hjl) k2 hv
        obtain ⟨c0, q1, q2, q3⟩ := maskL_some hb0
        exact M.sep i j bi c0 hne h3 q1 ho (void_of_mask q2 q3 hv0)
      · exact Nat.ne_of_lt (Nat.lt_of_lt_of_le (M.lt i bi h3 (void_of_own ho)) (fr (by omega) k2))
    · rw [k4]
      by_cases hil : i < h.length
      · rw [rf hil]
        obtain ⟨b0, q1, q2⟩ := old hil h2 ho
        exact M.sep i j b0 bj hne q1 k3 q2 hv
      · exact (Nat.ne_of_lt (Nat.lt_of_lt_of_le (M.lt j bj k3 hv) (fr (by omega) h2))).symm
    · exact s.models.sep i j bi bj hne h2 k2 ho hv
  · intro i b hb hv
    rcases cas hb with ⟨h1, h2, h3, h4⟩ | ⟨h1, h2⟩
    · rw [h4]; exact Nat.lt_of_lt_of_le (M.lt i b h3 hv) s.ext.size
    · exact s.models.lt i b h2 hv
  · intro k i b hk hb ho
    rcases cas hb with ⟨h1, h2, h3, h4⟩ | ⟨h1, h2⟩
    · rw [h4]; exact M.zsep k i b (by rw [← s.le.4]; exact hk) h3 ho
    · exact s.models.zsep k i b hk h2 ho
  · rintro k _ ⟨i, b, h1, h2, h3⟩
    obtain ⟨b0, k1, _, k3⟩ := maskL_some h1
    obtain ⟨rfl, _⟩ := k3 h2
    exact ⟨i, b, k1, h2, h3⟩
  · intro i b hi hb ho
    rw [M.n] at hi
    rcases cas hb with ⟨h1, h2, h3, h4⟩ | ⟨h1, h2⟩
    · exact ⟨b, h3, ho⟩
    · exact old hi h2 ho
  · intro i b hi hb hv
    rw [M.n] at hi
    rcases cas hb with ⟨h1, h2, h3, h4⟩ | ⟨h1, h2⟩
    · exact ⟨b, h3, hv⟩
    · obtain ⟨b0, q1, q2⟩ := s.nonv i b (by rw [M.n]; exact hi) h2 hv
      obtain ⟨c0, g1, g2, g3⟩ := maskL_some q1
      exact ⟨c0, g1, void_of_mask g2 g3 q2⟩

/-! ### A plan of an order -/
def isValR : OR → Bool
  | .val _ _ => true
  | _ => false

def rdOk (L : List Nat) (g : Bool) (tm : List (Nat × SV)) : Op → Bool
  | .load _ x => match ev g tm x with
    | some (_, .c (.ptr i _)) => L.contains i
    | some (_, .c (.rp _)) => true
    | _ => false
  | .convert _ _ x => match ev g tm x with
    | some (_, .c (.sl i _ n _)) => L.contains i || n == 0
    | some (_, .c (.v (.int _ _))) => true
    | some (_, .c (.v (.slice none _ _))) => true
    | some (_, .c (.ro _ _ _)) => true
    | _ => false
  | _ => true

def PXg (cx : Cx) (L : List Nat) (take : Bool) (o : Oper) (g : Bool) (xn : XN) (σ : St) : OR → Prop
  | .val p s => (take = true → rdOk L g σ.tm o.op = true) ∧ bif isC s then (g = true → p) ∧ xn [] ⟨σ.nm, put o.dst (undV g s) σ.tm, σ.hp⟩ noP
      else (g = true → p ∧ xn [] ⟨σ.nm, put o.dst s σ.tm, σ.hp⟩ noP) ∧ (g = false → xn [] ⟨σ.nm, put o.dst skipV σ.tm, σ.hp⟩ noP)
  | .bad => g = false ∧ xn [] ⟨σ.nm, put o.dst skipV σ.tm, σ.hp⟩ noP
  | _ => take = false ∧ (g = true → stepR cx.P xn false o [] σ noP (opG cx true σ o.op)) ∧ (g = false → xn [] ⟨σ.nm, put o.dst skipV σ.tm, σ.hp⟩ noP)

def PXo (cx : Cx) (L : List Nat) (take : Bool) (all : List Oper) (o : Oper) (xn : XN) (σ : St) : Prop :=
  match o.guard with
  | none => (take = true → isValR (opG cx true σ o.op) = true ∧ rdOk L true σ.tm o.op = true) ∧ stepR cx.P xn false o [] σ noP (opG cx true σ o.op)
  | some _ => match guardVal σ.tm (guardSlot all o) with
    | none => False
    | some g => PXg cx L take o g xn σ (opG cx g σ o.op)

def PX (cx : Cx) (L : List Nat) (all : List Oper) : List (Nat × Bool) → St → (St → Prop) → Prop
  | [], σ, Q => Q σ
  | (i, take) :: pl, σ, Q => match all[i]? with
    | none => False
    | some o => PXo cx L take all o (fun _ σ' _ => PX cx L all pl σ' Q) σ

def PXn (cx : Cx) (L : List Nat) (all : List Oper) (pl : List (Nat × Bool)) (Q : St → Prop) : XN := fun _ σ' _ => PX cx L all pl σ' Q

/-- What follows a region whose order is open. -/
def DK (cx : Cx) (n : Nat) (k : List KI) (L : List Nat) (nm : NB) (hp : List SB) (Q : XE → St → Prop) (σ : St) : Prop := X cx n k ⟨nm, σ.tm, unL L 0 hp σ.hp⟩ Q

def planOk (ops : Array Oper) : List (Nat × Bool) → Array Bool → Bool
  | [], listed => (Region.ready .any ops listed).isEmpty
  | (i, true) :: pl, listed => (Region.ready .any ops listed).contains i && Region.free .any ops listed i && planOk ops pl (listed.setIfInBounds i true)
  | (i, false) :: pl, listed => (Region.ready .any ops listed == [i]) && planOk ops pl (listed.setIfInBounds i true)

structure Keep (e : Env) (L : List Nat) (w' : World) : Prop where
  k : ∀ i, L.contains i = true → w'.heap[(e.ρ.f i).1]? = e.w.heap[(e.ρ.f i).1]?
  z : ∀ k, e.ρ.zone k → w'.heap[k]? = e.ρ.w0.heap[k]?

section
variable {cx : Cx} {e : Env} {L : List Nat}

theorem opG_load {g : Bool} {σ : St} {t : TypeId} {x : Operand} {p : Prop} {s : SV} (h : opG cx g σ (.load t x) = .val p s) (hp : p) : ∃ q s', ev g σ.tm x = some (q, s') ∧ q := by
  have h : opE cx g σ.hp (.load t x) (evs g σ.tm [x]) = .val p s := h
  simp only [evs] at h
  cases hx : ev g σ.tm x with
  | none => rw [hx] at h; simp [opE] at h
  | some r =>
    obtain ⟨q, s'⟩ := r
    rw [hx] at h
    simp only [opE] at h
    refine ⟨q, s', rfl, ?_⟩
    cases hr : opR cx.T cx.flat σ.hp (.load t x) [s'] <;> rw [hr] at h <;> simp only [andR] at h <;> first | (cases h; exact hp.1.1) | cases h

theorem opG_convert {g : Bool} {σ : St} {t u : TypeId} {x : Operand} {p : Prop} {s : SV} (h : opG cx g σ (.convert t u x) = .val p s) (hp : p) : ∃ q s', ev g σ.tm x = some (q, s') ∧ q := by
  have h : opE cx g σ.hp (.convert t u x) (evs g σ.tm [x]) = .val p s := h
  simp only [evs] at h
  cases hx : ev g σ.tm x with
  | none => rw [hx] at h; simp [opE] at h
  | some r =>
    obtain ⟨q, s'⟩ := r
    rw [hx] at h
    simp only [opE] at h
    refine ⟨q, s', rfl, ?_⟩
    cases hr : opR cx.T cx.flat σ.hp (.convert t u x) [s'] <;> rw [hr] at h <;> simp only [andR] at h <;> first | (cases h; exact hp.1.1) | cases h

theorem same_of (hL : ∀ i, L.contains i = true → i < e.ρ.n) {σ : St} {ρ : Rho} {a : Act} {w w' : World} (S : SatR e σ ρ a w) {g : Bool} (hg : g = true) {op : Op} {p : Prop} {s : SV} (hr : opG cx g σ op = .val p s) (hp : p)
    (hrd : rdOk L g σ.tm op = true) (hw : Keep e L w) (hw' : Keep e L w') : Same a.eval w w' op := by
  have bl : ∀ i k, L.contains i = true → w'.heap[(ρ.at i k).block]? = w.heap[(ρ.at i k).block]? := fun i k hi => by
    show w'.heap[(ρ.f i).1]? = w.heap[(ρ.f i).1]?
    rw [S.step.le.2 i (hL i hi), hw.k i hi, hw'.k i hi]
  unfold Same
  split
  · rename_i t x
    obtain ⟨q, s', h1, h2⟩ := opG_load hr hp
    have h3 := ev_ok S hg h1 h2
    simp only [rdOk, h1] at hrd
    split at hrd
    · rename_i i o heq
      cases heq
      obtain ⟨_, h4⟩ := h3
      rw [h4]
      exact bl _ _ hrd
    · rename_i cs heq
      cases heq
      obtain ⟨b, o, h4, h5, _⟩ := h3
      rw [h4]
      rw [S.step.le.4] at h5
      exact (hw'.z b h5).trans (hw.z b h5).symm
    · cases hrd
  · rename_i t u x
    obtain ⟨q, s', h1, h2⟩ := opG_convert hr hp
    have h3 := ev_ok S hg h1 h2
    simp only [rdOk, h1] at hrd
    split at hrd
    · rename_i i o n c heq
      cases heq
      rcases h3 with ⟨_, _, p, h4⟩ | ⟨_, _, h4⟩
      · rw [h4]
        cases p with
        | none => trivial
        | some a => exact fun h => absurd h (Nat.lt_irrefl 0)
      · rw [h4]
        intro h0
        refine bl _ _ ?_
        rw [Bool.or_eq_true] at hrd
        rcases hrd with hrd | hrd
        · exact hrd
        · rw [beq_iff_eq] at hrd
          subst hrd
          exact absurd h0 (Nat.lt_irrefl 0)
    · rename_i heq; cases heq
      rw [h3.1]; trivial
    · rename_i heq; cases heq
      rw [h3.1]; trivial
    · rename_i cs n c heq
      cases heq
      simp only [SV.rel, SC.rel, RC.rel] at h3
      rcases h3 with ⟨_, _, p, h4⟩ | ⟨_, b, o, h4, h5, _⟩
      · rw [h4]
        cases p with
        | none => trivial
        | some a => exact fun h => absurd h (Nat.lt_irrefl 0)
      · rw [h4]
        rw [S.step.le.4] at h5
        exact fun _ => (hw'.z b h5).trans (hw.z b h5).symm
    · cases hrd
  · trivial

/-- One operation of a plan. -/
theorem px_step (hc : CxOk cx) {ops : Array Oper} (hL : ∀ i, L.contains i = true → i < e.ρ.n) (hd : ∀ o ∈ ops.toList, dstOk e.nt o = true)
    (hkeep : ∀ σ a w, Sat e σ a w → Keep e L w) {Q : St → Prop} {G : Prop} {i : Nat} {take : Bool} {pl : List (Nat × Bool)} {σ : St} {a : Act} {w : World} (S : Sat e σ a w) {F : Exit → Act → World → Prop}
    (goTake : take = true → ∀ o y, ops[i]? = some o → YieldsIf cx.P ops (Keep e L) o y a → (∃ σ', Sat e σ' (a.put o.dst y) w ∧ PX cx L ops.toList pl σ' Q) → G)
    (goOnly : take = false → wpOp cx.P ops F i (fun a' w' => ∃ σ', Sat e σ' a' w' ∧ PX cx L ops.toList pl σ' Q) a w → G)
    (h : PX cx L ops.toList ((i, take) :: pl) σ Q) : G := by
  simp only [PX] at h
  split at h
  · exact h.elim
  rename_i o ho
  have hoi : ops[i]? = some o := by simpa using ho
  have od : dstOk e.nt o = true := hd o (List.mem_of_getElem? ho)
  unfold PXo at h
  have hdl := dst_lt od
  split at h
  · -- without a guard
    rename_i hg
    obtain ⟨h1, h2⟩ := h
    have hwant : Region.wanted o (yielded ops a.tmps) = true := by simp [Region.wanted, hg]
    cases take
    · refine goOnly rfl ?_
      unfold wpOp
      simp only [hoi, hwant, if_true]
      refine .inl ?_
      exact Oper.wp_mono (fun a' w' h => h.2) (stepR_to (xn := fun _ σ' _ => PX cx L ops.toList pl σ' Q) hc (fun _ _ _ _ h => h.elim) od h2 S)
    · obtain ⟨h3, h4⟩ := h1 rfl
      cases hr : opG cx true σ o.op with
      | val p s =>
        rw [hr] at h2
        obtain ⟨hp0, h2⟩ := h2
        obtain ⟨ρ, S⟩ := S
        have key := opG_ok hc S rfl o
        rw [hr] at key
        obtain ⟨y, k1, k2⟩ := key hp0
        refine goTake rfl o y hoi (.inl ⟨hwant, fun w' hw' => k1 w' (same_of hL S rfl hr hp0 h4 (hkeep _ _ _ ⟨ρ, S⟩) hw')⟩) ⟨_, ⟨ρ, S.put hdl (Step.refl S.step.models) k2⟩, h2⟩
      | bad => rw [hr] at h3; cases h3
      | mem _ _ _ => rw [hr] at h3; cases h3
      | app _ _ _ _ _ => rw [hr] at h3; cases h3
      | conv _ _ _ => rw [hr] at h3; cases h3
      | call _ _ _ => rw [hr] at h3; cases h3
  · rename_i gd hg
    split at h
    · exact h.elim
    rename_i g hgv
    obtain ⟨ρ, S⟩ := S
    have hwant := guard_ok S (by rw [hg]; simp) hgv
    have hwant : Region.wanted o (yielded ops a.tmps) = g := by simpa using hwant
    have rest : ∀ {R : OR}, R = opG cx g σ o.op → (take = false ∧ (g = true → stepR cx.P (fun _ σ' _ => PX cx L ops.toList pl σ' Q) false o [] σ noP (opG cx true σ o.op)) ∧ (g = false → PX cx L ops.toList pl ⟨σ.nm, put o.dst skipV σ.tm, σ.hp⟩ Q)) →
        G := by
      rintro R _ ⟨q1, q2, q3⟩
      refine goOnly q1 ?_
      unfold wpOp
      simp only [hoi, hwant]
      cases g
      · simp only [Bool.false_eq_true, if_false]
        exact ⟨_, ⟨ρ, S.put hdl (Step.refl S.step.models) skip_rel⟩, q3 rfl⟩
      · simp only [if_true]
        refine .inl ?_
        exact Oper.wp_mono (fun a' w' h => h.2) (stepR_to (xn := fun _ σ' _ => PX cx L ops.toList pl σ' Q) hc (fun _ _ _ _ h => h.elim) od (q2 rfl) ⟨ρ, S⟩)
    have skip : g = false → PX cx L ops.toList pl ⟨σ.nm, put o.dst skipV σ.tm, σ.hp⟩ Q → G := by
      rintro rfl h4
      have S' : Sat e ⟨σ.nm, put o.dst skipV σ.tm, σ.hp⟩ (a.put o.dst undef) w := ⟨ρ, S.put hdl (Step.refl S.step.models) skip_rel⟩
      cases take
      · refine goOnly rfl ?_
        unfold wpOp
        simp only [hoi, hwant, Bool.false_eq_true, if_false]
        exact ⟨_, S', h4⟩
      · exact goTake rfl o undef hoi (.inr ⟨hwant, rfl⟩) ⟨_, S', h4⟩
    cases hr : opG cx g σ o.op with
    | bad => rw [hr] at h; exact skip h.1 h.2
    | val p s =>
      rw [hr] at h
      simp only [PXg] at h
      obtain ⟨h1, h⟩ := h
      have val : g = true → p → ∀ s', (∀ y, s.rel ρ y → s'.rel ρ y) → PX cx L ops.toList pl ⟨σ.nm, put o.dst s' σ.tm, σ.hp⟩ Q → G := by
        rintro rfl hp0 s' hs' h4
        have key := opG_ok hc S rfl o
        rw [hr] at key
        obtain ⟨y, k1, k2⟩ := key hp0
        have S' : Sat e ⟨σ.nm, put o.dst s' σ.tm, σ.hp⟩ (a.put o.dst y) w := ⟨ρ, S.put hdl (Step.refl S.step.models) (hs' y k2)⟩
        cases take
        · refine goOnly rfl ?_
          unfold wpOp
          simp only [hoi, hwant, if_true]
          refine .inl ?_
          unfold Oper.wp
          rw [k1 w Same.refl]
          exact ⟨_, S', h4⟩
        · exact goTake rfl o y hoi (.inl ⟨hwant, fun w' hw' => k1 w' (same_of hL S rfl hr hp0 (h1 rfl) (hkeep _ _ _ ⟨ρ, S⟩) hw')⟩) ⟨_, S', h4⟩
      cases hic : isC s
      · rw [hic] at h
        obtain ⟨q1, q2⟩ := h
        cases g
        · exact skip rfl (q2 rfl)
        · exact val rfl (q1 rfl).1 s (fun _ h => h) (q1 rfl).2
      · rw [hic] at h
        obtain ⟨q1, q2⟩ := h
        cases g
        · have S' : Sat e ⟨σ.nm, put o.dst (undV false s) σ.tm, σ.hp⟩ (a.put o.dst undef) w := ⟨ρ, S.put hdl (Step.refl S.step.models) (undV_rel hic (fun h => by cases h) (fun _ => rfl))⟩
          cases take
          · refine goOnly rfl ?_
            unfold wpOp
            simp only [hoi, hwant, Bool.false_eq_true, if_false]
            exact ⟨_, S', q2⟩
          · exact goTake rfl o undef hoi (.inr ⟨hwant, rfl⟩) ⟨_, S', q2⟩
        · exact val rfl (q1 rfl) (undV true s) (fun y hy => undV_rel hic (fun _ => hy) (fun h => by cases h)) q2
    | mem _ _ _ => rw [hr] at h; exact rest rfl h
    | app _ _ _ _ _ => rw [hr] at h; exact rest rfl h
    | conv _ _ _ => rw [hr] at h; exact rest rfl h
    | call _ _ _ => rw [hr] at h; exact rest rfl h


def listedOf : List (Nat × Bool) → Array Bool → Array Bool
  | [], l => l
  | (i, _) :: pl, l => listedOf pl (l.setIfInBounds i true)

/-- A plan's beginning. -/
def planPre (ops : Array Oper) : List (Nat × Bool) → Array Bool → Bool
  | [], _ => true
  | (i, true) :: pl, listed => (Region.ready .any ops listed).contains i && Region.free .any ops listed i && planPre ops pl (listed.setIfInBounds i true)
  | (i, false) :: pl, listed => (Region.ready .any ops listed == [i]) && planPre ops pl (listed.setIfInBounds i true)

theorem px_pre (hc : CxOk cx) {ops : Array Oper} (hsel : Region.noSelect ops = true) (hL : ∀ i, L.contains i = true → i < e.ρ.n) (hd : ∀ o ∈ ops.toList, dstOk e.nt o = true)
    (hkeep : ∀ σ a w, Sat e σ a w → Keep e L w) {Q Q' : St → Prop} {rest : Nat} {end' : Array Bool}
    (hend : ∀ σ a w, Sat e σ a w → Q' σ → ∀ f, rest ≤ f → wpAnyH cx.P .any ops (only fun a w => ∃ σ, Sat e σ a w ∧ Q σ) (Keep e L) f end' a w) :
    ∀ (pl : List (Nat × Bool)) (fuel : Nat) (listed : Array Bool) (σ : St) (a : Act) (w : World), pl.length + rest ≤ fuel → planPre ops pl listed = true → listedOf pl listed = end' → Sat e σ a w →
    PX cx L ops.toList pl σ Q' → wpAnyH cx.P .any ops (only fun a w => ∃ σ, Sat e σ a w ∧ Q σ) (Keep e L) fuel listed a w
  | [], fuel, listed, σ, a, w, hf, _, he, S, h => by
    simp only [listedOf] at he
    subst he
    exact hend σ a w S h fuel (by simpa using hf)
  | (i, take) :: pl, 0, listed, σ, a, w, hf, _, _, _, _ => by simp at hf
  | (i, take) :: pl, fuel + 1, listed, σ, a, w, hf, hp, he, S, h => by
    have ih := fun listed σ a w => px_pre hc hsel hL hd hkeep (Q := Q) (Q' := Q') hend pl fuel listed σ a w (by simp only [List.length_cons] at hf; omega)
    have hp' : planPre ops pl (listed.setIfInBounds i true) = true := by
      cases take <;> simp only [planPre, Bool.and_eq_true] at hp <;> exact hp.2
    refine px_step (F := only fun a w => ∃ σ, Sat e σ a w ∧ Q σ) hc hL hd hkeep S ?_ ?_ h
    · rintro rfl o y hoi hy ⟨σ', S', h'⟩
      simp only [planPre, Bool.and_eq_true] at hp
      exact wpAnyH_take hoi hsel hp.1.2 hp.1.1 (fun c a w h => h.elim) hy (hkeep _ _ _ S) (ih _ _ _ _ hp' he S' h')
    · rintro rfl hw
      simp only [planPre, Bool.and_eq_true, beq_iff_eq] at hp
      refine wpAnyH_all hp.1 (by simp) fun j hj => ?_
      rw [List.mem_singleton] at hj
      subst hj
      exact wpOp_mono (fun a' w' ⟨σ', S', h'⟩ => ⟨hkeep _ _ _ S', ih _ _ _ _ hp' he S' h'⟩) hw

theorem planPre_of : ∀ {ops : Array Oper} {pl : List (Nat × Bool)} {listed : Array Bool}, planOk ops pl listed = true → planPre ops pl listed = true ∧ (Region.ready .any ops (listedOf pl listed)).isEmpty = true
  | ops, [], listed, h => ⟨rfl, h⟩
  | ops, (i, true) :: pl, listed, h => by
    simp only [planOk, Bool.and_eq_true] at h
    have := planPre_of h.2
    exact ⟨by simp only [planPre, Bool.and_eq_true]; exact ⟨h.1, this.1⟩, this.2⟩
  | ops, (i, false) :: pl, listed, h => by
    simp only [planOk, Bool.and_eq_true] at h
    have := planPre_of h.2
    exact ⟨by simp only [planPre, Bool.and_eq_true]; exact ⟨h.1, this.1⟩, this.2⟩

theorem px_ok (hc : CxOk cx) {ops : Array Oper} (hsel : Region.noSelect ops = true) (hL : ∀ i, L.contains i = true → i < e.ρ.n) (hd : ∀ o ∈ ops.toList, dstOk e.nt o = true)
    (hkeep : ∀ σ a w, Sat e σ a w → Keep e L w) {Q : St → Prop} (pl : List (Nat × Bool)) (fuel : Nat) (listed : Array Bool) (σ : St) (a : Act) (w : World) (hf : pl.length ≤ fuel) (hp : planOk ops pl listed = true) (S : Sat e σ a w)
    (h : PX cx L ops.toList pl σ Q) : wpAnyH cx.P .any ops (only fun a w => ∃ σ, Sat e σ a w ∧ Q σ) (Keep e L) fuel listed a w :=
  px_pre hc hsel hL hd hkeep (Q := Q) (Q' := Q) (rest := 0) (fun σ a w S h f _ => wpAnyH_done (by simpa using (planPre_of hp).2) ⟨σ, S, h⟩ f) pl fuel listed σ a w hf (planPre_of hp).1 rfl S h

/-- Plans where two may come up in either order. -/
inductive PT where
  | done (pl : List (Nat × Bool))
  | pair (pl : List (Nat × Bool)) (i j : Nat) (ti tj : PT)

def PT.len : PT → Nat
  | .done pl => pl.length
  | .pair pl _ _ ti tj => pl.length + (1 + max ti.len tj.len)

def treeOk (ops : Array Oper) : PT → Array Bool → Bool
  | .done pl, l => planOk ops pl l
  | .pair pl i j ti tj, l => planPre ops pl l && (Region.ready .any ops (listedOf pl l)).all (fun x => x == i || x == j) && !(Region.ready .any ops (listedOf pl l)).isEmpty &&
      treeOk ops ti ((listedOf pl l).setIfInBounds i true) && treeOk ops tj ((listedOf pl l).setIfInBounds j true)

def PXT (cx : Cx) (L : List Nat) (all : List Oper) : PT → (St → Prop) → St → Prop
  | .done pl, Q, σ => PX cx L all pl σ Q
  | .pair pl i j ti tj, Q, σ => PX cx L all pl σ fun σ => PX cx L all [(i, false)] σ (PXT cx L all ti Q) ∧ PX cx L all [(j, false)] σ (PXT cx L all tj Q)

theorem PXT_done {cx : Cx} {L : List Nat} {all : List Oper} {pl : List (Nat × Bool)} {Q : St → Prop} {σ : St} : PXT cx L all (.done pl) Q σ = PX cx L all pl σ Q := rfl
theorem PXT_pair {cx : Cx} {L : List Nat} {all : List Oper} {pl : List (Nat × Bool)} {i j : Nat} {ti tj : PT} {Q : St → Prop} {σ : St} : PXT cx L all (.pair pl i j ti tj) Q σ =
  PX cx L all pl σ fun σ => PX cx L all [(i, false)] σ (PXT cx L all ti Q) ∧ PX cx L all [(j, false)] σ (PXT cx L all tj Q) := rfl

theorem px_tree (hc : CxOk cx) {ops : Array Oper} (hsel : Region.noSelect ops = true) (hL : ∀ i, L.contains i = true → i < e.ρ.n) (hd : ∀ o ∈ ops.toList, dstOk e.nt o = true)
    (hkeep : ∀ σ a w, Sat e σ a w → Keep e L w) {Q : St → Prop} : ∀ (t : PT) (fuel : Nat) (listed : Array Bool) (σ : St) (a : Act) (w : World), t.len ≤ fuel → treeOk ops t listed = true → Sat e σ a w →
    PXT cx L ops.toList t Q σ → wpAnyH cx.P .any ops (only fun a w => ∃ σ, Sat e σ a w ∧ Q σ) (Keep e L) fuel listed a w
  | .done pl, fuel, listed, σ, a, w, hf, hp, S, h => px_ok hc hsel hL hd hkeep pl fuel listed σ a w hf hp S h
  | .pair pl i j ti tj, fuel, listed, σ, a, w, hf, hp, S, h => by
    have ihi := fun f l σ a w => px_tree hc hsel hL hd hkeep (Q := Q) ti f l σ a w
    have ihj := fun f l σ a w => px_tree hc hsel hL hd hkeep (Q := Q) tj f l σ a w
    simp only [treeOk, Bool.and_eq_true, Bool.not_eq_true'] at hp
    obtain ⟨⟨⟨⟨p1, p2⟩, p3⟩, p4⟩, p5⟩ := hp
    simp only [PT.len] at hf
    refine px_pre hc hsel hL hd hkeep (rest := 1 + max ti.len tj.len) ?_ pl fuel listed σ a w hf p1 rfl S h
    rintro σ a w S ⟨hi, hj⟩ (_ | f) hf
    · omega
    refine wpAnyH_all rfl (fun he => by rw [he] at p3; cases p3) fun x hx => ?_
    have := List.all_eq_true.1 p2 x hx
    simp only [Bool.or_eq_true, beq_iff_eq] at this
    rcases this with rfl | rfl
    · refine px_step (F := only fun a w => ∃ σ, Sat e σ a w ∧ Q σ) hc hL hd hkeep S (fun h => by cases h) (fun _ hw => ?_) hi
      exact wpOp_mono (fun a' w' ⟨σ', S', h'⟩ => ⟨hkeep _ _ _ S', ihi f _ σ' a' w' (by omega) p4 S' h'⟩) hw
    · refine px_step (F := only fun a w => ∃ σ, Sat e σ a w ∧ Q σ) hc hL hd hkeep S (fun h => by cases h) (fun _ hw => ?_) hj
      exact wpOp_mono (fun a' w' ⟨σ', S', h'⟩ => ⟨hkeep _ _ _ S', ihj f _ σ' a' w' (by omega) p5 S' h'⟩) hw

theorem draw_core (hc : CxOk cx) (hm : cx.P.follows .mixedOrders = true) (n : Nat) (L : List Nat) {id : Nat} {ops : Array Oper} {k : List KI} {nm : NB} {tm : List (Nat × SV)} {hp : List SB} {Q : XE → St → Prop}
    (hL : (L.all fun i => match hp[i]? with
      | some b => !b.void
      | none => false) = true)
    (h : ∀ (e : Env) (a : Act) (w : World), (∀ i, L.contains i = true → i < e.ρ.n) → (∀ o ∈ ops.toList, dstOk e.nt o = true) → (∀ σ a w, Sat e σ a w → Keep e L w) → Sat e ⟨⟨nm.nm, hp.length⟩, tm, maskL L 0 hp⟩ a w →
      wpAnyH cx.P .any ops (only fun a w => ∃ σ, Sat e σ a w ∧ DK cx n k L nm hp Q σ) (Keep e L) ops.size (Array.replicate ops.size false) a w) : DrawGoal cx.P id ops k ⟨nm, tm, hp⟩ Q := by
  intro e a w hd hk S
  obtain ⟨ρ, S⟩ := S
  have M := S.step.models
  have Md : Models hp ρ w.drew := M.ext (Ext.drew (fun _ => False) w)
  have hL0 : ∀ i, L.contains i = true → ∃ b, hp[i]? = some b ∧ b.void = false := fun i hi => by
    have := List.all_eq_true.1 hL i (by simpa using hi)
    split at this
    · rename_i b hb; exact ⟨b, hb, by simpa using this⟩
    · cases this
  have hL' : ∀ i, L.contains i = true → i < ρ.n := fun i hi => by
    obtain ⟨b, hb, _⟩ := hL0 i hi
    exact M.some_lt hb
  have hml : (maskL L 0 hp).length = hp.length := by rw [← Md.maskL.n, M.n]
  have S1 : Sat ⟨w.drew, maskL L 0 hp, ρ, e.nt, a.defers, e.pins⟩ ⟨⟨nm.nm, hp.length⟩, tm, maskL L 0 hp⟩ a w.drew := ⟨ρ, ⟨hml, Md.maskL.n⟩, ⟨⟨[], rfl, List.nodup_nil, fun D hD => by simp at hD⟩, S.defers.2⟩, S.size, Step.refl Md.maskL, S.tm⟩
  have hkeep : ∀ σ a' w', Sat ⟨w.drew, maskL L 0 hp, ρ, e.nt, a.defers, e.pins⟩ σ a' w' → Keep ⟨w.drew, maskL L 0 hp, ρ, e.nt, a.defers, e.pins⟩ L w' := fun σ a' w' ⟨ρ', S'⟩ => ⟨fun i hi => by
    obtain ⟨b, hb, hv⟩ := hL0 i hi
    exact kept Md S'.step.ext hi hb hv, fun k hk => by
      have := (S'.step.models.zone k (by rw [S'.step.le.4]; exact hk)).2
      rw [S'.step.le.3] at this
      exact this⟩
  refine wp_mono (wp_region_held (S := Keep ⟨w.drew, maskL L 0 hp, ρ, e.nt, a.defers, e.pins⟩ L) hm (h ⟨w.drew, maskL L 0 hp, ρ, e.nt, a.defers, e.pins⟩ a w.drew hL' hd hkeep S1)) ?_
  intro ex a' w' hq
  cases ex with
  | normal =>
    obtain ⟨σ', ⟨ρ', S'⟩, hx⟩ := hq
    have stp := (Step.unL Md S'.step).drew
    obtain ⟨⟨Ds, d1, d2⟩, _⟩ := S.defers
    obtain ⟨⟨Ds', d3, d4⟩, d6⟩ := S'.defers
    have d5 := d2.step M stp
    have hlt : ∀ D ∈ Ds, D < w.heap.size := fun D hD => (Array.getElem?_eq_some_iff.1 (d2.2 D hD).2).1
    have hsz : e.w.heap.size ≤ w.heap.size := S.step.ext.size
    refine X_ok hc n _ _ _ hx e a' w' hk ⟨ρ', S.base, ⟨⟨Ds' ++ Ds, by rw [d3]; show _ ++ a.defers = _; rw [d1, List.map_append, List.append_assoc], ?_, fun D hD => ?_⟩, d6⟩, S'.size, S.step.trans stp, S'.tm⟩
    · refine List.nodup_append.2 ⟨d4.1, d2.1, fun x hx y hy hxy => ?_⟩
      have h1 : w.heap.size ≤ x := (d4.2 x hx).1
      have h2 := hlt y hy
      omega
    · rcases List.mem_append.1 hD with h | h
      · exact ⟨Nat.le_trans hsz (d4.2 D h).1, (d4.2 D h).2⟩
      · exact d5.2 D h
  | _ => exact hq.elim
/-- Statements whose order is open, by a plan: those windows stay as they are in it. -/
theorem draw_of (hc : CxOk cx) (hm : cx.P.follows .mixedOrders = true) (n : Nat) (L : List Nat) (pl : List (Nat × Bool)) {id : Nat} {ops : Array Oper} {k : List KI} {nm : NB} {tm : List (Nat × SV)} {hp : List SB} {Q : XE → St → Prop}
    (hpl : (Region.noSelect ops && planOk ops pl (Array.replicate ops.size false) && decide (pl.length ≤ ops.size)) = true)
    (hL : (L.all fun i => match hp[i]? with
      | some b => !b.void
      | none => false) = true)
    (h : PX cx L ops.toList pl ⟨⟨nm.nm, hp.length⟩, tm, maskL L 0 hp⟩ (DK cx n k L nm hp Q)) : DrawGoal cx.P id ops k ⟨nm, tm, hp⟩ Q := by
  simp only [Bool.and_eq_true, decide_eq_true_eq] at hpl
  obtain ⟨⟨q1, q2⟩, q3⟩ := hpl
  exact draw_core hc hm n L hL fun e a w hL' hd hkeep S1 => px_ok hc q1 hL' hd hkeep pl ops.size _ _ a w q3 q2 S1 h

/-- The same, where two may come up in either order. -/
theorem draw2_of (hc : CxOk cx) (hm : cx.P.follows .mixedOrders = true) (n : Nat) (L : List Nat) (t : PT) {id : Nat} {ops : Array Oper} {k : List KI} {nm : NB} {tm : List (Nat × SV)} {hp : List SB} {Q : XE → St → Prop}
    (hpl : (Region.noSelect ops && treeOk ops t (Array.replicate ops.size false) && decide (t.len ≤ ops.size)) = true)
    (hL : (L.all fun i => match hp[i]? with
      | some b => !b.void
      | none => false) = true)
    (h : PXT cx L ops.toList t (DK cx n k L nm hp Q) ⟨⟨nm.nm, hp.length⟩, tm, maskL L 0 hp⟩) : DrawGoal cx.P id ops k ⟨nm, tm, hp⟩ Q := by
  simp only [Bool.and_eq_true, decide_eq_true_eq] at hpl
  exact draw_core hc hm n L hL fun e a w hL' hd hkeep S1 => px_tree hc hpl.1.1 hL' hd hkeep t _ _ _ a w hpl.2 hpl.1.2 S1 h
end

end Go.Proofs.Ythbojoiogjdbeaa.Sx
