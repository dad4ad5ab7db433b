/- The symbolic executor, at work: lists of bytes that grow. No condition. -/
import Derived.Test.YtniednekfnfhmaaHp6
namespace Go.Proofs.Ytniednekfnfhmaa.Sx
open Go
set_option linter.unusedSimpArgs false
set_option linter.unusedVariables false

/-- Both ways of an append, at once. -/
theorem xapp_P {xn : XN} {need cap : Nat} {dst : Option Tmp} {k : List KI} {nm : NB} {tm : List (Nat × SV)} {room : SV × List SB} {grow : Nat → SV × List SB} {Q : XE → St → Prop} (P : SV → List SB → Prop)
    (h1 : need ≤ cap → P room.1 room.2) (h2 : cap < need → ∀ c, need ≤ c → c ≤ maxLen → P (grow c).1 (grow c).2) (hk : ∀ s h, P s h → xn k ⟨nm, put dst s tm, h⟩ Q) : XApp xn need cap dst k nm tm room grow Q :=
  ⟨fun h => .inl (hk _ _ (h1 h)), fun h c h3 h4 => .inl (hk _ _ (h2 h c h3 h4))⟩

/-- A loop; less may be known, or fewer temporaries. -/
theorem loop_any {cx : Cx} (hc : CxOk cx) {c : Code} {k : List KI} {σ : St} {Q : XE → St → Prop} (n : Nat) (I : Nat → St → Prop) (m : Nat) (σ0 : St) (h0 : I m σ0) (hw : Sub σ σ0 ∨ ∃ π, Wk π σ σ0)
    (round : ∀ m σ', I m σ' → X cx n (.code c :: .lp (fun σ'' => ∃ m', m' < m ∧ ∃ σ3, I m' σ3 ∧ (Sub σ'' σ3 ∨ ∃ π, Wk π σ'' σ3)) :: k) σ' Q) : LoopGoal cx.P c k σ Q :=
  loop_gen hc (fun σ τ => Sub σ τ ∨ ∃ π, Wk π σ τ) (fun _ _ _ _ _ h S => h.elim (fun h => S.sub h) fun ⟨_, h⟩ => S.wk h) n I m σ0 h0 hw round

theorem unL_new {L : List Nat} {h0 h : List SB} {i : Nat} {b : SB} (hi : h[i]? = some b) (h0i : h0.length ≤ i) : (unL L 0 h0 h)[i]? = some b := by
  rw [unL_get, hi, List.getElem?_eq_none h0i]; rfl
theorem unL_kept {L : List Nat} {h0 h : List SB} {i : Nat} {b b0 : SB} (hi : h[i]? = some b) (h0i : h0[i]? = some b0) (hL : L.contains i = true) : (unL L 0 h0 h)[i]? = some b0 := by
  rw [unL_get, hi, h0i, Nat.zero_add]
  show some (bif L.contains i then b0 else b) = _
  rw [hL]; rfl
theorem unL_old {L : List Nat} {h0 h : List SB} {i : Nat} {b b0 : SB} (hi : h[i]? = some b) (h0i : h0[i]? = some b0) (hL : L.contains i = false) : (unL L 0 h0 h)[i]? = some b := by
  rw [unL_get, hi, h0i, Nat.zero_add]
  show some (bif L.contains i then b0 else b) = _
  rw [hL]; rfl
/-- A call by a contract over all windows. -/
theorem call_is {P : Program} {xn : XN} {f : FuncId} {args : List SV} {dst : Option Tmp} {k : List KI} {nm : NB} {tm : List (Nat × SV)} {hp : List SB} {Q : XE → St → Prop} {K : SV → List SB → Prop}
    (s : Spec P f args hp K) (hk : ∀ s h', K s h' → xn k ⟨nm, put dst s tm, h'⟩ Q) : CallGoal P xn f args dst k ⟨nm, tm, hp⟩ Q := .inl ⟨K, s, fun s h' h => .inl (hk s h' h)⟩
/-- A call that panics. -/
theorem call_panics {P : Program} {xn : XN} {f : FuncId} {args : List SV} {dst : Option Tmp} {k : List KI} {σ : St} {Q : XE → St → Prop} {ch : List PanicEntry} (s : SpecP P f args σ.hp ch) (h : Q (.panic ch) σ) : CallGoal P xn f args dst k σ Q := .inr ⟨ch, s, h⟩

end Go.Proofs.Ytniednekfnfhmaa.Sx
