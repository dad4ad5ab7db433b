/- It is proved that for every input the Go function of the law RoutePlays returns true and leaves its arguments as they were. Conditions: none. -/
import Derived.Test.YtfjapffakihphaaRows
import Derived.Test.YtfjapffakihphaaSxOpen
import Derived.Test.YtfjapffakihphaaRtF
import Derived.ProofKit
import Derived.OpenShut
namespace Go.Proofs.Ytfjapffakihphaa.lawRoutePlays
open Go Go.ChangeShapes Go.WideShapes Go.ChangeAt Go.RowKit Go.Proofs.Ytfjapffakihphaa.Sx
set_option linter.unusedVariables false

theorem own : ownKnob Try.prog.godebug = none := by kernel_rfl

theorem contract (H : Type) (enc : TypeId × Value → H) (W : World) (base : Nat) (args : Array Value) (ds gs : List (DataW H)) (before : List MemPlace)
    (hval : ∀ (j : Nat) t v, Try.f4.params[j]? = some t → args[j]? = some v → Value.okWide Try.prog W .any base t v)
    (hW : DataW.Whole enc Try.prog Try.f4.params.toList Rows.routePlaysSpec.vars false W args.toList ds gs before) :
    Calls Try.prog 4 args W fun e W' => ∃ v, e = .returned v ∧ Rows.routePlaysSpec.post enc Try.prog Try.f4 false true false false W args v W' := by
  refine law_contract (P := Try.prog) (T := T) (f := Try.f4) T_ok (tb := 4) (by kernel_rfl) (by kernel_rfl) (by kernel_rfl) (by kernel_rfl) Try.underlying4 rfl (fun ds h => ?_) ?_ W base args ds gs before hval hW
  · have h : ds.length = 1 := h.trans (by kernel_rfl)
    match ds, h with
    | [d0], _ => rfl
  · intro css hcss
    have hp : Try.f4.params.toList = [23] := by kernel_rfl
    rw [hp] at hcss ⊢
    exact routePlays_walk css hcss

set_option maxRecDepth 100000 in
theorem lifted (os : Os) (started : os.Started) (H : Type) (enc : TypeId × Value → H) :
    ReturnsInHanded {} Try.checked os 4 .any (Rows.routePlaysSpec.pre6 enc Try.prog Try.f4 Rows.routePlaysRow.domain false) (Rows.routePlaysSpec.post enc Try.prog Try.f4 false true false false) := by
  refine returnsInHanded_of_change (C := Try.checked) own started (by kernel_rfl) Try.func4
    (ChangeSpec.witness6 (enc := enc) (C := Try.checked) false ⟨#[], #[.slice none 0 0], []⟩ 8 (by kernel_rfl) (by kernel_rfl) (by kernel_rfl) (by kernel_rfl)) ?_
  intro W base args ds gs before hval hW _ _
  exact contract H enc W base args ds gs before hval hW

theorem over : Rows.routePlaysRow.holds Try.pinned (OpenSpec.ofChange Rows.routePlaysSpec) :=
  OpenClaim.holds_of_wide 4 Try.f4 rfl rfl rfl rfl rfl rfl rfl ⟨rfl, rfl, rfl, rfl, rfl⟩ rfl rfl rfl rfl rfl (by kernel_rfl) Try.func4 (by kernel_rfl)
    (of_decide_eq_true (by kernel_rfl)) (by unfold Func.isWrapper; first | (rw [if_pos (by decide +kernel)]; kernel_rfl) | (rw [if_neg (by decide +kernel)]; exact ⟨rfl, rfl⟩))
    (fun os started H enc _ => lifted os started H enc)

/-- THE STATEMENT -/
theorem proved : Rows.RoutePlaysSaid :=
  over
#print axioms proved
end Go.Proofs.Ytfjapffakihphaa.lawRoutePlays
