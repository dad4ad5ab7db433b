/- It is proved that for every input the Go function of the law NicOrder returns true and leaves its arguments as they were. Conditions: none. -/
import Derived.Test.YthbojoiogjdbeaaRows
import Derived.Test.YthbojoiogjdbeaaSxOpen
import Derived.Test.YthbojoiogjdbeaaO2
import Derived.ProofKit
import Derived.OpenShut
import Derived.Deep.CondSized
namespace Go.Proofs.Ythbojoiogjdbeaa.lawNicOrder
open Go Go.ChangeShapes Go.WideShapes Go.ChangeAt Go.RowKit Go.Proofs.Ythbojoiogjdbeaa.Sx
set_option linter.unusedVariables false

theorem own : ownKnob Try.prog.godebug = none := by kernel_rfl


set_option maxRecDepth 100000 in
theorem contract (H : Type) (enc : TypeId × Value → H) (W : World) (base : Nat) (args : Array Value) (ds gs : List (DataW H)) (before : List MemPlace)
    (hval : ∀ (j : Nat) t v, Try.f4.params[j]? = some t → args[j]? = some v → Value.okWide Try.prog W .any base t v)
    (hW : DataW.Whole enc Try.prog Try.f4.params.toList Rows.nicOrderSpec.vars false W args.toList ds gs before)
    (hsz : (DataW.weightsEach Try.prog (Try.f4.params.toList ++ Rows.nicOrderSpec.plain.varTypes Try.prog) (ds ++ gs)).all (· ≤ reachBytes) = true) :
    Calls Try.prog 4 args W fun e W' => ∃ v, e = .returned v ∧ Rows.nicOrderSpec.post enc Try.prog Try.f4 false true false false W args v W' := by
  have hlen : ds.length = Try.f4.params.toList.length := by
    obtain ⟨p, q, h1, _⟩ := id hW
    exact trodAll_len h1
  refine law_contract0 (P := Try.prog) (T := T) (f := Try.f4) T_ok (tb := 4) (by kernel_rfl) (by kernel_rfl) (by kernel_rfl) (by kernel_rfl) Try.underlying4 rfl (fun ds h => ?_) ?_ W base args ds gs before hval hW (weights_of hlen hsz)
  · have h : ds.length = 4 := h.trans (by kernel_rfl)
    match ds, h with
    | [d0, d1, d2, d3], _ => rfl
  · intro css hcss
    have hp : Try.f4.params.toList = [3, 3, 24, 25] := by kernel_rfl
    rw [hp] at hcss ⊢
    exact nicOrder_walk css hcss

set_option maxRecDepth 100000 in
theorem lifted (os : Os) (started : os.Started) (H : Type) (enc : TypeId × Value → H) :
    ReturnsInHanded {} Try.checked os 4 .any (Rows.nicOrderSpec.pre6 enc Try.prog Try.f4 Rows.nicOrderRow.domain false) (Rows.nicOrderSpec.post enc Try.prog Try.f4 false true false false) := by
  refine returnsInHanded_of_change_sized (C := Try.checked) own started (by kernel_rfl) Try.func4
    (ChangeSpec.witness6 (enc := enc) (C := Try.checked) false ⟨#[], #[.int .i64 0, .int .i64 0, .agg [(.int .u8 0), (.int .u8 0), (.int .u8 0), (.int .u8 0), (.int .u8 0), (.int .u8 0)].toArray, .slice none 0 0], []⟩ 8 (by kernel_rfl) (by kernel_rfl) (by kernel_rfl) (by kernel_rfl)) ?_
  intro W base args ds gs before hval hW _ hsz _
  exact contract H enc W base args ds gs before hval hW hsz

theorem over : Rows.nicOrderRow.holds Try.pinned (OpenSpec.ofChange Rows.nicOrderSpec) :=
  OpenClaim.holds_of_wide 4 Try.f4 rfl rfl rfl rfl rfl rfl rfl ⟨rfl, rfl, rfl, rfl, rfl⟩ rfl rfl rfl rfl rfl (by kernel_rfl) Try.func4 (by kernel_rfl)
    (of_decide_eq_true (by kernel_rfl)) (by unfold Func.isWrapper; first | (rw [if_pos (by decide +kernel)]; kernel_rfl) | (rw [if_neg (by decide +kernel)]; exact ⟨rfl, rfl⟩))
    (fun os started H enc _ => lifted os started H enc)

/-- THE STATEMENT -/
theorem proved : Rows.NicOrderSaid :=
  over
#print axioms proved
end Go.Proofs.Ythbojoiogjdbeaa.lawNicOrder
