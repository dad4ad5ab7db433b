/- It is proved that for every input of bulk at most 1048576 the Go function of the law OptionBack returns true and leaves its arguments as they were. Conditions: that bound on the bulk of what is read, as the given statement has it. -/
import Derived.Test.YtflccffjfnfoiaaRows
import Derived.Test.YtflccffjfnfoiaaSxOpen
import Derived.Test.YtflccffjfnfoiaaOpT
import Derived.ProofKit
import Derived.OpenShut
import Derived.Deep.CondSized
namespace Go.Proofs.Ytflccffjfnfoiaa.lawOptionBackUpto
open Go Go.ChangeShapes Go.WideShapes Go.ChangeAt Go.RowKit Go.Proofs.Ytflccffjfnfoiaa.Sx
set_option linter.unusedVariables false

theorem own : ownKnob Try.prog.godebug = none := by kernel_rfl


theorem bulk_sum {H : Type} : ∀ {l : List (DataW H)}, Rows.uptoBulkAll l = (l.map Rows.uptoBulk).sum
  | [] => by simp [Rows.uptoBulkAll]
  | d :: l => by simp [Rows.uptoBulkAll, bulk_sum (l := l)]

theorem bulk_ok {H : Type} : BulkOk (Rows.uptoBulk (H := H)) where
  lit l := by cases l <;> simp [Rows.uptoBulk]
  str bs := by simp [Rows.uptoBulk]
  nil := by simp [Rows.uptoBulk]
  sl es sp := by simp only [Rows.uptoBulk, bulk_sum]; omega
  agg ps := by simp only [Rows.uptoBulk, bulk_sum]; omega

theorem bulk_le {H : Type} {ds gs : List (DataW H)} (h : Rows.uptoSmall H (ds ++ gs) = true) : (ds.map Rows.uptoBulk).sum ≤ 1048576 := by
  have h1 : Rows.uptoBulkAll (ds ++ gs) ≤ 1048576 := by simpa only [Rows.uptoSmall, decide_eq_true_eq] using h
  rw [bulk_sum, List.map_append, List.sum_append] at h1
  omega

theorem contract (H : Type) (enc : TypeId × Value → H) (W : World) (base : Nat) (args : Array Value) (ds gs : List (DataW H)) (before : List MemPlace)
    (hval : ∀ (j : Nat) t v, Try.f8.params[j]? = some t → args[j]? = some v → Value.okWide Try.prog W .any base t v)
    (hW : DataW.Whole enc Try.prog Try.f8.params.toList Rows.optionBackSpec.vars false W args.toList ds gs before)
    (hsz : (DataW.weightsEach Try.prog (Try.f8.params.toList ++ Rows.optionBackSpec.plain.varTypes Try.prog) (ds ++ gs)).all (· ≤ reachBytes) = true)
    (hk : Rows.uptoSmall H (ds ++ gs) = true) :
    Calls Try.prog 8 args W fun e W' => ∃ v, e = .returned v ∧ Rows.optionBackSpec.post enc Try.prog Try.f8 false true false false W args v W' := by
  have hlen : ds.length = Try.f8.params.toList.length := by
    obtain ⟨p, q, h1, _⟩ := id hW
    exact trodAll_len h1
  refine law_contract (bk := Rows.uptoBulk) bulk_ok (M := 1048576) (P := Try.prog) (T := T) (f := Try.f8) T_ok (tb := 4) (by kernel_rfl) (by kernel_rfl) (by kernel_rfl) (by kernel_rfl) Try.underlying4 rfl (fun ds h => ?_) ?_ W base args ds gs before hval hW (weights_of hlen hsz) (bulk_le hk)
  · have h : ds.length = 4 := h.trans (by kernel_rfl)
    match ds, h with
    | [d0, d1, d2, d3], _ => rfl
  · intro css hcss hM
    have hp : Try.f8.params.toList = [24, 3, 25, 32] := by kernel_rfl
    rw [hp] at hcss ⊢
    exact optionBack_walk css hcss hM

set_option maxRecDepth 100000 in
theorem lifted (os : Os) (started : os.Started) (H : Type) (enc : TypeId × Value → H) (F : Stop.Interp) :
    ReturnsInHanded {} Try.checked os 8 .any ((Rows.OpenSpec.upto Rows.optionBackSpec).pre6 enc Try.prog Try.f8 Rows.optionBackUptoRow.domain false) (((Rows.OpenSpec.upto Rows.optionBackSpec).at F).post enc Try.prog Try.f8 false true false false) := by
  refine returnsInHanded_of_cond_sized (C := Try.checked) (s := Rows.OpenSpec.upto Rows.optionBackSpec) (k := Rows.uptoSmall) rfl own started (by kernel_rfl) Try.func8
    (OpenSpec.witness (enc := enc) (C := Try.checked) (s := Rows.OpenSpec.upto Rows.optionBackSpec) (k := Rows.uptoSmall) rfl false ⟨#[], #[.slice none 0 0, .int .i64 0, .slice none 0 0, .slice none 0 0], []⟩ 8 (by kernel_rfl) (by kernel_rfl) (by kernel_rfl)
      (x := ([.nil, .lit (.int .i64 0), .nil, .nil], [], [])) (by kernel_rfl) rfl (by kernel_rfl)) ?_
  intro W base args ds gs before hval hW _ hk hsz _
  exact contract H enc W base args ds gs before hval hW hsz hk

theorem over : Rows.optionBackUptoRow.holds Try.pinned (Rows.OpenSpec.upto Rows.optionBackSpec) :=
  OpenClaim.holds_of_cond 8 Try.f8 rfl rfl rfl rfl rfl rfl rfl ⟨rfl, rfl, rfl, rfl, rfl⟩ rfl rfl rfl rfl rfl (by kernel_rfl) Try.func8 (by kernel_rfl)
    (of_decide_eq_true (by kernel_rfl)) (by unfold Func.isWrapper; first | (rw [if_pos (by decide +kernel)]; kernel_rfl) | (rw [if_neg (by decide +kernel)]; exact ⟨rfl, rfl⟩))
    (fun os started H enc _ F => lifted os started H enc F)

/-- THE STATEMENT -/
theorem proved : Rows.OptionBackUptoSaid :=
  over
#print axioms proved
end Go.Proofs.Ytflccffjfnfoiaa.lawOptionBackUpto
