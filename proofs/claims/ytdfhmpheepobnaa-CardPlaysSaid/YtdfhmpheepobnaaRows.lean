/-
  No cell of these rows narrows 'for every input' (looked for: loops, veiled, ifaces, maps, wideKeys, modest, calm, conditions, laid).
  DERIVED. THE GIVEN ROWS OF THIS SEAT. 4 by the template 'for every input the law returns true; each argument reads behind the call as it read before'; 0 by the template 'total and deterministic' (their statements: YtdfhmpheepobnaaTotals.lean).
  GIVEN WITH THE SEED: the statements are not yours to turn. If you find one false, say at which input.
  Laid BY PROGRAM, IN A SANDBOX (cutbox-rows.mjs): the forced cells as the released guide's own fill.sh prints them over the translation b33a50d64a6f5bd0… (all of the seat's roots in one cut). By AI agents, Wed Nov 11 2026. No macro, syntax, notation, axiom, sorry.
-/
import Derived.Test.YtdfhmpheepobnaaChecked
import GoSem.Claim
import GoSem.ClaimJoined
import GoSem.ClaimMapViews
import Derived.JoinedTies
import Derived.KernelRfl
namespace Go.Proofs.Ytdfhmpheepobnaa
/- THE CELL 'sum', in the pinned program and in every row, IS THE sha256 OF THE DUMP (.gsa) THAT YtdfhmpheepobnaaProg.lean LOADS. Nothing in Lean hashes anything: it is a label: what it is worth is what the hold of that sum in a sandbox is worth. -/
noncomputable def Try.pinned : Pinned := { name := "ytdfhmpheepobnaa", sum := "b33a50d64a6f5bd0e44ba205f620e2f6c90b42db4eca10444f9fdc1620eb1e34", checked := Try.checked }
namespace Rows
def none {H : Type} : Left H := { results := [], args := [] }

/-- 'slipwaylaw04.CardNumbers': WHATEVER THE INPUT: true; the input reads as it did. -/
def cardNumbersSpec : ChangeSpec := { name := "cardNumbers", fn := fun _ => fun
  | [] => { results := [.lit (.bool true)], args := [] }
  | _ => none }
def cardNumbersRow : OpenClaim := { program := "ytdfhmpheepobnaa", sum := "b33a50d64a6f5bd0e44ba205f620e2f6c90b42db4eca10444f9fdc1620eb1e34", func := "slipway/slipwaylaw04.CardNumbers", spec := "cardNumbers", apart := false }
def CardNumbersSaid : Prop := cardNumbersRow.holds Try.pinned (OpenSpec.ofChange cardNumbersSpec)

/-- ITS FALSE NEIGHBOUR: 'it returns false'. Refute it at one input. -/
def cardNumbersWrong : ChangeSpec := { name := "cardNumbers", fn := fun _ => fun
  | [] => { results := [.lit (.bool false)], args := [] }
  | _ => none }
def CardNumbersWrongFalsely : Prop := cardNumbersRow.holds Try.pinned (OpenSpec.ofChange cardNumbersWrong)

/-- 'slipwaylaw04.CardMakes': WHATEVER THE INPUT: true; the input reads as it did. -/
def cardMakesSpec : ChangeSpec := { name := "cardMakes", fn := fun _ => fun
  | [d1, d2] => { results := [.lit (.bool true)], args := [d1, d2] }
  | _ => none }
def cardMakesRow : OpenClaim := { program := "ytdfhmpheepobnaa", sum := "b33a50d64a6f5bd0e44ba205f620e2f6c90b42db4eca10444f9fdc1620eb1e34", func := "slipway/slipwaylaw04.CardMakes", spec := "cardMakes", apart := false }
def CardMakesSaid : Prop := cardMakesRow.holds Try.pinned (OpenSpec.ofChange cardMakesSpec)

/-- ITS FALSE NEIGHBOUR: 'it returns false'. Refute it at one input. -/
def cardMakesWrong : ChangeSpec := { name := "cardMakes", fn := fun _ => fun
  | [d1, d2] => { results := [.lit (.bool false)], args := [d1, d2] }
  | _ => none }
def CardMakesWrongFalsely : Prop := cardMakesRow.holds Try.pinned (OpenSpec.ofChange cardMakesWrong)

/-- 'slipwaylaw04.CardFlows': WHATEVER THE INPUT: true; the input reads as it did. -/
def cardFlowsSpec : ChangeSpec := { name := "cardFlows", fn := fun _ => fun
  | [d1, d2, d3] => { results := [.lit (.bool true)], args := [d1, d2, d3] }
  | _ => none }
def cardFlowsRow : OpenClaim := { program := "ytdfhmpheepobnaa", sum := "b33a50d64a6f5bd0e44ba205f620e2f6c90b42db4eca10444f9fdc1620eb1e34", func := "slipway/slipwaylaw04.CardFlows", spec := "cardFlows", apart := false }
def CardFlowsSaid : Prop := cardFlowsRow.holds Try.pinned (OpenSpec.ofChange cardFlowsSpec)

/-- ITS FALSE NEIGHBOUR: 'it returns false'. Refute it at one input. -/
def cardFlowsWrong : ChangeSpec := { name := "cardFlows", fn := fun _ => fun
  | [d1, d2, d3] => { results := [.lit (.bool false)], args := [d1, d2, d3] }
  | _ => none }
def CardFlowsWrongFalsely : Prop := cardFlowsRow.holds Try.pinned (OpenSpec.ofChange cardFlowsWrong)

/-- 'slipwaylaw04.CardPlays': WHATEVER THE INPUT: true; the input reads as it did. -/
def cardPlaysSpec : ChangeSpec := { name := "cardPlays", fn := fun _ => fun
  | [d1, d2, d3, d4, d5] => { results := [.lit (.bool true)], args := [d1, d2, d3, d4, d5] }
  | _ => none }
def cardPlaysRow : OpenClaim := { program := "ytdfhmpheepobnaa", sum := "b33a50d64a6f5bd0e44ba205f620e2f6c90b42db4eca10444f9fdc1620eb1e34", func := "slipway/slipwaylaw04.CardPlays", spec := "cardPlays", apart := false }
def CardPlaysSaid : Prop := cardPlaysRow.holds Try.pinned (OpenSpec.ofChange cardPlaysSpec)

/-- ITS FALSE NEIGHBOUR: 'it returns false'. Refute it at one input. -/
def cardPlaysWrong : ChangeSpec := { name := "cardPlays", fn := fun _ => fun
  | [d1, d2, d3, d4, d5] => { results := [.lit (.bool false)], args := [d1, d2, d3, d4, d5] }
  | _ => none }
def CardPlaysWrongFalsely : Prop := cardPlaysRow.holds Try.pinned (OpenSpec.ofChange cardPlaysWrong)

/- THE SECOND FORM. 'bulk': how many values and letters a reading holds, each counted each time it is reached (what is shared counts as often as it is met; a slice's spare places count too). A statement '..UptoSaid' is the law's where the arguments, and the package variables that the reading takes, are together of bulk at most 1048576: NARROWER than '..Said'. Prove '..Said' where nothing that the law and all that it calls make is longer than what came in: it says more and counts as full. Else prove '..UptoSaid'. A law counts once. -/
mutual
def uptoBulk {H : Type} : DataW H → Nat
  | .lit (.string bytes) => bytes.length + 1
  | .lit _ => 1
  | .nil => 1
  | .ptr d => uptoBulk d + 1
  | .slice elems spare => uptoBulkAll elems + uptoBulkAll spare + 1
  | .agg parts => uptoBulkAll parts + 1
  | .iface _ d => uptoBulk d + 1
  | .map entries => uptoBulkEntries entries + 1
  | .held _ => 1
def uptoBulkAll {H : Type} : List (DataW H) → Nat
  | [] => 0
  | d :: r => uptoBulk d + uptoBulkAll r
def uptoBulkEntries {H : Type} : List (Lit × DataW H) → Nat
  | [] => 0
  | x :: r => uptoBulkEntry x + uptoBulkEntries r
def uptoBulkEntry {H : Type} : Lit × DataW H → Nat
  | (.string bytes, d) => bytes.length + uptoBulk d + 1
  | (_, d) => uptoBulk d + 1
 end
def uptoSmall : (H : Type) → List (DataW H) → Bool := fun _ ds => decide (uptoBulkAll ds ≤ 1048576)
def OpenSpec.upto (s : _root_.Go.ChangeSpec) : _root_.Go.OpenSpec := { _root_.Go.OpenSpec.ofChange s with cond := some uptoSmall }

/-- 'slipwaylaw04.CardNumbers', WHERE WHAT IT READS IS OF BULK AT MOST 1048576: true; the input reads as it did. -/
def cardNumbersUptoRow : OpenClaim := { program := "ytdfhmpheepobnaa", sum := "b33a50d64a6f5bd0e44ba205f620e2f6c90b42db4eca10444f9fdc1620eb1e34", func := "slipway/slipwaylaw04.CardNumbers", spec := "cardNumbers", apart := false, narrowed := true }
def CardNumbersUptoSaid : Prop := cardNumbersUptoRow.holds Try.pinned (OpenSpec.upto cardNumbersSpec)

/-- 'slipwaylaw04.CardMakes', WHERE WHAT IT READS IS OF BULK AT MOST 1048576: true; the input reads as it did. -/
def cardMakesUptoRow : OpenClaim := { program := "ytdfhmpheepobnaa", sum := "b33a50d64a6f5bd0e44ba205f620e2f6c90b42db4eca10444f9fdc1620eb1e34", func := "slipway/slipwaylaw04.CardMakes", spec := "cardMakes", apart := false, narrowed := true }
def CardMakesUptoSaid : Prop := cardMakesUptoRow.holds Try.pinned (OpenSpec.upto cardMakesSpec)

/-- 'slipwaylaw04.CardFlows', WHERE WHAT IT READS IS OF BULK AT MOST 1048576: true; the input reads as it did. -/
def cardFlowsUptoRow : OpenClaim := { program := "ytdfhmpheepobnaa", sum := "b33a50d64a6f5bd0e44ba205f620e2f6c90b42db4eca10444f9fdc1620eb1e34", func := "slipway/slipwaylaw04.CardFlows", spec := "cardFlows", apart := false, narrowed := true }
def CardFlowsUptoSaid : Prop := cardFlowsUptoRow.holds Try.pinned (OpenSpec.upto cardFlowsSpec)

/-- 'slipwaylaw04.CardPlays', WHERE WHAT IT READS IS OF BULK AT MOST 1048576: true; the input reads as it did. -/
def cardPlaysUptoRow : OpenClaim := { program := "ytdfhmpheepobnaa", sum := "b33a50d64a6f5bd0e44ba205f620e2f6c90b42db4eca10444f9fdc1620eb1e34", func := "slipway/slipwaylaw04.CardPlays", spec := "cardPlays", apart := false, narrowed := true }
def CardPlaysUptoSaid : Prop := cardPlaysUptoRow.holds Try.pinned (OpenSpec.upto cardPlaysSpec)

end Rows
end Go.Proofs.Ytdfhmpheepobnaa
