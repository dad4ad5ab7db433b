/-
  No cell of these rows narrows 'for every input' (looked for: loops, veiled, ifaces, maps, wideKeys, modest, calm, conditions, laid).
  DERIVED. THE GIVEN ROWS OF THIS SEAT. 7 by the template 'for every input the law returns true; each argument reads behind the call as it read before'; 0 by the template 'total and deterministic' (their statements: YtflccffjfnfoiaaTotals.lean).
  GIVEN WITH THE SEED: the statements are not yours to turn. If you find one false, say at which input.
  Laid BY PROGRAM, IN A SANDBOX (cutbox-rows.mjs): the forced cells as the released guide's own fill.sh prints them over the translation 884575b2c1d0033d… (all of the seat's roots in one cut). By AI agents, Wed Nov 11 2026. No macro, syntax, notation, axiom, sorry.
-/
import Derived.Test.YtflccffjfnfoiaaChecked
import GoSem.Claim
import GoSem.ClaimJoined
import GoSem.ClaimMapViews
import Derived.JoinedTies
import Derived.KernelRfl
namespace Go.Proofs.Ytflccffjfnfoiaa
/- THE CELL 'sum', in the pinned program and in every row, IS THE sha256 OF THE DUMP (.gsa) THAT YtflccffjfnfoiaaProg.lean LOADS. Nothing in Lean hashes anything: it is a label: what it is worth is what the hold of that sum in a sandbox is worth. -/
noncomputable def Try.pinned : Pinned := { name := "ytflccffjfnfoiaa", sum := "884575b2c1d0033d33a3a0a6d93651379de8c4d0571af82870592cffbf9bbf21", checked := Try.checked }
namespace Rows
def none {H : Type} : Left H := { results := [], args := [] }

/-- 'slipwaylaw15.OptionNames': WHATEVER THE INPUT: true; the input reads as it did. -/
def optionNamesSpec : ChangeSpec := { name := "optionNames", fn := fun _ => fun
  | [] => { results := [.lit (.bool true)], args := [] }
  | _ => none }
def optionNamesRow : OpenClaim := { program := "ytflccffjfnfoiaa", sum := "884575b2c1d0033d33a3a0a6d93651379de8c4d0571af82870592cffbf9bbf21", func := "slipway/slipwaylaw15.OptionNames", spec := "optionNames", unfollowed := true, recurses := true, apart := false }
def OptionNamesSaid : Prop := optionNamesRow.holds Try.pinned (OpenSpec.ofChange optionNamesSpec)

/-- ITS FALSE NEIGHBOUR: 'it returns false'. Refute it at one input. -/
def optionNamesWrong : ChangeSpec := { name := "optionNames", fn := fun _ => fun
  | [] => { results := [.lit (.bool false)], args := [] }
  | _ => none }
def OptionNamesWrongFalsely : Prop := optionNamesRow.holds Try.pinned (OpenSpec.ofChange optionNamesWrong)

/-- 'slipwaylaw15.OptionPacks': WHATEVER THE INPUT: true; the input reads as it did. -/
def optionPacksSpec : ChangeSpec := { name := "optionPacks", fn := fun _ => fun
  | [d1, d2, d3] => { results := [.lit (.bool true)], args := [d1, d2, d3] }
  | _ => none }
def optionPacksRow : OpenClaim := { program := "ytflccffjfnfoiaa", sum := "884575b2c1d0033d33a3a0a6d93651379de8c4d0571af82870592cffbf9bbf21", func := "slipway/slipwaylaw15.OptionPacks", spec := "optionPacks", unfollowed := true, recurses := true, apart := false }
def OptionPacksSaid : Prop := optionPacksRow.holds Try.pinned (OpenSpec.ofChange optionPacksSpec)

/-- ITS FALSE NEIGHBOUR: 'it returns false'. Refute it at one input. -/
def optionPacksWrong : ChangeSpec := { name := "optionPacks", fn := fun _ => fun
  | [d1, d2, d3] => { results := [.lit (.bool false)], args := [d1, d2, d3] }
  | _ => none }
def OptionPacksWrongFalsely : Prop := optionPacksRow.holds Try.pinned (OpenSpec.ofChange optionPacksWrong)

/-- 'slipwaylaw15.OptionParses': WHATEVER THE INPUT: true; the input reads as it did. -/
def optionParsesSpec : ChangeSpec := { name := "optionParses", fn := fun _ => fun
  | [d1, d2] => { results := [.lit (.bool true)], args := [d1, d2] }
  | _ => none }
def optionParsesRow : OpenClaim := { program := "ytflccffjfnfoiaa", sum := "884575b2c1d0033d33a3a0a6d93651379de8c4d0571af82870592cffbf9bbf21", func := "slipway/slipwaylaw15.OptionParses", spec := "optionParses", unfollowed := true, recurses := true, apart := false }
def OptionParsesSaid : Prop := optionParsesRow.holds Try.pinned (OpenSpec.ofChange optionParsesSpec)

/-- ITS FALSE NEIGHBOUR: 'it returns false'. Refute it at one input. -/
def optionParsesWrong : ChangeSpec := { name := "optionParses", fn := fun _ => fun
  | [d1, d2] => { results := [.lit (.bool false)], args := [d1, d2] }
  | _ => none }
def OptionParsesWrongFalsely : Prop := optionParsesRow.holds Try.pinned (OpenSpec.ofChange optionParsesWrong)

/-- 'slipwaylaw15.OptionFinds': WHATEVER THE INPUT: true; the input reads as it did. -/
def optionFindsSpec : ChangeSpec := { name := "optionFinds", fn := fun _ => fun
  | [d1, d2] => { results := [.lit (.bool true)], args := [d1, d2] }
  | _ => none }
def optionFindsRow : OpenClaim := { program := "ytflccffjfnfoiaa", sum := "884575b2c1d0033d33a3a0a6d93651379de8c4d0571af82870592cffbf9bbf21", func := "slipway/slipwaylaw15.OptionFinds", spec := "optionFinds", unfollowed := true, recurses := true, apart := false }
def OptionFindsSaid : Prop := optionFindsRow.holds Try.pinned (OpenSpec.ofChange optionFindsSpec)

/-- ITS FALSE NEIGHBOUR: 'it returns false'. Refute it at one input. -/
def optionFindsWrong : ChangeSpec := { name := "optionFinds", fn := fun _ => fun
  | [d1, d2] => { results := [.lit (.bool false)], args := [d1, d2] }
  | _ => none }
def OptionFindsWrongFalsely : Prop := optionFindsRow.holds Try.pinned (OpenSpec.ofChange optionFindsWrong)

/-- 'slipwaylaw15.OptionMakes': WHATEVER THE INPUT: true; the input reads as it did. -/
def optionMakesSpec : ChangeSpec := { name := "optionMakes", fn := fun _ => fun
  | [d1, d2, d3] => { results := [.lit (.bool true)], args := [d1, d2, d3] }
  | _ => none }
def optionMakesRow : OpenClaim := { program := "ytflccffjfnfoiaa", sum := "884575b2c1d0033d33a3a0a6d93651379de8c4d0571af82870592cffbf9bbf21", func := "slipway/slipwaylaw15.OptionMakes", spec := "optionMakes", unfollowed := true, recurses := true, apart := false }
def OptionMakesSaid : Prop := optionMakesRow.holds Try.pinned (OpenSpec.ofChange optionMakesSpec)

/-- ITS FALSE NEIGHBOUR: 'it returns false'. Refute it at one input. -/
def optionMakesWrong : ChangeSpec := { name := "optionMakes", fn := fun _ => fun
  | [d1, d2, d3] => { results := [.lit (.bool false)], args := [d1, d2, d3] }
  | _ => none }
def OptionMakesWrongFalsely : Prop := optionMakesRow.holds Try.pinned (OpenSpec.ofChange optionMakesWrong)

/-- 'slipwaylaw15.OptionBack': WHATEVER THE INPUT: true; the input reads as it did. -/
def optionBackSpec : ChangeSpec := { name := "optionBack", fn := fun _ => fun
  | [d1, d2, d3, d4] => { results := [.lit (.bool true)], args := [d1, d2, d3, d4] }
  | _ => none }
def optionBackRow : OpenClaim := { program := "ytflccffjfnfoiaa", sum := "884575b2c1d0033d33a3a0a6d93651379de8c4d0571af82870592cffbf9bbf21", func := "slipway/slipwaylaw15.OptionBack", spec := "optionBack", unfollowed := true, recurses := true, apart := false }
def OptionBackSaid : Prop := optionBackRow.holds Try.pinned (OpenSpec.ofChange optionBackSpec)

/-- ITS FALSE NEIGHBOUR: 'it returns false'. Refute it at one input. -/
def optionBackWrong : ChangeSpec := { name := "optionBack", fn := fun _ => fun
  | [d1, d2, d3, d4] => { results := [.lit (.bool false)], args := [d1, d2, d3, d4] }
  | _ => none }
def OptionBackWrongFalsely : Prop := optionBackRow.holds Try.pinned (OpenSpec.ofChange optionBackWrong)

/-- 'slipwaylaw15.OptionParts': WHATEVER THE INPUT: true; the input reads as it did. -/
def optionPartsSpec : ChangeSpec := { name := "optionParts", fn := fun _ => fun
  | [d1, d2, d3] => { results := [.lit (.bool true)], args := [d1, d2, d3] }
  | _ => none }
def optionPartsRow : OpenClaim := { program := "ytflccffjfnfoiaa", sum := "884575b2c1d0033d33a3a0a6d93651379de8c4d0571af82870592cffbf9bbf21", func := "slipway/slipwaylaw15.OptionParts", spec := "optionParts", unfollowed := true, recurses := true, apart := false }
def OptionPartsSaid : Prop := optionPartsRow.holds Try.pinned (OpenSpec.ofChange optionPartsSpec)

/-- ITS FALSE NEIGHBOUR: 'it returns false'. Refute it at one input. -/
def optionPartsWrong : ChangeSpec := { name := "optionParts", fn := fun _ => fun
  | [d1, d2, d3] => { results := [.lit (.bool false)], args := [d1, d2, d3] }
  | _ => none }
def OptionPartsWrongFalsely : Prop := optionPartsRow.holds Try.pinned (OpenSpec.ofChange optionPartsWrong)

/- THE SECOND FORM. 'bulk': how many values and letters a reading holds, each counted each time it is reached (what is shared counts as often as it is met; a slice's spare places count too). A statement '..UptoSaid' is the law's where the arguments, and the package variables that the reading takes, are together of bulk at most 1048576: NARROWER than '..Said'. Prove '..Said' where nothing that the law and all that it calls make is longer than what came in: it says more and counts as full. Else prove '..UptoSaid'. A law counts once. -/
mutual
def uptoBulk {H : Type} : DataW H → Nat
  | .lit (.string bytes) => bytes.length + 1
  | .lit _ => 1
  | .nil => 1
  | .ptr d => uptoBulk d + 1
  | .slice elems spare => uptoBulkAll elems + uptoBulkAll spare + 1
  | .agg parts => uptoBulkAll parts + 1
  | .iface _ d => uptoBulk d + 1
  | .map entries => uptoBulkEntries entries + 1
  | .held _ => 1
def uptoBulkAll {H : Type} : List (DataW H) → Nat
  | [] => 0
  | d :: r => uptoBulk d + uptoBulkAll r
def uptoBulkEntries {H : Type} : List (Lit × DataW H) → Nat
  | [] => 0
  | x :: r => uptoBulkEntry x + uptoBulkEntries r
def uptoBulkEntry {H : Type} : Lit × DataW H → Nat
  | (.string bytes, d) => bytes.length + uptoBulk d + 1
  | (_, d) => uptoBulk d + 1
 end
def uptoSmall : (H : Type) → List (DataW H) → Bool := fun _ ds => decide (uptoBulkAll ds ≤ 1048576)
def OpenSpec.upto (s : _root_.Go.ChangeSpec) : _root_.Go.OpenSpec := { _root_.Go.OpenSpec.ofChange s with cond := some uptoSmall }

/-- 'slipwaylaw15.OptionNames', WHERE WHAT IT READS IS OF BULK AT MOST 1048576: true; the input reads as it did. -/
def optionNamesUptoRow : OpenClaim := { program := "ytflccffjfnfoiaa", sum := "884575b2c1d0033d33a3a0a6d93651379de8c4d0571af82870592cffbf9bbf21", func := "slipway/slipwaylaw15.OptionNames", spec := "optionNames", unfollowed := true, recurses := true, apart := false, narrowed := true }
def OptionNamesUptoSaid : Prop := optionNamesUptoRow.holds Try.pinned (OpenSpec.upto optionNamesSpec)

/-- 'slipwaylaw15.OptionPacks', WHERE WHAT IT READS IS OF BULK AT MOST 1048576: true; the input reads as it did. -/
def optionPacksUptoRow : OpenClaim := { program := "ytflccffjfnfoiaa", sum := "884575b2c1d0033d33a3a0a6d93651379de8c4d0571af82870592cffbf9bbf21", func := "slipway/slipwaylaw15.OptionPacks", spec := "optionPacks", unfollowed := true, recurses := true, apart := false, narrowed := true }
def OptionPacksUptoSaid : Prop := optionPacksUptoRow.holds Try.pinned (OpenSpec.upto optionPacksSpec)

/-- 'slipwaylaw15.OptionParses', WHERE WHAT IT READS IS OF BULK AT MOST 1048576: true; the input reads as it did. -/
def optionParsesUptoRow : OpenClaim := { program := "ytflccffjfnfoiaa", sum := "884575b2c1d0033d33a3a0a6d93651379de8c4d0571af82870592cffbf9bbf21", func := "slipway/slipwaylaw15.OptionParses", spec := "optionParses", unfollowed := true, recurses := true, apart := false, narrowed := true }
def OptionParsesUptoSaid : Prop := optionParsesUptoRow.holds Try.pinned (OpenSpec.upto optionParsesSpec)

/-- 'slipwaylaw15.OptionFinds', WHERE WHAT IT READS IS OF BULK AT MOST 1048576: true; the input reads as it did. -/
def optionFindsUptoRow : OpenClaim := { program := "ytflccffjfnfoiaa", sum := "884575b2c1d0033d33a3a0a6d93651379de8c4d0571af82870592cffbf9bbf21", func := "slipway/slipwaylaw15.OptionFinds", spec := "optionFinds", unfollowed := true, recurses := true, apart := false, narrowed := true }
def OptionFindsUptoSaid : Prop := optionFindsUptoRow.holds Try.pinned (OpenSpec.upto optionFindsSpec)

/-- 'slipwaylaw15.OptionMakes', WHERE WHAT IT READS IS OF BULK AT MOST 1048576: true; the input reads as it did. -/
def optionMakesUptoRow : OpenClaim := { program := "ytflccffjfnfoiaa", sum := "884575b2c1d0033d33a3a0a6d93651379de8c4d0571af82870592cffbf9bbf21", func := "slipway/slipwaylaw15.OptionMakes", spec := "optionMakes", unfollowed := true, recurses := true, apart := false, narrowed := true }
def OptionMakesUptoSaid : Prop := optionMakesUptoRow.holds Try.pinned (OpenSpec.upto optionMakesSpec)

/-- 'slipwaylaw15.OptionBack', WHERE WHAT IT READS IS OF BULK AT MOST 1048576: true; the input reads as it did. -/
def optionBackUptoRow : OpenClaim := { program := "ytflccffjfnfoiaa", sum := "884575b2c1d0033d33a3a0a6d93651379de8c4d0571af82870592cffbf9bbf21", func := "slipway/slipwaylaw15.OptionBack", spec := "optionBack", unfollowed := true, recurses := true, apart := false, narrowed := true }
def OptionBackUptoSaid : Prop := optionBackUptoRow.holds Try.pinned (OpenSpec.upto optionBackSpec)

/-- 'slipwaylaw15.OptionParts', WHERE WHAT IT READS IS OF BULK AT MOST 1048576: true; the input reads as it did. -/
def optionPartsUptoRow : OpenClaim := { program := "ytflccffjfnfoiaa", sum := "884575b2c1d0033d33a3a0a6d93651379de8c4d0571af82870592cffbf9bbf21", func := "slipway/slipwaylaw15.OptionParts", spec := "optionParts", unfollowed := true, recurses := true, apart := false, narrowed := true }
def OptionPartsUptoSaid : Prop := optionPartsUptoRow.holds Try.pinned (OpenSpec.upto optionPartsSpec)

end Rows
end Go.Proofs.Ytflccffjfnfoiaa
