/-
  No cell of these rows narrows 'for every input' (looked for: loops, veiled, ifaces, maps, wideKeys, modest, calm, conditions, laid).
  DERIVED. THE GIVEN ROWS OF THIS SEAT. 5 by the template 'for every input the law returns true; each argument reads behind the call as it read before'; 0 by the template 'total and deterministic' (their statements: YtcihljikepielaaTotals.lean).
  GIVEN WITH THE SEED: the statements are not yours to turn. If you find one false, say at which input.
  Laid BY PROGRAM, IN A SANDBOX (cutbox-rows.mjs): the forced cells as the released guide's own fill.sh prints them over the translation 681cb8b30ee99c39… (all of the seat's roots in one cut). By AI agents, Wed Nov 11 2026. No macro, syntax, notation, axiom, sorry.
-/
import Derived.Test.YtcihljikepielaaChecked
import GoSem.Claim
import GoSem.ClaimJoined
import GoSem.ClaimMapViews
import Derived.JoinedTies
import Derived.KernelRfl
namespace Go.Proofs.Ytcihljikepielaa
/- THE CELL 'sum', in the pinned program and in every row, IS THE sha256 OF THE DUMP (.gsa) THAT YtcihljikepielaaProg.lean LOADS. Nothing in Lean hashes anything: it is a label: what it is worth is what the hold of that sum in a sandbox is worth. -/
noncomputable def Try.pinned : Pinned := { name := "ytcihljikepielaa", sum := "681cb8b30ee99c39397e5a295b939aac691a2f4779702c43be01e9062c65f633", checked := Try.checked }
namespace Rows
def none {H : Type} : Left H := { results := [], args := [] }

/-- 'slipwaylaw08.ArpNumbers': WHATEVER THE INPUT: true; the input reads as it did. -/
def arpNumbersSpec : ChangeSpec := { name := "arpNumbers", fn := fun _ => fun
  | [] => { results := [.lit (.bool true)], args := [] }
  | _ => none }
def arpNumbersRow : OpenClaim := { program := "ytcihljikepielaa", sum := "681cb8b30ee99c39397e5a295b939aac691a2f4779702c43be01e9062c65f633", func := "slipway/slipwaylaw08.ArpNumbers", spec := "arpNumbers", apart := false }
def ArpNumbersSaid : Prop := arpNumbersRow.holds Try.pinned (OpenSpec.ofChange arpNumbersSpec)

/-- ITS FALSE NEIGHBOUR: 'it returns false'. Refute it at one input. -/
def arpNumbersWrong : ChangeSpec := { name := "arpNumbers", fn := fun _ => fun
  | [] => { results := [.lit (.bool false)], args := [] }
  | _ => none }
def ArpNumbersWrongFalsely : Prop := arpNumbersRow.holds Try.pinned (OpenSpec.ofChange arpNumbersWrong)

/-- 'slipwaylaw08.ArpEncodes': WHATEVER THE INPUT: true; the input reads as it did. -/
def arpEncodesSpec : ChangeSpec := { name := "arpEncodes", fn := fun _ => fun
  | [d1, d2] => { results := [.lit (.bool true)], args := [d1, d2] }
  | _ => none }
def arpEncodesRow : OpenClaim := { program := "ytcihljikepielaa", sum := "681cb8b30ee99c39397e5a295b939aac691a2f4779702c43be01e9062c65f633", func := "slipway/slipwaylaw08.ArpEncodes", spec := "arpEncodes", apart := false }
def ArpEncodesSaid : Prop := arpEncodesRow.holds Try.pinned (OpenSpec.ofChange arpEncodesSpec)

/-- ITS FALSE NEIGHBOUR: 'it returns false'. Refute it at one input. -/
def arpEncodesWrong : ChangeSpec := { name := "arpEncodes", fn := fun _ => fun
  | [d1, d2] => { results := [.lit (.bool false)], args := [d1, d2] }
  | _ => none }
def ArpEncodesWrongFalsely : Prop := arpEncodesRow.holds Try.pinned (OpenSpec.ofChange arpEncodesWrong)

/-- 'slipwaylaw08.ArpDecodes': WHATEVER THE INPUT: true; the input reads as it did. -/
def arpDecodesSpec : ChangeSpec := { name := "arpDecodes", fn := fun _ => fun
  | [d1, d2] => { results := [.lit (.bool true)], args := [d1, d2] }
  | _ => none }
def arpDecodesRow : OpenClaim := { program := "ytcihljikepielaa", sum := "681cb8b30ee99c39397e5a295b939aac691a2f4779702c43be01e9062c65f633", func := "slipway/slipwaylaw08.ArpDecodes", spec := "arpDecodes", apart := false }
def ArpDecodesSaid : Prop := arpDecodesRow.holds Try.pinned (OpenSpec.ofChange arpDecodesSpec)

/-- ITS FALSE NEIGHBOUR: 'it returns false'. Refute it at one input. -/
def arpDecodesWrong : ChangeSpec := { name := "arpDecodes", fn := fun _ => fun
  | [d1, d2] => { results := [.lit (.bool false)], args := [d1, d2] }
  | _ => none }
def ArpDecodesWrongFalsely : Prop := arpDecodesRow.holds Try.pinned (OpenSpec.ofChange arpDecodesWrong)

/-- 'slipwaylaw08.ArpMakes': WHATEVER THE INPUT: true; the input reads as it did. -/
def arpMakesSpec : ChangeSpec := { name := "arpMakes", fn := fun _ => fun
  | [d1, d2, d3, d4] => { results := [.lit (.bool true)], args := [d1, d2, d3, d4] }
  | _ => none }
def arpMakesRow : OpenClaim := { program := "ytcihljikepielaa", sum := "681cb8b30ee99c39397e5a295b939aac691a2f4779702c43be01e9062c65f633", func := "slipway/slipwaylaw08.ArpMakes", spec := "arpMakes", apart := false }
def ArpMakesSaid : Prop := arpMakesRow.holds Try.pinned (OpenSpec.ofChange arpMakesSpec)

/-- ITS FALSE NEIGHBOUR: 'it returns false'. Refute it at one input. -/
def arpMakesWrong : ChangeSpec := { name := "arpMakes", fn := fun _ => fun
  | [d1, d2, d3, d4] => { results := [.lit (.bool false)], args := [d1, d2, d3, d4] }
  | _ => none }
def ArpMakesWrongFalsely : Prop := arpMakesRow.holds Try.pinned (OpenSpec.ofChange arpMakesWrong)

/-- 'slipwaylaw08.ArpBack': WHATEVER THE INPUT: true; the input reads as it did. -/
def arpBackSpec : ChangeSpec := { name := "arpBack", fn := fun _ => fun
  | [d1, d2, d3, d4, d5] => { results := [.lit (.bool true)], args := [d1, d2, d3, d4, d5] }
  | _ => none }
def arpBackRow : OpenClaim := { program := "ytcihljikepielaa", sum := "681cb8b30ee99c39397e5a295b939aac691a2f4779702c43be01e9062c65f633", func := "slipway/slipwaylaw08.ArpBack", spec := "arpBack", apart := false }
def ArpBackSaid : Prop := arpBackRow.holds Try.pinned (OpenSpec.ofChange arpBackSpec)

/-- ITS FALSE NEIGHBOUR: 'it returns false'. Refute it at one input. -/
def arpBackWrong : ChangeSpec := { name := "arpBack", fn := fun _ => fun
  | [d1, d2, d3, d4, d5] => { results := [.lit (.bool false)], args := [d1, d2, d3, d4, d5] }
  | _ => none }
def ArpBackWrongFalsely : Prop := arpBackRow.holds Try.pinned (OpenSpec.ofChange arpBackWrong)

/- THE SECOND FORM. 'bulk': how many values and letters a reading holds, each counted each time it is reached (what is shared counts as often as it is met; a slice's spare places count too). A statement '..UptoSaid' is the law's where the arguments, and the package variables that the reading takes, are together of bulk at most 1048576: NARROWER than '..Said'. Prove '..Said' where nothing that the law and all that it calls make is longer than what came in: it says more and counts as full. Else prove '..UptoSaid'. A law counts once. -/
mutual
def uptoBulk {H : Type} : DataW H → Nat
  | .lit (.string bytes) => bytes.length + 1
  | .lit _ => 1
  | .nil => 1
  | .ptr d => uptoBulk d + 1
  | .slice elems spare => uptoBulkAll elems + uptoBulkAll spare + 1
  | .agg parts => uptoBulkAll parts + 1
  | .iface _ d => uptoBulk d + 1
  | .map entries => uptoBulkEntries entries + 1
  | .held _ => 1
def uptoBulkAll {H : Type} : List (DataW H) → Nat
  | [] => 0
  | d :: r => uptoBulk d + uptoBulkAll r
def uptoBulkEntries {H : Type} : List (Lit × DataW H) → Nat
  | [] => 0
  | x :: r => uptoBulkEntry x + uptoBulkEntries r
def uptoBulkEntry {H : Type} : Lit × DataW H → Nat
  | (.string bytes, d) => bytes.length + uptoBulk d + 1
  | (_, d) => uptoBulk d + 1
 end
def uptoSmall : (H : Type) → List (DataW H) → Bool := fun _ ds => decide (uptoBulkAll ds ≤ 1048576)
def OpenSpec.upto (s : _root_.Go.ChangeSpec) : _root_.Go.OpenSpec := { _root_.Go.OpenSpec.ofChange s with cond := some uptoSmall }

/-- 'slipwaylaw08.ArpNumbers', WHERE WHAT IT READS IS OF BULK AT MOST 1048576: true; the input reads as it did. -/
def arpNumbersUptoRow : OpenClaim := { program := "ytcihljikepielaa", sum := "681cb8b30ee99c39397e5a295b939aac691a2f4779702c43be01e9062c65f633", func := "slipway/slipwaylaw08.ArpNumbers", spec := "arpNumbers", apart := false, narrowed := true }
def ArpNumbersUptoSaid : Prop := arpNumbersUptoRow.holds Try.pinned (OpenSpec.upto arpNumbersSpec)

/-- 'slipwaylaw08.ArpEncodes', WHERE WHAT IT READS IS OF BULK AT MOST 1048576: true; the input reads as it did. -/
def arpEncodesUptoRow : OpenClaim := { program := "ytcihljikepielaa", sum := "681cb8b30ee99c39397e5a295b939aac691a2f4779702c43be01e9062c65f633", func := "slipway/slipwaylaw08.ArpEncodes", spec := "arpEncodes", apart := false, narrowed := true }
def ArpEncodesUptoSaid : Prop := arpEncodesUptoRow.holds Try.pinned (OpenSpec.upto arpEncodesSpec)

/-- 'slipwaylaw08.ArpDecodes', WHERE WHAT IT READS IS OF BULK AT MOST 1048576: true; the input reads as it did. -/
def arpDecodesUptoRow : OpenClaim := { program := "ytcihljikepielaa", sum := "681cb8b30ee99c39397e5a295b939aac691a2f4779702c43be01e9062c65f633", func := "slipway/slipwaylaw08.ArpDecodes", spec := "arpDecodes", apart := false, narrowed := true }
def ArpDecodesUptoSaid : Prop := arpDecodesUptoRow.holds Try.pinned (OpenSpec.upto arpDecodesSpec)

/-- 'slipwaylaw08.ArpMakes', WHERE WHAT IT READS IS OF BULK AT MOST 1048576: true; the input reads as it did. -/
def arpMakesUptoRow : OpenClaim := { program := "ytcihljikepielaa", sum := "681cb8b30ee99c39397e5a295b939aac691a2f4779702c43be01e9062c65f633", func := "slipway/slipwaylaw08.ArpMakes", spec := "arpMakes", apart := false, narrowed := true }
def ArpMakesUptoSaid : Prop := arpMakesUptoRow.holds Try.pinned (OpenSpec.upto arpMakesSpec)

/-- 'slipwaylaw08.ArpBack', WHERE WHAT IT READS IS OF BULK AT MOST 1048576: true; the input reads as it did. -/
def arpBackUptoRow : OpenClaim := { program := "ytcihljikepielaa", sum := "681cb8b30ee99c39397e5a295b939aac691a2f4779702c43be01e9062c65f633", func := "slipway/slipwaylaw08.ArpBack", spec := "arpBack", apart := false, narrowed := true }
def ArpBackUptoSaid : Prop := arpBackUptoRow.holds Try.pinned (OpenSpec.upto arpBackSpec)

end Rows
end Go.Proofs.Ytcihljikepielaa
