/-
  No cell of these rows narrows 'for every input' (looked for: loops, veiled, ifaces, maps, wideKeys, modest, calm, conditions, laid).
  DERIVED. THE GIVEN ROWS OF THIS SEAT. 6 by the template 'for every input the law returns true; each argument reads behind the call as it read before'; 0 by the template 'total and deterministic' (their statements: YtgegddefcgfhgaaTotals.lean).
  GIVEN WITH THE SEED: the statements are not yours to turn. If you find one false, say at which input.
  Laid BY PROGRAM, IN A SANDBOX (cutbox-rows.mjs): the forced cells as the released guide's own fill.sh prints them over the translation 2b1484cf52ae765a… (all of the seat's roots in one cut). By AI agents, Wed Nov 11 2026. No macro, syntax, notation, axiom, sorry.
-/
import Derived.Test.YtgegddefcgfhgaaChecked
import GoSem.Claim
import GoSem.ClaimJoined
import GoSem.ClaimMapViews
import Derived.JoinedTies
import Derived.KernelRfl
namespace Go.Proofs.Ytgegddefcgfhgaa
/- THE CELL 'sum', in the pinned program and in every row, IS THE sha256 OF THE DUMP (.gsa) THAT YtgegddefcgfhgaaProg.lean LOADS. Nothing in Lean hashes anything: it is a label: what it is worth is what the hold of that sum in a sandbox is worth. -/
noncomputable def Try.pinned : Pinned := { name := "ytgegddefcgfhgaa", sum := "2b1484cf52ae765a9c7af30df9656236f01148ff571b193d0aa17bb5bf48f135", checked := Try.checked }
namespace Rows
def none {H : Type} : Left H := { results := [], args := [] }

/-- 'slipwaylaw16.BootpAgain': WHATEVER THE INPUT: true; the input reads as it did. -/
def bootpAgainSpec : ChangeSpec := { name := "bootpAgain", fn := fun _ => fun
  | [d] => { results := [.lit (.bool true)], args := [d] }
  | _ => none }
def bootpAgainRow : OpenClaim := { program := "ytgegddefcgfhgaa", sum := "2b1484cf52ae765a9c7af30df9656236f01148ff571b193d0aa17bb5bf48f135", func := "slipway/slipwaylaw16.BootpAgain", spec := "bootpAgain", inPlace := ["internal/bytealg.IndexByteString", "internal/bytealg.IndexString", "internal/bytealg.IndexByte", "internal/bytealg.Index"], unfollowed := true, recurses := true, named := ["internal/bytealg.MaxLen"], apart := false }
def BootpAgainSaid : Prop := bootpAgainRow.holds Try.pinned (OpenSpec.ofChange bootpAgainSpec)

/-- ITS FALSE NEIGHBOUR: 'it returns false'. Refute it at one input. -/
def bootpAgainWrong : ChangeSpec := { name := "bootpAgain", fn := fun _ => fun
  | [d] => { results := [.lit (.bool false)], args := [d] }
  | _ => none }
def BootpAgainWrongFalsely : Prop := bootpAgainRow.holds Try.pinned (OpenSpec.ofChange bootpAgainWrong)

/-- 'slipwaylaw16.BootpMakes': WHATEVER THE INPUT: true; the input reads as it did. -/
def bootpMakesSpec : ChangeSpec := { name := "bootpMakes", fn := fun _ => fun
  | [d1, d2, d3, d4, d5, d6, d7] => { results := [.lit (.bool true)], args := [d1, d2, d3, d4, d5, d6, d7] }
  | _ => none }
def bootpMakesRow : OpenClaim := { program := "ytgegddefcgfhgaa", sum := "2b1484cf52ae765a9c7af30df9656236f01148ff571b193d0aa17bb5bf48f135", func := "slipway/slipwaylaw16.BootpMakes", spec := "bootpMakes", inPlace := ["internal/bytealg.IndexByteString", "internal/bytealg.IndexString", "internal/bytealg.IndexByte", "internal/bytealg.Index"], unfollowed := true, recurses := true, named := ["internal/bytealg.MaxLen"], apart := false }
def BootpMakesSaid : Prop := bootpMakesRow.holds Try.pinned (OpenSpec.ofChange bootpMakesSpec)

/-- ITS FALSE NEIGHBOUR: 'it returns false'. Refute it at one input. -/
def bootpMakesWrong : ChangeSpec := { name := "bootpMakes", fn := fun _ => fun
  | [d1, d2, d3, d4, d5, d6, d7] => { results := [.lit (.bool false)], args := [d1, d2, d3, d4, d5, d6, d7] }
  | _ => none }
def BootpMakesWrongFalsely : Prop := bootpMakesRow.holds Try.pinned (OpenSpec.ofChange bootpMakesWrong)

/-- 'slipwaylaw16.BootpNumbers': WHATEVER THE INPUT: true; the input reads as it did. -/
def bootpNumbersSpec : ChangeSpec := { name := "bootpNumbers", fn := fun _ => fun
  | [] => { results := [.lit (.bool true)], args := [] }
  | _ => none }
def bootpNumbersRow : OpenClaim := { program := "ytgegddefcgfhgaa", sum := "2b1484cf52ae765a9c7af30df9656236f01148ff571b193d0aa17bb5bf48f135", func := "slipway/slipwaylaw16.BootpNumbers", spec := "bootpNumbers", inPlace := ["internal/bytealg.IndexByteString", "internal/bytealg.IndexString", "internal/bytealg.IndexByte", "internal/bytealg.Index"], unfollowed := true, recurses := true, named := ["internal/bytealg.MaxLen"], apart := false }
def BootpNumbersSaid : Prop := bootpNumbersRow.holds Try.pinned (OpenSpec.ofChange bootpNumbersSpec)

/-- ITS FALSE NEIGHBOUR: 'it returns false'. Refute it at one input. -/
def bootpNumbersWrong : ChangeSpec := { name := "bootpNumbers", fn := fun _ => fun
  | [] => { results := [.lit (.bool false)], args := [] }
  | _ => none }
def BootpNumbersWrongFalsely : Prop := bootpNumbersRow.holds Try.pinned (OpenSpec.ofChange bootpNumbersWrong)

/-- 'slipwaylaw16.BootpEncodes': WHATEVER THE INPUT: true; the input reads as it did. -/
def bootpEncodesSpec : ChangeSpec := { name := "bootpEncodes", fn := fun _ => fun
  | [d] => { results := [.lit (.bool true)], args := [d] }
  | _ => none }
def bootpEncodesRow : OpenClaim := { program := "ytgegddefcgfhgaa", sum := "2b1484cf52ae765a9c7af30df9656236f01148ff571b193d0aa17bb5bf48f135", func := "slipway/slipwaylaw16.BootpEncodes", spec := "bootpEncodes", inPlace := ["internal/bytealg.IndexByteString", "internal/bytealg.IndexString", "internal/bytealg.IndexByte", "internal/bytealg.Index"], unfollowed := true, recurses := true, named := ["internal/bytealg.MaxLen"], apart := false }
def BootpEncodesSaid : Prop := bootpEncodesRow.holds Try.pinned (OpenSpec.ofChange bootpEncodesSpec)

/-- ITS FALSE NEIGHBOUR: 'it returns false'. Refute it at one input. -/
def bootpEncodesWrong : ChangeSpec := { name := "bootpEncodes", fn := fun _ => fun
  | [d] => { results := [.lit (.bool false)], args := [d] }
  | _ => none }
def BootpEncodesWrongFalsely : Prop := bootpEncodesRow.holds Try.pinned (OpenSpec.ofChange bootpEncodesWrong)

/-- 'slipwaylaw16.BootpDecodes': WHATEVER THE INPUT: true; the input reads as it did. -/
def bootpDecodesSpec : ChangeSpec := { name := "bootpDecodes", fn := fun _ => fun
  | [d] => { results := [.lit (.bool true)], args := [d] }
  | _ => none }
def bootpDecodesRow : OpenClaim := { program := "ytgegddefcgfhgaa", sum := "2b1484cf52ae765a9c7af30df9656236f01148ff571b193d0aa17bb5bf48f135", func := "slipway/slipwaylaw16.BootpDecodes", spec := "bootpDecodes", inPlace := ["internal/bytealg.IndexByteString", "internal/bytealg.IndexString", "internal/bytealg.IndexByte", "internal/bytealg.Index"], unfollowed := true, recurses := true, named := ["internal/bytealg.MaxLen"], apart := false }
def BootpDecodesSaid : Prop := bootpDecodesRow.holds Try.pinned (OpenSpec.ofChange bootpDecodesSpec)

/-- ITS FALSE NEIGHBOUR: 'it returns false'. Refute it at one input. -/
def bootpDecodesWrong : ChangeSpec := { name := "bootpDecodes", fn := fun _ => fun
  | [d] => { results := [.lit (.bool false)], args := [d] }
  | _ => none }
def BootpDecodesWrongFalsely : Prop := bootpDecodesRow.holds Try.pinned (OpenSpec.ofChange bootpDecodesWrong)

/-- 'slipwaylaw16.BootpBack': WHATEVER THE INPUT: true; the input reads as it did. -/
def bootpBackSpec : ChangeSpec := { name := "bootpBack", fn := fun _ => fun
  | [d1, d2] => { results := [.lit (.bool true)], args := [d1, d2] }
  | _ => none }
def bootpBackRow : OpenClaim := { program := "ytgegddefcgfhgaa", sum := "2b1484cf52ae765a9c7af30df9656236f01148ff571b193d0aa17bb5bf48f135", func := "slipway/slipwaylaw16.BootpBack", spec := "bootpBack", inPlace := ["internal/bytealg.IndexByteString", "internal/bytealg.IndexString", "internal/bytealg.IndexByte", "internal/bytealg.Index"], unfollowed := true, recurses := true, named := ["internal/bytealg.MaxLen"], apart := false }
def BootpBackSaid : Prop := bootpBackRow.holds Try.pinned (OpenSpec.ofChange bootpBackSpec)

/-- ITS FALSE NEIGHBOUR: 'it returns false'. Refute it at one input. -/
def bootpBackWrong : ChangeSpec := { name := "bootpBack", fn := fun _ => fun
  | [d1, d2] => { results := [.lit (.bool false)], args := [d1, d2] }
  | _ => none }
def BootpBackWrongFalsely : Prop := bootpBackRow.holds Try.pinned (OpenSpec.ofChange bootpBackWrong)

/- THE SECOND FORM. 'bulk': how many values and letters a reading holds, each counted each time it is reached (what is shared counts as often as it is met; a slice's spare places count too). A statement '..UptoSaid' is the law's where the arguments, and the package variables that the reading takes, are together of bulk at most 1048576: NARROWER than '..Said'. Prove '..Said' where nothing that the law and all that it calls make is longer than what came in: it says more and counts as full. Else prove '..UptoSaid'. A law counts once. -/
mutual
def uptoBulk {H : Type} : DataW H → Nat
  | .lit (.string bytes) => bytes.length + 1
  | .lit _ => 1
  | .nil => 1
  | .ptr d => uptoBulk d + 1
  | .slice elems spare => uptoBulkAll elems + uptoBulkAll spare + 1
  | .agg parts => uptoBulkAll parts + 1
  | .iface _ d => uptoBulk d + 1
  | .map entries => uptoBulkEntries entries + 1
  | .held _ => 1
def uptoBulkAll {H : Type} : List (DataW H) → Nat
  | [] => 0
  | d :: r => uptoBulk d + uptoBulkAll r
def uptoBulkEntries {H : Type} : List (Lit × DataW H) → Nat
  | [] => 0
  | x :: r => uptoBulkEntry x + uptoBulkEntries r
def uptoBulkEntry {H : Type} : Lit × DataW H → Nat
  | (.string bytes, d) => bytes.length + uptoBulk d + 1
  | (_, d) => uptoBulk d + 1
 end
def uptoSmall : (H : Type) → List (DataW H) → Bool := fun _ ds => decide (uptoBulkAll ds ≤ 1048576)
def OpenSpec.upto (s : _root_.Go.ChangeSpec) : _root_.Go.OpenSpec := { _root_.Go.OpenSpec.ofChange s with cond := some uptoSmall }

/-- 'slipwaylaw16.BootpAgain', WHERE WHAT IT READS IS OF BULK AT MOST 1048576: true; the input reads as it did. -/
def bootpAgainUptoRow : OpenClaim := { program := "ytgegddefcgfhgaa", sum := "2b1484cf52ae765a9c7af30df9656236f01148ff571b193d0aa17bb5bf48f135", func := "slipway/slipwaylaw16.BootpAgain", spec := "bootpAgain", inPlace := ["internal/bytealg.IndexByteString", "internal/bytealg.IndexString", "internal/bytealg.IndexByte", "internal/bytealg.Index"], unfollowed := true, recurses := true, named := ["internal/bytealg.MaxLen"], apart := false, narrowed := true }
def BootpAgainUptoSaid : Prop := bootpAgainUptoRow.holds Try.pinned (OpenSpec.upto bootpAgainSpec)

/-- 'slipwaylaw16.BootpMakes', WHERE WHAT IT READS IS OF BULK AT MOST 1048576: true; the input reads as it did. -/
def bootpMakesUptoRow : OpenClaim := { program := "ytgegddefcgfhgaa", sum := "2b1484cf52ae765a9c7af30df9656236f01148ff571b193d0aa17bb5bf48f135", func := "slipway/slipwaylaw16.BootpMakes", spec := "bootpMakes", inPlace := ["internal/bytealg.IndexByteString", "internal/bytealg.IndexString", "internal/bytealg.IndexByte", "internal/bytealg.Index"], unfollowed := true, recurses := true, named := ["internal/bytealg.MaxLen"], apart := false, narrowed := true }
def BootpMakesUptoSaid : Prop := bootpMakesUptoRow.holds Try.pinned (OpenSpec.upto bootpMakesSpec)

/-- 'slipwaylaw16.BootpNumbers', WHERE WHAT IT READS IS OF BULK AT MOST 1048576: true; the input reads as it did. -/
def bootpNumbersUptoRow : OpenClaim := { program := "ytgegddefcgfhgaa", sum := "2b1484cf52ae765a9c7af30df9656236f01148ff571b193d0aa17bb5bf48f135", func := "slipway/slipwaylaw16.BootpNumbers", spec := "bootpNumbers", inPlace := ["internal/bytealg.IndexByteString", "internal/bytealg.IndexString", "internal/bytealg.IndexByte", "internal/bytealg.Index"], unfollowed := true, recurses := true, named := ["internal/bytealg.MaxLen"], apart := false, narrowed := true }
def BootpNumbersUptoSaid : Prop := bootpNumbersUptoRow.holds Try.pinned (OpenSpec.upto bootpNumbersSpec)

/-- 'slipwaylaw16.BootpEncodes', WHERE WHAT IT READS IS OF BULK AT MOST 1048576: true; the input reads as it did. -/
def bootpEncodesUptoRow : OpenClaim := { program := "ytgegddefcgfhgaa", sum := "2b1484cf52ae765a9c7af30df9656236f01148ff571b193d0aa17bb5bf48f135", func := "slipway/slipwaylaw16.BootpEncodes", spec := "bootpEncodes", inPlace := ["internal/bytealg.IndexByteString", "internal/bytealg.IndexString", "internal/bytealg.IndexByte", "internal/bytealg.Index"], unfollowed := true, recurses := true, named := ["internal/bytealg.MaxLen"], apart := false, narrowed := true }
def BootpEncodesUptoSaid : Prop := bootpEncodesUptoRow.holds Try.pinned (OpenSpec.upto bootpEncodesSpec)

/-- 'slipwaylaw16.BootpDecodes', WHERE WHAT IT READS IS OF BULK AT MOST 1048576: true; the input reads as it did. -/
def bootpDecodesUptoRow : OpenClaim := { program := "ytgegddefcgfhgaa", sum := "2b1484cf52ae765a9c7af30df9656236f01148ff571b193d0aa17bb5bf48f135", func := "slipway/slipwaylaw16.BootpDecodes", spec := "bootpDecodes", inPlace := ["internal/bytealg.IndexByteString", "internal/bytealg.IndexString", "internal/bytealg.IndexByte", "internal/bytealg.Index"], unfollowed := true, recurses := true, named := ["internal/bytealg.MaxLen"], apart := false, narrowed := true }
def BootpDecodesUptoSaid : Prop := bootpDecodesUptoRow.holds Try.pinned (OpenSpec.upto bootpDecodesSpec)

/-- 'slipwaylaw16.BootpBack', WHERE WHAT IT READS IS OF BULK AT MOST 1048576: true; the input reads as it did. -/
def bootpBackUptoRow : OpenClaim := { program := "ytgegddefcgfhgaa", sum := "2b1484cf52ae765a9c7af30df9656236f01148ff571b193d0aa17bb5bf48f135", func := "slipway/slipwaylaw16.BootpBack", spec := "bootpBack", inPlace := ["internal/bytealg.IndexByteString", "internal/bytealg.IndexString", "internal/bytealg.IndexByte", "internal/bytealg.Index"], unfollowed := true, recurses := true, named := ["internal/bytealg.MaxLen"], apart := false, narrowed := true }
def BootpBackUptoSaid : Prop := bootpBackUptoRow.holds Try.pinned (OpenSpec.upto bootpBackSpec)

end Rows
end Go.Proofs.Ytgegddefcgfhgaa
