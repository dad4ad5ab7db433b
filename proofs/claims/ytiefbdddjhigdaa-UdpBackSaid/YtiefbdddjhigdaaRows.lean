/-
  No cell of these rows narrows 'for every input' (looked for: loops, veiled, ifaces, maps, wideKeys, modest, calm, conditions, laid).
  DERIVED. THE GIVEN ROWS OF THIS SEAT. 4 by the template 'for every input the law returns true; each argument reads behind the call as it read before'; 0 by the template 'total and deterministic' (their statements: YtiefbdddjhigdaaTotals.lean).
  GIVEN WITH THE SEED: the statements are not yours to turn. If you find one false, say at which input.
  Laid BY PROGRAM, IN A SANDBOX (cutbox-rows.mjs): the forced cells as the released guide's own fill.sh prints them over the translation 07a5649b3086fd15… (all of the seat's roots in one cut). By AI agents, Wed Nov 11 2026. No macro, syntax, notation, axiom, sorry.
-/
import Derived.Test.YtiefbdddjhigdaaChecked
import GoSem.Claim
import GoSem.ClaimJoined
import GoSem.ClaimMapViews
import Derived.JoinedTies
import Derived.KernelRfl
namespace Go.Proofs.Ytiefbdddjhigdaa
/- THE CELL 'sum', in the pinned program and in every row, IS THE sha256 OF THE DUMP (.gsa) THAT YtiefbdddjhigdaaProg.lean LOADS. Nothing in Lean hashes anything: it is a label: what it is worth is what the hold of that sum in a sandbox is worth. -/
noncomputable def Try.pinned : Pinned := { name := "ytiefbdddjhigdaa", sum := "07a5649b3086fd152a8b453e591020e141b4222b120062dca0d1214eb5a9f74c", checked := Try.checked }
namespace Rows
def none {H : Type} : Left H := { results := [], args := [] }

/-- 'slipwaylaw12.UdpNames': WHATEVER THE INPUT: true; the input reads as it did. -/
def udpNamesSpec : ChangeSpec := { name := "udpNames", fn := fun _ => fun
  | [] => { results := [.lit (.bool true)], args := [] }
  | _ => none }
def udpNamesRow : OpenClaim := { program := "ytiefbdddjhigdaa", sum := "07a5649b3086fd152a8b453e591020e141b4222b120062dca0d1214eb5a9f74c", func := "slipway/slipwaylaw12.UdpNames", spec := "udpNames", unfollowed := true, recurses := true, apart := false }
def UdpNamesSaid : Prop := udpNamesRow.holds Try.pinned (OpenSpec.ofChange udpNamesSpec)

/-- ITS FALSE NEIGHBOUR: 'it returns false'. Refute it at one input. -/
def udpNamesWrong : ChangeSpec := { name := "udpNames", fn := fun _ => fun
  | [] => { results := [.lit (.bool false)], args := [] }
  | _ => none }
def UdpNamesWrongFalsely : Prop := udpNamesRow.holds Try.pinned (OpenSpec.ofChange udpNamesWrong)

/-- 'slipwaylaw12.UdpEncodes': WHATEVER THE INPUT: true; the input reads as it did. -/
def udpEncodesSpec : ChangeSpec := { name := "udpEncodes", fn := fun _ => fun
  | [d1, d2, d3, d4] => { results := [.lit (.bool true)], args := [d1, d2, d3, d4] }
  | _ => none }
def udpEncodesRow : OpenClaim := { program := "ytiefbdddjhigdaa", sum := "07a5649b3086fd152a8b453e591020e141b4222b120062dca0d1214eb5a9f74c", func := "slipway/slipwaylaw12.UdpEncodes", spec := "udpEncodes", unfollowed := true, recurses := true, apart := false }
def UdpEncodesSaid : Prop := udpEncodesRow.holds Try.pinned (OpenSpec.ofChange udpEncodesSpec)

/-- ITS FALSE NEIGHBOUR: 'it returns false'. Refute it at one input. -/
def udpEncodesWrong : ChangeSpec := { name := "udpEncodes", fn := fun _ => fun
  | [d1, d2, d3, d4] => { results := [.lit (.bool false)], args := [d1, d2, d3, d4] }
  | _ => none }
def UdpEncodesWrongFalsely : Prop := udpEncodesRow.holds Try.pinned (OpenSpec.ofChange udpEncodesWrong)

/-- 'slipwaylaw12.UdpDecodes': WHATEVER THE INPUT: true; the input reads as it did. -/
def udpDecodesSpec : ChangeSpec := { name := "udpDecodes", fn := fun _ => fun
  | [d1, d2, d3, d4] => { results := [.lit (.bool true)], args := [d1, d2, d3, d4] }
  | _ => none }
def udpDecodesRow : OpenClaim := { program := "ytiefbdddjhigdaa", sum := "07a5649b3086fd152a8b453e591020e141b4222b120062dca0d1214eb5a9f74c", func := "slipway/slipwaylaw12.UdpDecodes", spec := "udpDecodes", unfollowed := true, recurses := true, apart := false }
def UdpDecodesSaid : Prop := udpDecodesRow.holds Try.pinned (OpenSpec.ofChange udpDecodesSpec)

/-- ITS FALSE NEIGHBOUR: 'it returns false'. Refute it at one input. -/
def udpDecodesWrong : ChangeSpec := { name := "udpDecodes", fn := fun _ => fun
  | [d1, d2, d3, d4] => { results := [.lit (.bool false)], args := [d1, d2, d3, d4] }
  | _ => none }
def UdpDecodesWrongFalsely : Prop := udpDecodesRow.holds Try.pinned (OpenSpec.ofChange udpDecodesWrong)

/-- 'slipwaylaw12.UdpBack': WHATEVER THE INPUT: true; the input reads as it did. -/
def udpBackSpec : ChangeSpec := { name := "udpBack", fn := fun _ => fun
  | [d1, d2, d3, d4, d5] => { results := [.lit (.bool true)], args := [d1, d2, d3, d4, d5] }
  | _ => none }
def udpBackRow : OpenClaim := { program := "ytiefbdddjhigdaa", sum := "07a5649b3086fd152a8b453e591020e141b4222b120062dca0d1214eb5a9f74c", func := "slipway/slipwaylaw12.UdpBack", spec := "udpBack", unfollowed := true, recurses := true, apart := false }
def UdpBackSaid : Prop := udpBackRow.holds Try.pinned (OpenSpec.ofChange udpBackSpec)

/-- ITS FALSE NEIGHBOUR: 'it returns false'. Refute it at one input. -/
def udpBackWrong : ChangeSpec := { name := "udpBack", fn := fun _ => fun
  | [d1, d2, d3, d4, d5] => { results := [.lit (.bool false)], args := [d1, d2, d3, d4, d5] }
  | _ => none }
def UdpBackWrongFalsely : Prop := udpBackRow.holds Try.pinned (OpenSpec.ofChange udpBackWrong)

/- THE SECOND FORM. 'bulk': how many values and letters a reading holds, each counted each time it is reached (what is shared counts as often as it is met; a slice's spare places count too). A statement '..UptoSaid' is the law's where the arguments, and the package variables that the reading takes, are together of bulk at most 1048576: NARROWER than '..Said'. Prove '..Said' where nothing that the law and all that it calls make is longer than what came in: it says more and counts as full. Else prove '..UptoSaid'. A law counts once. -/
mutual
def uptoBulk {H : Type} : DataW H → Nat
  | .lit (.string bytes) => bytes.length + 1
  | .lit _ => 1
  | .nil => 1
  | .ptr d => uptoBulk d + 1
  | .slice elems spare => uptoBulkAll elems + uptoBulkAll spare + 1
  | .agg parts => uptoBulkAll parts + 1
  | .iface _ d => uptoBulk d + 1
  | .map entries => uptoBulkEntries entries + 1
  | .held _ => 1
def uptoBulkAll {H : Type} : List (DataW H) → Nat
  | [] => 0
  | d :: r => uptoBulk d + uptoBulkAll r
def uptoBulkEntries {H : Type} : List (Lit × DataW H) → Nat
  | [] => 0
  | x :: r => uptoBulkEntry x + uptoBulkEntries r
def uptoBulkEntry {H : Type} : Lit × DataW H → Nat
  | (.string bytes, d) => bytes.length + uptoBulk d + 1
  | (_, d) => uptoBulk d + 1
 end
def uptoSmall : (H : Type) → List (DataW H) → Bool := fun _ ds => decide (uptoBulkAll ds ≤ 1048576)
def OpenSpec.upto (s : _root_.Go.ChangeSpec) : _root_.Go.OpenSpec := { _root_.Go.OpenSpec.ofChange s with cond := some uptoSmall }

/-- 'slipwaylaw12.UdpNames', WHERE WHAT IT READS IS OF BULK AT MOST 1048576: true; the input reads as it did. -/
def udpNamesUptoRow : OpenClaim := { program := "ytiefbdddjhigdaa", sum := "07a5649b3086fd152a8b453e591020e141b4222b120062dca0d1214eb5a9f74c", func := "slipway/slipwaylaw12.UdpNames", spec := "udpNames", unfollowed := true, recurses := true, apart := false, narrowed := true }
def UdpNamesUptoSaid : Prop := udpNamesUptoRow.holds Try.pinned (OpenSpec.upto udpNamesSpec)

/-- 'slipwaylaw12.UdpEncodes', WHERE WHAT IT READS IS OF BULK AT MOST 1048576: true; the input reads as it did. -/
def udpEncodesUptoRow : OpenClaim := { program := "ytiefbdddjhigdaa", sum := "07a5649b3086fd152a8b453e591020e141b4222b120062dca0d1214eb5a9f74c", func := "slipway/slipwaylaw12.UdpEncodes", spec := "udpEncodes", unfollowed := true, recurses := true, apart := false, narrowed := true }
def UdpEncodesUptoSaid : Prop := udpEncodesUptoRow.holds Try.pinned (OpenSpec.upto udpEncodesSpec)

/-- 'slipwaylaw12.UdpDecodes', WHERE WHAT IT READS IS OF BULK AT MOST 1048576: true; the input reads as it did. -/
def udpDecodesUptoRow : OpenClaim := { program := "ytiefbdddjhigdaa", sum := "07a5649b3086fd152a8b453e591020e141b4222b120062dca0d1214eb5a9f74c", func := "slipway/slipwaylaw12.UdpDecodes", spec := "udpDecodes", unfollowed := true, recurses := true, apart := false, narrowed := true }
def UdpDecodesUptoSaid : Prop := udpDecodesUptoRow.holds Try.pinned (OpenSpec.upto udpDecodesSpec)

/-- 'slipwaylaw12.UdpBack', WHERE WHAT IT READS IS OF BULK AT MOST 1048576: true; the input reads as it did. -/
def udpBackUptoRow : OpenClaim := { program := "ytiefbdddjhigdaa", sum := "07a5649b3086fd152a8b453e591020e141b4222b120062dca0d1214eb5a9f74c", func := "slipway/slipwaylaw12.UdpBack", spec := "udpBack", unfollowed := true, recurses := true, apart := false, narrowed := true }
def UdpBackUptoSaid : Prop := udpBackUptoRow.holds Try.pinned (OpenSpec.upto udpBackSpec)

end Rows
end Go.Proofs.Ytiefbdddjhigdaa
