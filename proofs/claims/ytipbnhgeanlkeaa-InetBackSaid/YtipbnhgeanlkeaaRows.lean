/-
  No cell of these rows narrows 'for every input' (looked for: loops, veiled, ifaces, maps, wideKeys, modest, calm, conditions, laid).
  DERIVED. THE GIVEN ROWS OF THIS SEAT. 5 by the template 'for every input the law returns true; each argument reads behind the call as it read before'; 0 by the template 'total and deterministic' (their statements: YtipbnhgeanlkeaaTotals.lean).
  GIVEN WITH THE SEED: the statements are not yours to turn. If you find one false, say at which input.
  Laid BY PROGRAM, IN A SANDBOX (cutbox-rows.mjs): the forced cells as the released guide's own fill.sh prints them over the translation 05a30e0a5fca710a… (all of the seat's roots in one cut). By AI agents, Wed Nov 11 2026. No macro, syntax, notation, axiom, sorry.
-/
import Derived.Test.YtipbnhgeanlkeaaChecked
import GoSem.Claim
import GoSem.ClaimJoined
import GoSem.ClaimMapViews
import Derived.JoinedTies
import Derived.KernelRfl
namespace Go.Proofs.Ytipbnhgeanlkeaa
/- THE CELL 'sum', in the pinned program and in every row, IS THE sha256 OF THE DUMP (.gsa) THAT YtipbnhgeanlkeaaProg.lean LOADS. Nothing in Lean hashes anything: it is a label: what it is worth is what the hold of that sum in a sandbox is worth. -/
noncomputable def Try.pinned : Pinned := { name := "ytipbnhgeanlkeaa", sum := "05a30e0a5fca710a258b003afa4a343ad4a8a86b4f856e9e6ffa3792c412d378", checked := Try.checked }
namespace Rows
def none {H : Type} : Left H := { results := [], args := [] }

/-- 'slipwaylaw09.InetNames': WHATEVER THE INPUT: true; the input reads as it did. -/
def inetNamesSpec : ChangeSpec := { name := "inetNames", fn := fun _ => fun
  | [] => { results := [.lit (.bool true)], args := [] }
  | _ => none }
def inetNamesRow : OpenClaim := { program := "ytipbnhgeanlkeaa", sum := "05a30e0a5fca710a258b003afa4a343ad4a8a86b4f856e9e6ffa3792c412d378", func := "slipway/slipwaylaw09.InetNames", spec := "inetNames", unfollowed := true, recurses := true, apart := false }
def InetNamesSaid : Prop := inetNamesRow.holds Try.pinned (OpenSpec.ofChange inetNamesSpec)

/-- ITS FALSE NEIGHBOUR: 'it returns false'. Refute it at one input. -/
def inetNamesWrong : ChangeSpec := { name := "inetNames", fn := fun _ => fun
  | [] => { results := [.lit (.bool false)], args := [] }
  | _ => none }
def InetNamesWrongFalsely : Prop := inetNamesRow.holds Try.pinned (OpenSpec.ofChange inetNamesWrong)

/-- 'slipwaylaw09.InetEncodes': WHATEVER THE INPUT: true; the input reads as it did. -/
def inetEncodesSpec : ChangeSpec := { name := "inetEncodes", fn := fun _ => fun
  | [d1, d2, d3, d4] => { results := [.lit (.bool true)], args := [d1, d2, d3, d4] }
  | _ => none }
def inetEncodesRow : OpenClaim := { program := "ytipbnhgeanlkeaa", sum := "05a30e0a5fca710a258b003afa4a343ad4a8a86b4f856e9e6ffa3792c412d378", func := "slipway/slipwaylaw09.InetEncodes", spec := "inetEncodes", unfollowed := true, recurses := true, apart := false }
def InetEncodesSaid : Prop := inetEncodesRow.holds Try.pinned (OpenSpec.ofChange inetEncodesSpec)

/-- ITS FALSE NEIGHBOUR: 'it returns false'. Refute it at one input. -/
def inetEncodesWrong : ChangeSpec := { name := "inetEncodes", fn := fun _ => fun
  | [d1, d2, d3, d4] => { results := [.lit (.bool false)], args := [d1, d2, d3, d4] }
  | _ => none }
def InetEncodesWrongFalsely : Prop := inetEncodesRow.holds Try.pinned (OpenSpec.ofChange inetEncodesWrong)

/-- 'slipwaylaw09.InetDecodes': WHATEVER THE INPUT: true; the input reads as it did. -/
def inetDecodesSpec : ChangeSpec := { name := "inetDecodes", fn := fun _ => fun
  | [d1, d2] => { results := [.lit (.bool true)], args := [d1, d2] }
  | _ => none }
def inetDecodesRow : OpenClaim := { program := "ytipbnhgeanlkeaa", sum := "05a30e0a5fca710a258b003afa4a343ad4a8a86b4f856e9e6ffa3792c412d378", func := "slipway/slipwaylaw09.InetDecodes", spec := "inetDecodes", unfollowed := true, recurses := true, apart := false }
def InetDecodesSaid : Prop := inetDecodesRow.holds Try.pinned (OpenSpec.ofChange inetDecodesSpec)

/-- ITS FALSE NEIGHBOUR: 'it returns false'. Refute it at one input. -/
def inetDecodesWrong : ChangeSpec := { name := "inetDecodes", fn := fun _ => fun
  | [d1, d2] => { results := [.lit (.bool false)], args := [d1, d2] }
  | _ => none }
def InetDecodesWrongFalsely : Prop := inetDecodesRow.holds Try.pinned (OpenSpec.ofChange inetDecodesWrong)

/-- 'slipwaylaw09.InetBack': WHATEVER THE INPUT: true; the input reads as it did. -/
def inetBackSpec : ChangeSpec := { name := "inetBack", fn := fun _ => fun
  | [d1, d2, d3] => { results := [.lit (.bool true)], args := [d1, d2, d3] }
  | _ => none }
def inetBackRow : OpenClaim := { program := "ytipbnhgeanlkeaa", sum := "05a30e0a5fca710a258b003afa4a343ad4a8a86b4f856e9e6ffa3792c412d378", func := "slipway/slipwaylaw09.InetBack", spec := "inetBack", unfollowed := true, recurses := true, apart := false }
def InetBackSaid : Prop := inetBackRow.holds Try.pinned (OpenSpec.ofChange inetBackSpec)

/-- ITS FALSE NEIGHBOUR: 'it returns false'. Refute it at one input. -/
def inetBackWrong : ChangeSpec := { name := "inetBack", fn := fun _ => fun
  | [d1, d2, d3] => { results := [.lit (.bool false)], args := [d1, d2, d3] }
  | _ => none }
def InetBackWrongFalsely : Prop := inetBackRow.holds Try.pinned (OpenSpec.ofChange inetBackWrong)

/-- 'slipwaylaw09.InetTells': WHATEVER THE INPUT: true; the input reads as it did. -/
def inetTellsSpec : ChangeSpec := { name := "inetTells", fn := fun _ => fun
  | [d1, d2, d3] => { results := [.lit (.bool true)], args := [d1, d2, d3] }
  | _ => none }
def inetTellsRow : OpenClaim := { program := "ytipbnhgeanlkeaa", sum := "05a30e0a5fca710a258b003afa4a343ad4a8a86b4f856e9e6ffa3792c412d378", func := "slipway/slipwaylaw09.InetTells", spec := "inetTells", unfollowed := true, recurses := true, apart := false }
def InetTellsSaid : Prop := inetTellsRow.holds Try.pinned (OpenSpec.ofChange inetTellsSpec)

/-- ITS FALSE NEIGHBOUR: 'it returns false'. Refute it at one input. -/
def inetTellsWrong : ChangeSpec := { name := "inetTells", fn := fun _ => fun
  | [d1, d2, d3] => { results := [.lit (.bool false)], args := [d1, d2, d3] }
  | _ => none }
def InetTellsWrongFalsely : Prop := inetTellsRow.holds Try.pinned (OpenSpec.ofChange inetTellsWrong)

/- THE SECOND FORM. 'bulk': how many values and letters a reading holds, each counted each time it is reached (what is shared counts as often as it is met; a slice's spare places count too). A statement '..UptoSaid' is the law's where the arguments, and the package variables that the reading takes, are together of bulk at most 1048576: NARROWER than '..Said'. Prove '..Said' where nothing that the law and all that it calls make is longer than what came in: it says more and counts as full. Else prove '..UptoSaid'. A law counts once. -/
mutual
def uptoBulk {H : Type} : DataW H → Nat
  | .lit (.string bytes) => bytes.length + 1
  | .lit _ => 1
  | .nil => 1
  | .ptr d => uptoBulk d + 1
  | .slice elems spare => uptoBulkAll elems + uptoBulkAll spare + 1
  | .agg parts => uptoBulkAll parts + 1
  | .iface _ d => uptoBulk d + 1
  | .map entries => uptoBulkEntries entries + 1
  | .held _ => 1
def uptoBulkAll {H : Type} : List (DataW H) → Nat
  | [] => 0
  | d :: r => uptoBulk d + uptoBulkAll r
def uptoBulkEntries {H : Type} : List (Lit × DataW H) → Nat
  | [] => 0
  | x :: r => uptoBulkEntry x + uptoBulkEntries r
def uptoBulkEntry {H : Type} : Lit × DataW H → Nat
  | (.string bytes, d) => bytes.length + uptoBulk d + 1
  | (_, d) => uptoBulk d + 1
 end
def uptoSmall : (H : Type) → List (DataW H) → Bool := fun _ ds => decide (uptoBulkAll ds ≤ 1048576)
def OpenSpec.upto (s : _root_.Go.ChangeSpec) : _root_.Go.OpenSpec := { _root_.Go.OpenSpec.ofChange s with cond := some uptoSmall }

/-- 'slipwaylaw09.InetNames', WHERE WHAT IT READS IS OF BULK AT MOST 1048576: true; the input reads as it did. -/
def inetNamesUptoRow : OpenClaim := { program := "ytipbnhgeanlkeaa", sum := "05a30e0a5fca710a258b003afa4a343ad4a8a86b4f856e9e6ffa3792c412d378", func := "slipway/slipwaylaw09.InetNames", spec := "inetNames", unfollowed := true, recurses := true, apart := false, narrowed := true }
def InetNamesUptoSaid : Prop := inetNamesUptoRow.holds Try.pinned (OpenSpec.upto inetNamesSpec)

/-- 'slipwaylaw09.InetEncodes', WHERE WHAT IT READS IS OF BULK AT MOST 1048576: true; the input reads as it did. -/
def inetEncodesUptoRow : OpenClaim := { program := "ytipbnhgeanlkeaa", sum := "05a30e0a5fca710a258b003afa4a343ad4a8a86b4f856e9e6ffa3792c412d378", func := "slipway/slipwaylaw09.InetEncodes", spec := "inetEncodes", unfollowed := true, recurses := true, apart := false, narrowed := true }
def InetEncodesUptoSaid : Prop := inetEncodesUptoRow.holds Try.pinned (OpenSpec.upto inetEncodesSpec)

/-- 'slipwaylaw09.InetDecodes', WHERE WHAT IT READS IS OF BULK AT MOST 1048576: true; the input reads as it did. -/
def inetDecodesUptoRow : OpenClaim := { program := "ytipbnhgeanlkeaa", sum := "05a30e0a5fca710a258b003afa4a343ad4a8a86b4f856e9e6ffa3792c412d378", func := "slipway/slipwaylaw09.InetDecodes", spec := "inetDecodes", unfollowed := true, recurses := true, apart := false, narrowed := true }
def InetDecodesUptoSaid : Prop := inetDecodesUptoRow.holds Try.pinned (OpenSpec.upto inetDecodesSpec)

/-- 'slipwaylaw09.InetBack', WHERE WHAT IT READS IS OF BULK AT MOST 1048576: true; the input reads as it did. -/
def inetBackUptoRow : OpenClaim := { program := "ytipbnhgeanlkeaa", sum := "05a30e0a5fca710a258b003afa4a343ad4a8a86b4f856e9e6ffa3792c412d378", func := "slipway/slipwaylaw09.InetBack", spec := "inetBack", unfollowed := true, recurses := true, apart := false, narrowed := true }
def InetBackUptoSaid : Prop := inetBackUptoRow.holds Try.pinned (OpenSpec.upto inetBackSpec)

/-- 'slipwaylaw09.InetTells', WHERE WHAT IT READS IS OF BULK AT MOST 1048576: true; the input reads as it did. -/
def inetTellsUptoRow : OpenClaim := { program := "ytipbnhgeanlkeaa", sum := "05a30e0a5fca710a258b003afa4a343ad4a8a86b4f856e9e6ffa3792c412d378", func := "slipway/slipwaylaw09.InetTells", spec := "inetTells", unfollowed := true, recurses := true, apart := false, narrowed := true }
def InetTellsUptoSaid : Prop := inetTellsUptoRow.holds Try.pinned (OpenSpec.upto inetTellsSpec)

end Rows
end Go.Proofs.Ytipbnhgeanlkeaa
