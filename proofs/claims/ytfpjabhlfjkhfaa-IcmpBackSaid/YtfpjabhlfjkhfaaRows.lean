/-
  No cell of these rows narrows 'for every input' (looked for: loops, veiled, ifaces, maps, wideKeys, modest, calm, conditions, laid).
  DERIVED. THE GIVEN ROWS OF THIS SEAT. 5 by the template 'for every input the law returns true; each argument reads behind the call as it read before'; 0 by the template 'total and deterministic' (their statements: YtfpjabhlfjkhfaaTotals.lean).
  GIVEN WITH THE SEED: the statements are not yours to turn. If you find one false, say at which input.
  Laid BY PROGRAM, IN A SANDBOX (cutbox-rows.mjs): the forced cells as the released guide's own fill.sh prints them over the translation dfd0987f3a7fcf16… (all of the seat's roots in one cut). By AI agents, Wed Nov 11 2026. No macro, syntax, notation, axiom, sorry.
-/
import Derived.Test.YtfpjabhlfjkhfaaChecked
import GoSem.Claim
import GoSem.ClaimJoined
import GoSem.ClaimMapViews
import Derived.JoinedTies
import Derived.KernelRfl
namespace Go.Proofs.Ytfpjabhlfjkhfaa
/- THE CELL 'sum', in the pinned program and in every row, IS THE sha256 OF THE DUMP (.gsa) THAT YtfpjabhlfjkhfaaProg.lean LOADS. Nothing in Lean hashes anything: it is a label: what it is worth is what the hold of that sum in a sandbox is worth. -/
noncomputable def Try.pinned : Pinned := { name := "ytfpjabhlfjkhfaa", sum := "dfd0987f3a7fcf163bbbe122b45cd0e2f1cd0e9967114f40cbb62502e465ac71", checked := Try.checked }
namespace Rows
def none {H : Type} : Left H := { results := [], args := [] }

/-- 'slipwaylaw14.IcmpNumbers': WHATEVER THE INPUT: true; the input reads as it did. -/
def icmpNumbersSpec : ChangeSpec := { name := "icmpNumbers", fn := fun _ => fun
  | [] => { results := [.lit (.bool true)], args := [] }
  | _ => none }
def icmpNumbersRow : OpenClaim := { program := "ytfpjabhlfjkhfaa", sum := "dfd0987f3a7fcf163bbbe122b45cd0e2f1cd0e9967114f40cbb62502e465ac71", func := "slipway/slipwaylaw14.IcmpNumbers", spec := "icmpNumbers", apart := false }
def IcmpNumbersSaid : Prop := icmpNumbersRow.holds Try.pinned (OpenSpec.ofChange icmpNumbersSpec)

/-- ITS FALSE NEIGHBOUR: 'it returns false'. Refute it at one input. -/
def icmpNumbersWrong : ChangeSpec := { name := "icmpNumbers", fn := fun _ => fun
  | [] => { results := [.lit (.bool false)], args := [] }
  | _ => none }
def IcmpNumbersWrongFalsely : Prop := icmpNumbersRow.holds Try.pinned (OpenSpec.ofChange icmpNumbersWrong)

/-- 'slipwaylaw14.IcmpEncodes': WHATEVER THE INPUT: true; the input reads as it did. -/
def icmpEncodesSpec : ChangeSpec := { name := "icmpEncodes", fn := fun _ => fun
  | [d1, d2] => { results := [.lit (.bool true)], args := [d1, d2] }
  | _ => none }
def icmpEncodesRow : OpenClaim := { program := "ytfpjabhlfjkhfaa", sum := "dfd0987f3a7fcf163bbbe122b45cd0e2f1cd0e9967114f40cbb62502e465ac71", func := "slipway/slipwaylaw14.IcmpEncodes", spec := "icmpEncodes", apart := false }
def IcmpEncodesSaid : Prop := icmpEncodesRow.holds Try.pinned (OpenSpec.ofChange icmpEncodesSpec)

/-- ITS FALSE NEIGHBOUR: 'it returns false'. Refute it at one input. -/
def icmpEncodesWrong : ChangeSpec := { name := "icmpEncodes", fn := fun _ => fun
  | [d1, d2] => { results := [.lit (.bool false)], args := [d1, d2] }
  | _ => none }
def IcmpEncodesWrongFalsely : Prop := icmpEncodesRow.holds Try.pinned (OpenSpec.ofChange icmpEncodesWrong)

/-- 'slipwaylaw14.IcmpDecodes': WHATEVER THE INPUT: true; the input reads as it did. -/
def icmpDecodesSpec : ChangeSpec := { name := "icmpDecodes", fn := fun _ => fun
  | [d1, d2] => { results := [.lit (.bool true)], args := [d1, d2] }
  | _ => none }
def icmpDecodesRow : OpenClaim := { program := "ytfpjabhlfjkhfaa", sum := "dfd0987f3a7fcf163bbbe122b45cd0e2f1cd0e9967114f40cbb62502e465ac71", func := "slipway/slipwaylaw14.IcmpDecodes", spec := "icmpDecodes", apart := false }
def IcmpDecodesSaid : Prop := icmpDecodesRow.holds Try.pinned (OpenSpec.ofChange icmpDecodesSpec)

/-- ITS FALSE NEIGHBOUR: 'it returns false'. Refute it at one input. -/
def icmpDecodesWrong : ChangeSpec := { name := "icmpDecodes", fn := fun _ => fun
  | [d1, d2] => { results := [.lit (.bool false)], args := [d1, d2] }
  | _ => none }
def IcmpDecodesWrongFalsely : Prop := icmpDecodesRow.holds Try.pinned (OpenSpec.ofChange icmpDecodesWrong)

/-- 'slipwaylaw14.IcmpAnswers': WHATEVER THE INPUT: true; the input reads as it did. -/
def icmpAnswersSpec : ChangeSpec := { name := "icmpAnswers", fn := fun _ => fun
  | [d1, d2, d3] => { results := [.lit (.bool true)], args := [d1, d2, d3] }
  | _ => none }
def icmpAnswersRow : OpenClaim := { program := "ytfpjabhlfjkhfaa", sum := "dfd0987f3a7fcf163bbbe122b45cd0e2f1cd0e9967114f40cbb62502e465ac71", func := "slipway/slipwaylaw14.IcmpAnswers", spec := "icmpAnswers", apart := false }
def IcmpAnswersSaid : Prop := icmpAnswersRow.holds Try.pinned (OpenSpec.ofChange icmpAnswersSpec)

/-- ITS FALSE NEIGHBOUR: 'it returns false'. Refute it at one input. -/
def icmpAnswersWrong : ChangeSpec := { name := "icmpAnswers", fn := fun _ => fun
  | [d1, d2, d3] => { results := [.lit (.bool false)], args := [d1, d2, d3] }
  | _ => none }
def IcmpAnswersWrongFalsely : Prop := icmpAnswersRow.holds Try.pinned (OpenSpec.ofChange icmpAnswersWrong)

/-- 'slipwaylaw14.IcmpBack': WHATEVER THE INPUT: true; the input reads as it did. -/
def icmpBackSpec : ChangeSpec := { name := "icmpBack", fn := fun _ => fun
  | [d1, d2, d3, d4] => { results := [.lit (.bool true)], args := [d1, d2, d3, d4] }
  | _ => none }
def icmpBackRow : OpenClaim := { program := "ytfpjabhlfjkhfaa", sum := "dfd0987f3a7fcf163bbbe122b45cd0e2f1cd0e9967114f40cbb62502e465ac71", func := "slipway/slipwaylaw14.IcmpBack", spec := "icmpBack", apart := false }
def IcmpBackSaid : Prop := icmpBackRow.holds Try.pinned (OpenSpec.ofChange icmpBackSpec)

/-- ITS FALSE NEIGHBOUR: 'it returns false'. Refute it at one input. -/
def icmpBackWrong : ChangeSpec := { name := "icmpBack", fn := fun _ => fun
  | [d1, d2, d3, d4] => { results := [.lit (.bool false)], args := [d1, d2, d3, d4] }
  | _ => none }
def IcmpBackWrongFalsely : Prop := icmpBackRow.holds Try.pinned (OpenSpec.ofChange icmpBackWrong)

/- THE SECOND FORM. 'bulk': how many values and letters a reading holds, each counted each time it is reached (what is shared counts as often as it is met; a slice's spare places count too). A statement '..UptoSaid' is the law's where the arguments, and the package variables that the reading takes, are together of bulk at most 1048576: NARROWER than '..Said'. Prove '..Said' where nothing that the law and all that it calls make is longer than what came in: it says more and counts as full. Else prove '..UptoSaid'. A law counts once. -/
mutual
def uptoBulk {H : Type} : DataW H → Nat
  | .lit (.string bytes) => bytes.length + 1
  | .lit _ => 1
  | .nil => 1
  | .ptr d => uptoBulk d + 1
  | .slice elems spare => uptoBulkAll elems + uptoBulkAll spare + 1
  | .agg parts => uptoBulkAll parts + 1
  | .iface _ d => uptoBulk d + 1
  | .map entries => uptoBulkEntries entries + 1
  | .held _ => 1
def uptoBulkAll {H : Type} : List (DataW H) → Nat
  | [] => 0
  | d :: r => uptoBulk d + uptoBulkAll r
def uptoBulkEntries {H : Type} : List (Lit × DataW H) → Nat
  | [] => 0
  | x :: r => uptoBulkEntry x + uptoBulkEntries r
def uptoBulkEntry {H : Type} : Lit × DataW H → Nat
  | (.string bytes, d) => bytes.length + uptoBulk d + 1
  | (_, d) => uptoBulk d + 1
 end
def uptoSmall : (H : Type) → List (DataW H) → Bool := fun _ ds => decide (uptoBulkAll ds ≤ 1048576)
def OpenSpec.upto (s : _root_.Go.ChangeSpec) : _root_.Go.OpenSpec := { _root_.Go.OpenSpec.ofChange s with cond := some uptoSmall }

/-- 'slipwaylaw14.IcmpNumbers', WHERE WHAT IT READS IS OF BULK AT MOST 1048576: true; the input reads as it did. -/
def icmpNumbersUptoRow : OpenClaim := { program := "ytfpjabhlfjkhfaa", sum := "dfd0987f3a7fcf163bbbe122b45cd0e2f1cd0e9967114f40cbb62502e465ac71", func := "slipway/slipwaylaw14.IcmpNumbers", spec := "icmpNumbers", apart := false, narrowed := true }
def IcmpNumbersUptoSaid : Prop := icmpNumbersUptoRow.holds Try.pinned (OpenSpec.upto icmpNumbersSpec)

/-- 'slipwaylaw14.IcmpEncodes', WHERE WHAT IT READS IS OF BULK AT MOST 1048576: true; the input reads as it did. -/
def icmpEncodesUptoRow : OpenClaim := { program := "ytfpjabhlfjkhfaa", sum := "dfd0987f3a7fcf163bbbe122b45cd0e2f1cd0e9967114f40cbb62502e465ac71", func := "slipway/slipwaylaw14.IcmpEncodes", spec := "icmpEncodes", apart := false, narrowed := true }
def IcmpEncodesUptoSaid : Prop := icmpEncodesUptoRow.holds Try.pinned (OpenSpec.upto icmpEncodesSpec)

/-- 'slipwaylaw14.IcmpDecodes', WHERE WHAT IT READS IS OF BULK AT MOST 1048576: true; the input reads as it did. -/
def icmpDecodesUptoRow : OpenClaim := { program := "ytfpjabhlfjkhfaa", sum := "dfd0987f3a7fcf163bbbe122b45cd0e2f1cd0e9967114f40cbb62502e465ac71", func := "slipway/slipwaylaw14.IcmpDecodes", spec := "icmpDecodes", apart := false, narrowed := true }
def IcmpDecodesUptoSaid : Prop := icmpDecodesUptoRow.holds Try.pinned (OpenSpec.upto icmpDecodesSpec)

/-- 'slipwaylaw14.IcmpAnswers', WHERE WHAT IT READS IS OF BULK AT MOST 1048576: true; the input reads as it did. -/
def icmpAnswersUptoRow : OpenClaim := { program := "ytfpjabhlfjkhfaa", sum := "dfd0987f3a7fcf163bbbe122b45cd0e2f1cd0e9967114f40cbb62502e465ac71", func := "slipway/slipwaylaw14.IcmpAnswers", spec := "icmpAnswers", apart := false, narrowed := true }
def IcmpAnswersUptoSaid : Prop := icmpAnswersUptoRow.holds Try.pinned (OpenSpec.upto icmpAnswersSpec)

/-- 'slipwaylaw14.IcmpBack', WHERE WHAT IT READS IS OF BULK AT MOST 1048576: true; the input reads as it did. -/
def icmpBackUptoRow : OpenClaim := { program := "ytfpjabhlfjkhfaa", sum := "dfd0987f3a7fcf163bbbe122b45cd0e2f1cd0e9967114f40cbb62502e465ac71", func := "slipway/slipwaylaw14.IcmpBack", spec := "icmpBack", apart := false, narrowed := true }
def IcmpBackUptoSaid : Prop := icmpBackUptoRow.holds Try.pinned (OpenSpec.upto icmpBackSpec)

end Rows
end Go.Proofs.Ytfpjabhlfjkhfaa
