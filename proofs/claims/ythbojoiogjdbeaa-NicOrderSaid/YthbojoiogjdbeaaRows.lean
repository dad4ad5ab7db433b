/-
  No cell of these rows narrows 'for every input' (looked for: loops, veiled, ifaces, maps, wideKeys, modest, calm, conditions, laid).
  DERIVED. THE GIVEN ROWS OF THIS SEAT. 3 by the template 'for every input the law returns true; each argument reads behind the call as it read before'; 0 by the template 'total and deterministic' (their statements: YthbojoiogjdbeaaTotals.lean).
  GIVEN WITH THE SEED: the statements are not yours to turn. If you find one false, say at which input.
  Laid BY PROGRAM, IN A SANDBOX (cutbox-rows.mjs): the forced cells as the released guide's own fill.sh prints them over the translation d58dc55346cf6b74… (all of the seat's roots in one cut). By AI agents, Wed Nov 11 2026. No macro, syntax, notation, axiom, sorry.
-/
import Derived.Test.YthbojoiogjdbeaaChecked
import GoSem.Claim
import GoSem.ClaimJoined
import GoSem.ClaimMapViews
import Derived.JoinedTies
import Derived.KernelRfl
namespace Go.Proofs.Ythbojoiogjdbeaa
/- THE CELL 'sum', in the pinned program and in every row, IS THE sha256 OF THE DUMP (.gsa) THAT YthbojoiogjdbeaaProg.lean LOADS. Nothing in Lean hashes anything: it is a label: what it is worth is what the hold of that sum in a sandbox is worth. -/
noncomputable def Try.pinned : Pinned := { name := "ythbojoiogjdbeaa", sum := "d58dc55346cf6b74cda16bee8038775db7ead7107edf7862bf62af06f55be67c", checked := Try.checked }
namespace Rows
def none {H : Type} : Left H := { results := [], args := [] }

/-- 'slipwaylaw05.NicNumbers': WHATEVER THE INPUT: true; the input reads as it did. -/
def nicNumbersSpec : ChangeSpec := { name := "nicNumbers", fn := fun _ => fun
  | [] => { results := [.lit (.bool true)], args := [] }
  | _ => none }
def nicNumbersRow : OpenClaim := { program := "ythbojoiogjdbeaa", sum := "d58dc55346cf6b74cda16bee8038775db7ead7107edf7862bf62af06f55be67c", func := "slipway/slipwaylaw05.NicNumbers", spec := "nicNumbers", apart := false }
def NicNumbersSaid : Prop := nicNumbersRow.holds Try.pinned (OpenSpec.ofChange nicNumbersSpec)

/-- ITS FALSE NEIGHBOUR: 'it returns false'. Refute it at one input. -/
def nicNumbersWrong : ChangeSpec := { name := "nicNumbers", fn := fun _ => fun
  | [] => { results := [.lit (.bool false)], args := [] }
  | _ => none }
def NicNumbersWrongFalsely : Prop := nicNumbersRow.holds Try.pinned (OpenSpec.ofChange nicNumbersWrong)

/-- 'slipwaylaw05.NicOrder': WHATEVER THE INPUT: true; the input reads as it did. -/
def nicOrderSpec : ChangeSpec := { name := "nicOrder", fn := fun _ => fun
  | [d1, d2, d3, d4] => { results := [.lit (.bool true)], args := [d1, d2, d3, d4] }
  | _ => none }
def nicOrderRow : OpenClaim := { program := "ythbojoiogjdbeaa", sum := "d58dc55346cf6b74cda16bee8038775db7ead7107edf7862bf62af06f55be67c", func := "slipway/slipwaylaw05.NicOrder", spec := "nicOrder", apart := false }
def NicOrderSaid : Prop := nicOrderRow.holds Try.pinned (OpenSpec.ofChange nicOrderSpec)

/-- ITS FALSE NEIGHBOUR: 'it returns false'. Refute it at one input. -/
def nicOrderWrong : ChangeSpec := { name := "nicOrder", fn := fun _ => fun
  | [d1, d2, d3, d4] => { results := [.lit (.bool false)], args := [d1, d2, d3, d4] }
  | _ => none }
def NicOrderWrongFalsely : Prop := nicOrderRow.holds Try.pinned (OpenSpec.ofChange nicOrderWrong)

/-- 'slipwaylaw05.NicPlays': WHATEVER THE INPUT: true; the input reads as it did. -/
def nicPlaysSpec : ChangeSpec := { name := "nicPlays", fn := fun _ => fun
  | [d1, d2, d3, d4] => { results := [.lit (.bool true)], args := [d1, d2, d3, d4] }
  | _ => none }
def nicPlaysRow : OpenClaim := { program := "ythbojoiogjdbeaa", sum := "d58dc55346cf6b74cda16bee8038775db7ead7107edf7862bf62af06f55be67c", func := "slipway/slipwaylaw05.NicPlays", spec := "nicPlays", apart := false }
def NicPlaysSaid : Prop := nicPlaysRow.holds Try.pinned (OpenSpec.ofChange nicPlaysSpec)

/-- ITS FALSE NEIGHBOUR: 'it returns false'. Refute it at one input. -/
def nicPlaysWrong : ChangeSpec := { name := "nicPlays", fn := fun _ => fun
  | [d1, d2, d3, d4] => { results := [.lit (.bool false)], args := [d1, d2, d3, d4] }
  | _ => none }
def NicPlaysWrongFalsely : Prop := nicPlaysRow.holds Try.pinned (OpenSpec.ofChange nicPlaysWrong)

/- THE SECOND FORM. 'bulk': how many values and letters a reading holds, each counted each time it is reached (what is shared counts as often as it is met; a slice's spare places count too). A statement '..UptoSaid' is the law's where the arguments, and the package variables that the reading takes, are together of bulk at most 1048576: NARROWER than '..Said'. Prove '..Said' where nothing that the law and all that it calls make is longer than what came in: it says more and counts as full. Else prove '..UptoSaid'. A law counts once. -/
mutual
def uptoBulk {H : Type} : DataW H → Nat
  | .lit (.string bytes) => bytes.length + 1
  | .lit _ => 1
  | .nil => 1
  | .ptr d => uptoBulk d + 1
  | .slice elems spare => uptoBulkAll elems + uptoBulkAll spare + 1
  | .agg parts => uptoBulkAll parts + 1
  | .iface _ d => uptoBulk d + 1
  | .map entries => uptoBulkEntries entries + 1
  | .held _ => 1
def uptoBulkAll {H : Type} : List (DataW H) → Nat
  | [] => 0
  | d :: r => uptoBulk d + uptoBulkAll r
def uptoBulkEntries {H : Type} : List (Lit × DataW H) → Nat
  | [] => 0
  | x :: r => uptoBulkEntry x + uptoBulkEntries r
def uptoBulkEntry {H : Type} : Lit × DataW H → Nat
  | (.string bytes, d) => bytes.length + uptoBulk d + 1
  | (_, d) => uptoBulk d + 1
 end
def uptoSmall : (H : Type) → List (DataW H) → Bool := fun _ ds => decide (uptoBulkAll ds ≤ 1048576)
def OpenSpec.upto (s : _root_.Go.ChangeSpec) : _root_.Go.OpenSpec := { _root_.Go.OpenSpec.ofChange s with cond := some uptoSmall }

/-- 'slipwaylaw05.NicNumbers', WHERE WHAT IT READS IS OF BULK AT MOST 1048576: true; the input reads as it did. -/
def nicNumbersUptoRow : OpenClaim := { program := "ythbojoiogjdbeaa", sum := "d58dc55346cf6b74cda16bee8038775db7ead7107edf7862bf62af06f55be67c", func := "slipway/slipwaylaw05.NicNumbers", spec := "nicNumbers", apart := false, narrowed := true }
def NicNumbersUptoSaid : Prop := nicNumbersUptoRow.holds Try.pinned (OpenSpec.upto nicNumbersSpec)

/-- 'slipwaylaw05.NicOrder', WHERE WHAT IT READS IS OF BULK AT MOST 1048576: true; the input reads as it did. -/
def nicOrderUptoRow : OpenClaim := { program := "ythbojoiogjdbeaa", sum := "d58dc55346cf6b74cda16bee8038775db7ead7107edf7862bf62af06f55be67c", func := "slipway/slipwaylaw05.NicOrder", spec := "nicOrder", apart := false, narrowed := true }
def NicOrderUptoSaid : Prop := nicOrderUptoRow.holds Try.pinned (OpenSpec.upto nicOrderSpec)

/-- 'slipwaylaw05.NicPlays', WHERE WHAT IT READS IS OF BULK AT MOST 1048576: true; the input reads as it did. -/
def nicPlaysUptoRow : OpenClaim := { program := "ythbojoiogjdbeaa", sum := "d58dc55346cf6b74cda16bee8038775db7ead7107edf7862bf62af06f55be67c", func := "slipway/slipwaylaw05.NicPlays", spec := "nicPlays", apart := false, narrowed := true }
def NicPlaysUptoSaid : Prop := nicPlaysUptoRow.holds Try.pinned (OpenSpec.upto nicPlaysSpec)

end Rows
end Go.Proofs.Ythbojoiogjdbeaa
