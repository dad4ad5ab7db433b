/-
  No cell of these rows narrows 'for every input' (looked for: loops, veiled, ifaces, maps, wideKeys, modest, calm, conditions, laid).
  DERIVED. THE GIVEN ROWS OF THIS SEAT. 3 by the template 'for every input the law returns true; each argument reads behind the call as it read before'; 0 by the template 'total and deterministic' (their statements: YtniednekfnfhmaaTotals.lean).
  GIVEN WITH THE SEED: the statements are not yours to turn. If you find one false, say at which input.
  Laid BY PROGRAM, IN A SANDBOX (cutbox-rows.mjs): the forced cells as the released guide's own fill.sh prints them over the translation b3938007a45f0856… (all of the seat's roots in one cut). By AI agents, Wed Nov 11 2026. No macro, syntax, notation, axiom, sorry.
-/
import Derived.Test.YtniednekfnfhmaaChecked
import GoSem.Claim
import GoSem.ClaimJoined
import GoSem.ClaimMapViews
import Derived.JoinedTies
import Derived.KernelRfl
namespace Go.Proofs.Ytniednekfnfhmaa
/- THE CELL 'sum', in the pinned program and in every row, IS THE sha256 OF THE DUMP (.gsa) THAT YtniednekfnfhmaaProg.lean LOADS. Nothing in Lean hashes anything: it is a label: what it is worth is what the hold of that sum in a sandbox is worth. -/
noncomputable def Try.pinned : Pinned := { name := "ytniednekfnfhmaa", sum := "b3938007a45f0856e3ca0063959e5feb89d12d2e4f660f43f414f9ab6201be96", checked := Try.checked }
namespace Rows
def none {H : Type} : Left H := { results := [], args := [] }

/-- 'slipwaylaw06.DicePlays': WHATEVER THE INPUT: true; the input reads as it did. -/
def dicePlaysSpec : ChangeSpec := { name := "dicePlays", fn := fun _ => fun
  | [d1, d2, d3] => { results := [.lit (.bool true)], args := [d1, d2, d3] }
  | _ => none }
def dicePlaysRow : OpenClaim := { program := "ytniednekfnfhmaa", sum := "b3938007a45f0856e3ca0063959e5feb89d12d2e4f660f43f414f9ab6201be96", func := "slipway/slipwaylaw06.DicePlays", spec := "dicePlays", unfollowed := true, recurses := true, apart := false }
def DicePlaysSaid : Prop := dicePlaysRow.holds Try.pinned (OpenSpec.ofChange dicePlaysSpec)

/-- ITS FALSE NEIGHBOUR: 'it returns false'. Refute it at one input. -/
def dicePlaysWrong : ChangeSpec := { name := "dicePlays", fn := fun _ => fun
  | [d1, d2, d3] => { results := [.lit (.bool false)], args := [d1, d2, d3] }
  | _ => none }
def DicePlaysWrongFalsely : Prop := dicePlaysRow.holds Try.pinned (OpenSpec.ofChange dicePlaysWrong)

/-- 'slipwaylaw06.DiceBounds': WHATEVER THE INPUT: true; the input reads as it did. -/
def diceBoundsSpec : ChangeSpec := { name := "diceBounds", fn := fun _ => fun
  | [d1, d2, d3, d4, d5, d6] => { results := [.lit (.bool true)], args := [d1, d2, d3, d4, d5, d6] }
  | _ => none }
def diceBoundsRow : OpenClaim := { program := "ytniednekfnfhmaa", sum := "b3938007a45f0856e3ca0063959e5feb89d12d2e4f660f43f414f9ab6201be96", func := "slipway/slipwaylaw06.DiceBounds", spec := "diceBounds", unfollowed := true, recurses := true, apart := false }
def DiceBoundsSaid : Prop := diceBoundsRow.holds Try.pinned (OpenSpec.ofChange diceBoundsSpec)

/-- ITS FALSE NEIGHBOUR: 'it returns false'. Refute it at one input. -/
def diceBoundsWrong : ChangeSpec := { name := "diceBounds", fn := fun _ => fun
  | [d1, d2, d3, d4, d5, d6] => { results := [.lit (.bool false)], args := [d1, d2, d3, d4, d5, d6] }
  | _ => none }
def DiceBoundsWrongFalsely : Prop := diceBoundsRow.holds Try.pinned (OpenSpec.ofChange diceBoundsWrong)

/-- 'slipwaylaw06.DiceAdds': WHATEVER THE INPUT: true; the input reads as it did. -/
def diceAddsSpec : ChangeSpec := { name := "diceAdds", fn := fun _ => fun
  | [d1, d2, d3] => { results := [.lit (.bool true)], args := [d1, d2, d3] }
  | _ => none }
def diceAddsRow : OpenClaim := { program := "ytniednekfnfhmaa", sum := "b3938007a45f0856e3ca0063959e5feb89d12d2e4f660f43f414f9ab6201be96", func := "slipway/slipwaylaw06.DiceAdds", spec := "diceAdds", unfollowed := true, recurses := true, apart := false }
def DiceAddsSaid : Prop := diceAddsRow.holds Try.pinned (OpenSpec.ofChange diceAddsSpec)

/-- ITS FALSE NEIGHBOUR: 'it returns false'. Refute it at one input. -/
def diceAddsWrong : ChangeSpec := { name := "diceAdds", fn := fun _ => fun
  | [d1, d2, d3] => { results := [.lit (.bool false)], args := [d1, d2, d3] }
  | _ => none }
def DiceAddsWrongFalsely : Prop := diceAddsRow.holds Try.pinned (OpenSpec.ofChange diceAddsWrong)

/- THE SECOND FORM. 'bulk': how many values and letters a reading holds, each counted each time it is reached (what is shared counts as often as it is met; a slice's spare places count too). A statement '..UptoSaid' is the law's where the arguments, and the package variables that the reading takes, are together of bulk at most 1048576: NARROWER than '..Said'. Prove '..Said' where nothing that the law and all that it calls make is longer than what came in: it says more and counts as full. Else prove '..UptoSaid'. A law counts once. -/
mutual
def uptoBulk {H : Type} : DataW H → Nat
  | .lit (.string bytes) => bytes.length + 1
  | .lit _ => 1
  | .nil => 1
  | .ptr d => uptoBulk d + 1
  | .slice elems spare => uptoBulkAll elems + uptoBulkAll spare + 1
  | .agg parts => uptoBulkAll parts + 1
  | .iface _ d => uptoBulk d + 1
  | .map entries => uptoBulkEntries entries + 1
  | .held _ => 1
def uptoBulkAll {H : Type} : List (DataW H) → Nat
  | [] => 0
  | d :: r => uptoBulk d + uptoBulkAll r
def uptoBulkEntries {H : Type} : List (Lit × DataW H) → Nat
  | [] => 0
  | x :: r => uptoBulkEntry x + uptoBulkEntries r
def uptoBulkEntry {H : Type} : Lit × DataW H → Nat
  | (.string bytes, d) => bytes.length + uptoBulk d + 1
  | (_, d) => uptoBulk d + 1
 end
def uptoSmall : (H : Type) → List (DataW H) → Bool := fun _ ds => decide (uptoBulkAll ds ≤ 1048576)
def OpenSpec.upto (s : _root_.Go.ChangeSpec) : _root_.Go.OpenSpec := { _root_.Go.OpenSpec.ofChange s with cond := some uptoSmall }

/-- 'slipwaylaw06.DicePlays', WHERE WHAT IT READS IS OF BULK AT MOST 1048576: true; the input reads as it did. -/
def dicePlaysUptoRow : OpenClaim := { program := "ytniednekfnfhmaa", sum := "b3938007a45f0856e3ca0063959e5feb89d12d2e4f660f43f414f9ab6201be96", func := "slipway/slipwaylaw06.DicePlays", spec := "dicePlays", unfollowed := true, recurses := true, apart := false, narrowed := true }
def DicePlaysUptoSaid : Prop := dicePlaysUptoRow.holds Try.pinned (OpenSpec.upto dicePlaysSpec)

/-- 'slipwaylaw06.DiceBounds', WHERE WHAT IT READS IS OF BULK AT MOST 1048576: true; the input reads as it did. -/
def diceBoundsUptoRow : OpenClaim := { program := "ytniednekfnfhmaa", sum := "b3938007a45f0856e3ca0063959e5feb89d12d2e4f660f43f414f9ab6201be96", func := "slipway/slipwaylaw06.DiceBounds", spec := "diceBounds", unfollowed := true, recurses := true, apart := false, narrowed := true }
def DiceBoundsUptoSaid : Prop := diceBoundsUptoRow.holds Try.pinned (OpenSpec.upto diceBoundsSpec)

/-- 'slipwaylaw06.DiceAdds', WHERE WHAT IT READS IS OF BULK AT MOST 1048576: true; the input reads as it did. -/
def diceAddsUptoRow : OpenClaim := { program := "ytniednekfnfhmaa", sum := "b3938007a45f0856e3ca0063959e5feb89d12d2e4f660f43f414f9ab6201be96", func := "slipway/slipwaylaw06.DiceAdds", spec := "diceAdds", unfollowed := true, recurses := true, apart := false, narrowed := true }
def DiceAddsUptoSaid : Prop := diceAddsUptoRow.holds Try.pinned (OpenSpec.upto diceAddsSpec)

end Rows
end Go.Proofs.Ytniednekfnfhmaa
