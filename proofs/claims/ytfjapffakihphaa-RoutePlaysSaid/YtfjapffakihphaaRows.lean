/-
  No cell of these rows narrows 'for every input' (looked for: loops, veiled, ifaces, maps, wideKeys, modest, calm, conditions, laid).
  DERIVED. THE GIVEN ROWS OF THIS SEAT. 4 by the template 'for every input the law returns true; each argument reads behind the call as it read before'; 0 by the template 'total and deterministic' (their statements: YtfjapffakihphaaTotals.lean).
  GIVEN WITH THE SEED: the statements are not yours to turn. If you find one false, say at which input.
  Laid BY PROGRAM, IN A SANDBOX (cutbox-rows.mjs): the forced cells as the released guide's own fill.sh prints them over the translation fd8509e582817d3c… (all of the seat's roots in one cut). By AI agents, Wed Nov 11 2026. No macro, syntax, notation, axiom, sorry.
-/
import Derived.Test.YtfjapffakihphaaChecked
import GoSem.Claim
import GoSem.ClaimJoined
import GoSem.ClaimMapViews
import Derived.JoinedTies
import Derived.KernelRfl
namespace Go.Proofs.Ytfjapffakihphaa
/- THE CELL 'sum', in the pinned program and in every row, IS THE sha256 OF THE DUMP (.gsa) THAT YtfjapffakihphaaProg.lean LOADS. Nothing in Lean hashes anything: it is a label: what it is worth is what the hold of that sum in a sandbox is worth. -/
noncomputable def Try.pinned : Pinned := { name := "ytfjapffakihphaa", sum := "fd8509e582817d3c61297736534209f8c57e8820ff463c7812bd7ac6da219ed0", checked := Try.checked }
namespace Rows
def none {H : Type} : Left H := { results := [], args := [] }

/-- 'slipwaylaw10.RouteNumbers': WHATEVER THE INPUT: true; the input reads as it did. -/
def routeNumbersSpec : ChangeSpec := { name := "routeNumbers", fn := fun _ => fun
  | [] => { results := [.lit (.bool true)], args := [] }
  | _ => none }
def routeNumbersRow : OpenClaim := { program := "ytfjapffakihphaa", sum := "fd8509e582817d3c61297736534209f8c57e8820ff463c7812bd7ac6da219ed0", func := "slipway/slipwaylaw10.RouteNumbers", spec := "routeNumbers", apart := false }
def RouteNumbersSaid : Prop := routeNumbersRow.holds Try.pinned (OpenSpec.ofChange routeNumbersSpec)

/-- ITS FALSE NEIGHBOUR: 'it returns false'. Refute it at one input. -/
def routeNumbersWrong : ChangeSpec := { name := "routeNumbers", fn := fun _ => fun
  | [] => { results := [.lit (.bool false)], args := [] }
  | _ => none }
def RouteNumbersWrongFalsely : Prop := routeNumbersRow.holds Try.pinned (OpenSpec.ofChange routeNumbersWrong)

/-- 'slipwaylaw10.RoutePlays': WHATEVER THE INPUT: true; the input reads as it did. -/
def routePlaysSpec : ChangeSpec := { name := "routePlays", fn := fun _ => fun
  | [d] => { results := [.lit (.bool true)], args := [d] }
  | _ => none }
def routePlaysRow : OpenClaim := { program := "ytfjapffakihphaa", sum := "fd8509e582817d3c61297736534209f8c57e8820ff463c7812bd7ac6da219ed0", func := "slipway/slipwaylaw10.RoutePlays", spec := "routePlays", apart := false }
def RoutePlaysSaid : Prop := routePlaysRow.holds Try.pinned (OpenSpec.ofChange routePlaysSpec)

/-- ITS FALSE NEIGHBOUR: 'it returns false'. Refute it at one input. -/
def routePlaysWrong : ChangeSpec := { name := "routePlays", fn := fun _ => fun
  | [d] => { results := [.lit (.bool false)], args := [d] }
  | _ => none }
def RoutePlaysWrongFalsely : Prop := routePlaysRow.holds Try.pinned (OpenSpec.ofChange routePlaysWrong)

/-- 'slipwaylaw10.RouteSets': WHATEVER THE INPUT: true; the input reads as it did. -/
def routeSetsSpec : ChangeSpec := { name := "routeSets", fn := fun _ => fun
  | [d1, d2, d3, d4] => { results := [.lit (.bool true)], args := [d1, d2, d3, d4] }
  | _ => none }
def routeSetsRow : OpenClaim := { program := "ytfjapffakihphaa", sum := "fd8509e582817d3c61297736534209f8c57e8820ff463c7812bd7ac6da219ed0", func := "slipway/slipwaylaw10.RouteSets", spec := "routeSets", apart := false }
def RouteSetsSaid : Prop := routeSetsRow.holds Try.pinned (OpenSpec.ofChange routeSetsSpec)

/-- ITS FALSE NEIGHBOUR: 'it returns false'. Refute it at one input. -/
def routeSetsWrong : ChangeSpec := { name := "routeSets", fn := fun _ => fun
  | [d1, d2, d3, d4] => { results := [.lit (.bool false)], args := [d1, d2, d3, d4] }
  | _ => none }
def RouteSetsWrongFalsely : Prop := routeSetsRow.holds Try.pinned (OpenSpec.ofChange routeSetsWrong)

/-- 'slipwaylaw10.RouteWays': WHATEVER THE INPUT: true; the input reads as it did. -/
def routeWaysSpec : ChangeSpec := { name := "routeWays", fn := fun _ => fun
  | [d1, d2, d3, d4] => { results := [.lit (.bool true)], args := [d1, d2, d3, d4] }
  | _ => none }
def routeWaysRow : OpenClaim := { program := "ytfjapffakihphaa", sum := "fd8509e582817d3c61297736534209f8c57e8820ff463c7812bd7ac6da219ed0", func := "slipway/slipwaylaw10.RouteWays", spec := "routeWays", apart := false }
def RouteWaysSaid : Prop := routeWaysRow.holds Try.pinned (OpenSpec.ofChange routeWaysSpec)

/-- ITS FALSE NEIGHBOUR: 'it returns false'. Refute it at one input. -/
def routeWaysWrong : ChangeSpec := { name := "routeWays", fn := fun _ => fun
  | [d1, d2, d3, d4] => { results := [.lit (.bool false)], args := [d1, d2, d3, d4] }
  | _ => none }
def RouteWaysWrongFalsely : Prop := routeWaysRow.holds Try.pinned (OpenSpec.ofChange routeWaysWrong)

/- THE SECOND FORM. 'bulk': how many values and letters a reading holds, each counted each time it is reached (what is shared counts as often as it is met; a slice's spare places count too). A statement '..UptoSaid' is the law's where the arguments, and the package variables that the reading takes, are together of bulk at most 1048576: NARROWER than '..Said'. Prove '..Said' where nothing that the law and all that it calls make is longer than what came in: it says more and counts as full. Else prove '..UptoSaid'. A law counts once. -/
mutual
def uptoBulk {H : Type} : DataW H → Nat
  | .lit (.string bytes) => bytes.length + 1
  | .lit _ => 1
  | .nil => 1
  | .ptr d => uptoBulk d + 1
  | .slice elems spare => uptoBulkAll elems + uptoBulkAll spare + 1
  | .agg parts => uptoBulkAll parts + 1
  | .iface _ d => uptoBulk d + 1
  | .map entries => uptoBulkEntries entries + 1
  | .held _ => 1
def uptoBulkAll {H : Type} : List (DataW H) → Nat
  | [] => 0
  | d :: r => uptoBulk d + uptoBulkAll r
def uptoBulkEntries {H : Type} : List (Lit × DataW H) → Nat
  | [] => 0
  | x :: r => uptoBulkEntry x + uptoBulkEntries r
def uptoBulkEntry {H : Type} : Lit × DataW H → Nat
  | (.string bytes, d) => bytes.length + uptoBulk d + 1
  | (_, d) => uptoBulk d + 1
 end
def uptoSmall : (H : Type) → List (DataW H) → Bool := fun _ ds => decide (uptoBulkAll ds ≤ 1048576)
def OpenSpec.upto (s : _root_.Go.ChangeSpec) : _root_.Go.OpenSpec := { _root_.Go.OpenSpec.ofChange s with cond := some uptoSmall }

/-- 'slipwaylaw10.RouteNumbers', WHERE WHAT IT READS IS OF BULK AT MOST 1048576: true; the input reads as it did. -/
def routeNumbersUptoRow : OpenClaim := { program := "ytfjapffakihphaa", sum := "fd8509e582817d3c61297736534209f8c57e8820ff463c7812bd7ac6da219ed0", func := "slipway/slipwaylaw10.RouteNumbers", spec := "routeNumbers", apart := false, narrowed := true }
def RouteNumbersUptoSaid : Prop := routeNumbersUptoRow.holds Try.pinned (OpenSpec.upto routeNumbersSpec)

/-- 'slipwaylaw10.RoutePlays', WHERE WHAT IT READS IS OF BULK AT MOST 1048576: true; the input reads as it did. -/
def routePlaysUptoRow : OpenClaim := { program := "ytfjapffakihphaa", sum := "fd8509e582817d3c61297736534209f8c57e8820ff463c7812bd7ac6da219ed0", func := "slipway/slipwaylaw10.RoutePlays", spec := "routePlays", apart := false, narrowed := true }
def RoutePlaysUptoSaid : Prop := routePlaysUptoRow.holds Try.pinned (OpenSpec.upto routePlaysSpec)

/-- 'slipwaylaw10.RouteSets', WHERE WHAT IT READS IS OF BULK AT MOST 1048576: true; the input reads as it did. -/
def routeSetsUptoRow : OpenClaim := { program := "ytfjapffakihphaa", sum := "fd8509e582817d3c61297736534209f8c57e8820ff463c7812bd7ac6da219ed0", func := "slipway/slipwaylaw10.RouteSets", spec := "routeSets", apart := false, narrowed := true }
def RouteSetsUptoSaid : Prop := routeSetsUptoRow.holds Try.pinned (OpenSpec.upto routeSetsSpec)

/-- 'slipwaylaw10.RouteWays', WHERE WHAT IT READS IS OF BULK AT MOST 1048576: true; the input reads as it did. -/
def routeWaysUptoRow : OpenClaim := { program := "ytfjapffakihphaa", sum := "fd8509e582817d3c61297736534209f8c57e8820ff463c7812bd7ac6da219ed0", func := "slipway/slipwaylaw10.RouteWays", spec := "routeWays", apart := false, narrowed := true }
def RouteWaysUptoSaid : Prop := routeWaysUptoRow.holds Try.pinned (OpenSpec.upto routeWaysSpec)

end Rows
end Go.Proofs.Ytfjapffakihphaa
