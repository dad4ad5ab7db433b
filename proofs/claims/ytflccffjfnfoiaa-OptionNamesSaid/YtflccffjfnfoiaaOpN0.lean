/- The symbolic executor, at work: the numbers, as a law. No condition. -/
import Derived.Test.YtflccffjfnfoiaaOpK
namespace Go.Proofs.Ytflccffjfnfoiaa.Sx
open Go
set_option linter.unusedSimpArgs false
set_option linter.unusedVariables false
set_option maxRecDepth 10000
set_option maxHeartbeats 2000000

theorem optionNames_walk : ∀ css, RTyL (RTy T reachBytes DEPTH) [] css → Spec Try.prog 3 (svs T [] css) [] fun r _ => r = .c (.v (.bool true)) := by
  intro css h
  obtain rfl := RTyL_nil h
  simp only [svs]
  exact names_spec.mono fun _ _ h => h.2
end Go.Proofs.Ytflccffjfnfoiaa.Sx
