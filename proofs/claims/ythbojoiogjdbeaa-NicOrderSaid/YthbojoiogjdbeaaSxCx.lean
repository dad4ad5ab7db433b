/- The tables of the symbolic executor for this translation. No condition. -/
import Derived.Test.YthbojoiogjdbeaaSxTab
import Derived.Test.YthbojoiogjdbeaaSxFlat
import Derived.Test.YthbojoiogjdbeaaSxEqs
namespace Go.Proofs.Ythbojoiogjdbeaa.Sx
open Go
noncomputable def cx : Cx := ⟨Try.prog, T, flat⟩
theorem cx_T : cx.T = T := rfl
theorem cx_P : cx.P = Try.prog := rfl
theorem cx_flat : cx.flat = flat := rfl
theorem cx_ok : CxOk cx := ⟨T_ok, fun t ti h ht => flatChk_ok T_ok (flat_ok t h) ht⟩
end Go.Proofs.Ythbojoiogjdbeaa.Sx
