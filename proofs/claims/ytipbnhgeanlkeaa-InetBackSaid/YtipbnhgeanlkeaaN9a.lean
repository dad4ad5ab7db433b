/- The symbolic executor, at work: giving up. No condition. -/
import Derived.Test.YtipbnhgeanlkeaaBf
import Derived.WalkLawsBesides
import Derived.Recover
import Derived.Tactics2
namespace Go.Proofs.Ytipbnhgeanlkeaa.Sx
open Go
set_option linter.unusedSimpArgs false
set_option linter.unusedVariables false
set_option maxRecDepth 10000
set_option maxHeartbeats 1000000

abbrev gone (e : Int) : PanicEntry := { v := .iface 23 (.int .i64 e), recovered := false }

theorem must_spec (e : Int) : Spec cx.P 24 [.c (bC true), .c (i64 e)] [] fun t _ => t.plain = true ∧ t = .tup [] := by
  refine spec_of_X cx_ok Try.func24 rfl (by kernel_rfl) (by kernel_rfl) (Nat.le_of_ble_eq_true rfl) 400 2 ?_
  simp (maxSteps := 4000000) only [Try.results24, XX, Nat.reduceBEq, Nat.reduceLT, Nat.reduceAdd, Nat.reduceMul, Nat.reduceSub, Nat.reduceLeDiff, Nat.reduceEqDiff, Int.reduceToNat, Int.reduceLT, Int.reduceLE, Int.reduceAdd, Int.reduceSub, Int.reduceEq, reduceIte, Nat.reduceBNe, Int.reducePow, Nat.reducePow, Int.reduceMul, Int.reduceNeg, isB_i, isB_b, isB_y, isBv_i, isBv_b, eqCells_t, TT]

theorem must_run (e : Int) (w : World) : Calls Try.prog 24 #[.bool false, .int .i64 e] w fun e' w' => e' = .panicked [gone e] ∧ w' = w := by
  go_enter Try.func24, Try.ntmps24
  go_wp2
  exact ⟨rfl, rfl, rfl⟩

theorem must_panics (H : List SB) (e : Int) : SpecP cx.P 24 [.c (bC false), .c (i64 e)] H [gone e] := by
  refine ⟨fun vs w => (must_spec e).1 vs w, fun ρ w vs M hl hr => ?_⟩
  have hs : vs.size = 2 := hl.symm
  have h0 := hr 0 _ vs[0] rfl (by simp [hs])
  have h1 := hr 1 _ vs[1] rfl (by simp [hs])
  have hv : vs = #[.bool false, .int .i64 e] := by
    apply Array.ext
    · simpa using hs
    · intro i hi1 hi2
      rcases (by simp at hi2; omega : i = 0 ∨ i = 1) with rfl | rfl
      · exact h0.1
      · exact h1.1
  subst hv
  exact (must_run e w).mono fun e' w' ⟨h1, h2⟩ => ⟨h1, by rw [h2]; exact Ext.refl _ _⟩

end Go.Proofs.Ytipbnhgeanlkeaa.Sx
