/- The symbolic executor, at work: what is done where it was given up. No condition. -/
import Derived.Test.YtipbnhgeanlkeaaN9a
namespace Go.Proofs.Ytipbnhgeanlkeaa.Sx
open Go
set_option linter.unusedSimpArgs false
set_option linter.unusedVariables false
set_option maxRecDepth 10000
set_option maxHeartbeats 1000000

theorem catch_idle (p q r : Value) (w : World) : CallsD Try.prog 23 #[p, q, r] .returning w fun e u' w' => e = .returned (.tuple #[]) ∧ u' = .returning ∧ w' = w := by
  refine callsD_of_wpS Try.func23 rfl fun c₀ cs hu => ?_
  apply wpS_seq
  apply wpS_region
  simp [wpOpsS, go_sem, recoverD, hu, Try.ntmps23, Exit.thenS]
  refine wpS_of_wp ?_
  go_wp2
  cases c₀
  simp_all [bodyPostS, results, Try.results23]

theorem hta (e : Int) (w : World) : (Instr.typeAssert (.iface 23 (.int .i64 e)) 20 23 true).run Try.prog w = .ok (.tuple #[.int .i64 e, .bool true]) w := by
  have h : Try.prog.underlying 23 = some (.int .i64) := by kernel_rfl
  simp [Instr.typeAssert, run_underlying h, go_sem, Result.andThen]

theorem wp_of_sat {n : Nat} {c : Code} {σ : St} {Qf : XE → St → Prop} {Q : Exit → Act → World → Prop} {a : Act} {w : World} (hX : X cx n [.code c] σ Qf) (e : Env) (S : Sat e σ a w) (hok : codeOk e.nt c = true) (hQ : ∀ ex a' w', hatQ e Qf ex a' w' → Q ex a' w') : c.wp cx.P Q a w :=
  wp_mono (X_ok cx_ok n _ _ _ hX e a w (fun i hi => by
    cases hi with
    | head => exact hok
    | tail _ hi => cases hi) S) hQ
theorem tm_cons {ρ : Rho} {tmps : Array Value} {u : Nat} {x : SV} {r : List (Nat × SV)} (h : ∃ y, tmps[u]? = some y ∧ x.rel ρ y) (hr : ∀ t s, look t r = some s → ∃ y, tmps[t]? = some y ∧ s.rel ρ y) : ∀ t s, look t ((u, x) :: r) = some s → ∃ y, tmps[t]? = some y ∧ s.rel ρ y := by
  intro t s hs
  simp only [look] at hs
  cases htu : t == u
  · rw [htu] at hs; exact hr t s hs
  · rw [htu] at hs
    have : t = u := by simpa using htu
    subst this
    cases hs
    exact h

abbrev ipZ : List SC := [i64 0, i64 0, i64 0, i64 0, bC false, i32 0, i32 0]
/-- What stands in the three results where it was given up. -/
def goneH (h : List SB) (i1 i2 i3 : Nat) (e : Int) : List SB := ((h.set i1 ⟨true, 27, ipZ⟩).set i2 ⟨true, 28, [.v (.slice none 0 0)]⟩).set i3 ⟨true, 23, [i64 e]⟩

theorem catch_gone {h : List SB} {ρ : Rho} {w : World} (M : Models h ρ w) {i1 i2 i3 : Nat} {cs1 : List SC} {x y : SC} (h1 : h[i1]? = some ⟨true, 27, cs1⟩) (hl : cs1.length = 7) (h2 : h[i2]? = some ⟨true, 28, [x]⟩) (h3 : h[i3]? = some ⟨true, 23, [y]⟩)
    (n12 : i1 ≠ i2) (n13 : i1 ≠ i3) (n23 : i2 ≠ i3) (e : Int) (older : List PanicEntry) :
    CallsD Try.prog 23 #[.pointer (some (ρ.at i1 0)), .pointer (some (ρ.at i2 0)), .pointer (some (ρ.at i3 0))] (.panicking (gone e :: older)) w fun e' u' w' => e' = .returned (.tuple #[]) ∧ u' = .panicking ({ gone e with recovered := true } :: older) ∧ ∃ ρ', Step h ρ w (goneH h i1 i2 i3 e) ρ' w' := by
  have k1 : i1 < ρ.n := by rw [M.n]; exact lt_of h1
  have k2 : i2 < ρ.n := by rw [M.n]; exact lt_of h2
  have k3 : i3 < ρ.n := by rw [M.n]; exact lt_of h3
  generalize hp : Value.pointer (some (ρ.at i1 0)) = p
  generalize hq : Value.pointer (some (ρ.at i2 0)) = q
  generalize hr : Value.pointer (some (ρ.at i3 0)) = r
  refine callsD_of_wpS Try.func23 rfl fun c₀ cs hu => ?_
  apply wpS_seq
  apply wpS_region
  simp [wpOpsS, go_sem, recoverD, hu, Try.ntmps23, Exit.thenS]
  refine wpS_of_wp ?_
  have hta1 := hta e
  generalize hc7 : Code.region 7 _ false = c7
  go_wp2
  have hX : X cx 60 [.code c7] ⟨⟨5, h.length⟩, [(0, .c (.ptr i1 0)), (1, .c (.ptr i2 0)), (2, .c (.ptr i3 0)), (4, .c (i64 e))], h⟩ (fun xe σ => xe = .normal ∧ σ.hp = goneH h i1 i2 i3 e) := by
    subst hc7
    have lt1 := lt_of h1
    have lt2 := lt_of h2
    have lt3 := lt_of h3
    simp (maxSteps := 4000000) only [XX, Nat.reduceBEq, Nat.reduceLT, Nat.reduceAdd, Nat.reduceMul, Nat.reduceSub, Nat.reduceLeDiff, Nat.reduceEqDiff, Int.reduceToNat, Int.reduceLT, Int.reduceLE, Int.reduceAdd, Int.reduceSub, Int.reduceEq, reduceIte, Nat.reduceBNe, Int.reducePow, Nat.reducePow, Int.reduceMul, Int.reduceNeg, isB_i, isB_b, isB_y, isBv_i, isBv_b, eqCells_t, TT, h1, h2, h3, lt1, lt2, lt3, hl, List.getElem?_set_ne, n12, n13, n23, n12.symm, n13.symm, n23.symm, List.length_set]
    rw [List.drop_of_length_le (by omega)]
    rfl
  have hok : codeOk 14 c7 = true := by subst hc7; rfl
  clear hc7
  refine wp_of_sat hX ⟨w, h, ρ, 14, []⟩ ⟨ρ, ⟨rfl, M.n⟩, rfl, by simp, Step.refl M, tm_cons ⟨p, by simp, k1, hp.symm⟩ (tm_cons ⟨q, by simp, k2, hq.symm⟩ (tm_cons ⟨r, by simp, k3, hr.symm⟩ (tm_cons ⟨.int .i64 e, by simp, rfl, rfl⟩ fun t s hs => by cases hs)))⟩ hok ?_
  intro ex a' w' hq
  cases ex with
  | normal =>
    obtain ⟨σ, ⟨ρ', S⟩, _, hh⟩ := hq
    exact ⟨S.defers, _, rfl, .tuple #[], by simp [results, Try.results23], rfl, rfl, ρ', hh ▸ S.step⟩
  | ret => obtain ⟨σ, _, h, _⟩ := hq; cases h
  | exit id => obtain ⟨σ, _, h, _⟩ := hq; cases h
  | panic ch => obtain ⟨σ, _, h, _⟩ := hq; cases h
  | goto l => exact hq.elim
  | outgrown => exact hq.elim

end Go.Proofs.Ytipbnhgeanlkeaa.Sx
