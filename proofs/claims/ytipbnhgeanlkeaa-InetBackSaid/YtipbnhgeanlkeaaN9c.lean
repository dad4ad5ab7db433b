/- The symbolic executor, at work: a function that may give up. No condition. -/
import Derived.Test.YtipbnhgeanlkeaaN9b
namespace Go.Proofs.Ytipbnhgeanlkeaa.Sx
open Go
set_option linter.unusedSimpArgs false
set_option linter.unusedVariables false
set_option maxRecDepth 10000
set_option maxHeartbeats 1000000

abbrev decH (x : SC) : List SB := [⟨true, 28, [x]⟩, ⟨true, 27, ipZ⟩, ⟨true, 28, [.v (.slice none 0 0)]⟩, ⟨true, 23, [i64 0]⟩]
/-- What Decode comes to, as its body ends. -/
def decQ (K : SV → List SB → Prop) : XE → St → Prop
  | .panic ch, σ => ∃ (e : Int) (b0 : SB) (t : List SB) (cs1 : List SC) (x y : SC), ch = [gone e] ∧ (look 2 σ.tm = some (.c (.ptr 1 0)) ∧ look 3 σ.tm = some (.c (.ptr 2 0)) ∧ look 4 σ.tm = some (.c (.ptr 3 0))) ∧ σ.hp = b0 :: ⟨true, 27, cs1⟩ :: ⟨true, 28, [x]⟩ :: ⟨true, 23, [y]⟩ :: t ∧ cs1.length = 7 ∧ K (.tup [(true, ipZ), (false, [.v (.slice none 0 0)]), (false, [i64 e])]) (goneH σ.hp 1 2 3 e)
  | .normal, σ => retQ T Try.f16.results.toList K .normal σ
  | .ret, σ => retQ T Try.f16.results.toList K .ret σ
  | .exit _, _ => False

theorem dec_enter {x : SC} {K : SV → List SB → Prop} {r0 r1 rest : Code} (hb : Try.f16.body = some (.seq r0 (.seq r1 rest)))
    (hX : X cx 400 [.code rest] ⟨⟨8, 4⟩, [(1, .c (.ptr 0 0)), (2, .c (.ptr 1 0)), (3, .c (.ptr 2 0)), (4, .c (.ptr 3 0))], decH x⟩ (decQ K)) : Spec cx.P 16 [.c x] [] K := by
  have hf : Try.prog.funcs[16]? = some Try.f16 := Try.func16
  have hn : (Try.f16.name == "runtime.NumGoroutine") = false := by kernel_rfl
  have hok : codeOk 90 (.seq r0 (.seq r1 rest)) = true := by
    have : ∀ c, Try.f16.body = some c → codeOk 90 c = true := by
      intro c hc
      have h2 : ((Try.f16.body).map (codeOk 90)) = some true := by kernel_rfl
      rw [hc] at h2
      simpa using h2
    exact this _ hb
  simp only [codeOk, Bool.and_eq_true] at hok
  refine ⟨fun vs w => ?_, fun ρ w vs M hl hr => ?_⟩
  · have hn : ¬ Try.f16.name = "runtime.NumGoroutine" := by simpa using hn
    show (callFunc _ vs).run Try.prog w = _
    simp only [callFunc, Sem.run_bind]
    simp [hf, hn, hb]
  have hs : vs.size = 1 := hl.symm
  have h0 := hr 0 _ vs[0] rfl (by simp [hs])
  generalize hv : vs[0] = v at h0
  have hvs : vs = #[v] := by
    apply Array.ext
    · simpa using hs
    · intro i hi1 hi2
      rcases (by simp at hi2; omega : i = 0) with rfl
      exact hv
  clear hv hr hl
  subst hvs
  refine calls_of_wp_defers hf hb ?_
  have hk : codeOk 90 r0 = true := hok.1
  have hX0 : X cx 60 [.code r0] ⟨⟨8, 0⟩, [(0, .c x)], []⟩ (fun xe σ => xe = .normal ∧ σ = ⟨⟨8, 0⟩, [(0, .c x), (1, .c (.ptr 0 0)), (2, .c (.ptr 1 0)), (3, .c (.ptr 2 0)), (4, .c (.ptr 3 0))], decH x⟩) := by
    have hb' := hb
    simp only [Try.f16, Option.some.injEq, Code.seq.injEq] at hb'
    rw [← hb'.1]
    simp (maxSteps := 4000000) only [XX, Nat.reduceBEq, Nat.reduceLT, Nat.reduceAdd, Nat.reduceMul, Nat.reduceSub, Nat.reduceLeDiff, Nat.reduceEqDiff, Int.reduceToNat, Int.reduceLT, Int.reduceLE, Int.reduceAdd, Int.reduceSub, Int.reduceEq, reduceIte, Nat.reduceBNe, Int.reducePow, Nat.reducePow, Int.reduceMul, Int.reduceNeg, isB_i, isB_b, isB_y, isBv_i, isBv_b, eqCells_t, TT]
  refine wp_seq ?_
  refine wp_of_sat hX0 ⟨w, [], ρ, 90, []⟩ ⟨ρ, ⟨rfl, M.n⟩, rfl, by simp [Try.ntmps16], Step.refl M, tm_cons ⟨v, by simp, h0⟩ fun t s hs => by cases hs⟩ hk ?_
  intro ex a1 w1 hq
  cases ex with
  | ret => obtain ⟨σ, _, h, _⟩ := hq; cases h
  | exit id => obtain ⟨σ, _, h, _⟩ := hq; cases h
  | panic ch => obtain ⟨σ, _, h, _⟩ := hq; cases h
  | goto l => exact hq.elim
  | outgrown => exact hq.elim
  | normal =>
  obtain ⟨σ, ⟨ρ1, S1⟩, _, rfl⟩ := hq
  obtain ⟨p1, c1, d1⟩ := S1.tm 1 (.c (.ptr 0 0)) rfl
  obtain ⟨p2, c2, d2⟩ := S1.tm 2 (.c (.ptr 1 0)) rfl
  obtain ⟨p3, c3, d3⟩ := S1.tm 3 (.c (.ptr 2 0)) rfl
  obtain ⟨p4, c4, d4⟩ := S1.tm 4 (.c (.ptr 3 0)) rfl
  have g : ∀ t y, a1.tmps[t]? = some y → a1.tmps.getD t undef = y := fun t y h => by simp [Array.getD_eq_getD_getElem?, h]
  have hdf : a1.defers = [] := S1.defers
  have hsz : a1.tmps.size = 90 := S1.size
  show (Code.seq r1 rest).wp _ _ a1 w1
  refine wp_seq ?_
  have hcf : ∀ (vs : Array Value) (w : World), (callFunc 23 vs).run cx.P w = .ok (.enter 23 vs) w := fun vs w => by
    have hn : ¬ Try.f23.name = "runtime.NumGoroutine" := by simpa using (show (Try.f23.name == "runtime.NumGoroutine") = false by kernel_rfl)
    have hb : Try.f23.body.isSome = true := rfl
    have hf : Try.prog.funcs[23]? = some Try.f23 := Try.func23
    show (callFunc _ vs).run Try.prog w = _
    obtain ⟨c, hc⟩ := Option.isSome_iff_exists.1 hb
    simp [callFunc, hf, hn, hc]
  have hmf : ∀ (fn : Fn) (first cap : Array Value) (w : World), (Instr.makeFunc fn first cap).run Try.prog w = .ok (.func fn first cap) w := fun _ _ _ _ => rfl
  have hb' := hb
  simp only [Try.f16, Option.some.injEq, Code.seq.injEq] at hb'
  obtain ⟨_, e1, _⟩ := hb'
  rw [← e1]
  clear hb e1
  refine wp_region_list ?_
  simp [wpList, Oper.wp, Oper.upon, Region.wanted, yielded, execOp, Act.eval, g _ _ c2, g _ _ c3, g _ _ c4, go_sem, hmf, Act.put, hsz, hdf]
  refine .inl (.inl ?_)
  have M1 := S1.step.models
  have o1 : ∀ {y : Value} (v : Value) (t : Nat), t ≠ 8 → a1.tmps[t]? = some y → (a1.tmps.setIfInBounds 8 v)[t]? = some y := fun v t ht h => by
    rw [Array.getElem?_setIfInBounds, if_neg (Ne.symm ht)]; exact h
  generalize hd : ({ target := _, args := _ } : Deferred) = d
  refine wp_of_sat hX ⟨w1, decH x, ρ1, 90, [d]⟩ ⟨ρ1, ⟨rfl, M1.n⟩, rfl, by simp [hsz], Step.refl M1, tm_cons ⟨p1, o1 _ _ (by decide) c1, d1⟩ (tm_cons ⟨p2, o1 _ _ (by decide) c2, d2⟩ (tm_cons ⟨p3, o1 _ _ (by decide) c3, d3⟩ (tm_cons ⟨p4, o1 _ _ (by decide) c4, d4⟩ fun t s hs => by cases hs)))⟩ hok.2.2 ?_
  have idle : ∀ (σ : St) (a : Act) (w2 : World), Sat ⟨w1, decH x, ρ1, 90, [d]⟩ σ a w2 → retQ T Try.f16.results.toList K .ret σ → Leaves cx.P Try.f16 a.tmps (fun e w' => ∃ (y : Value), e = .returned y ∧ ∃ (s : SV) (h' : List SB) (ρ' : Rho), Step [] ρ w h' ρ' w' ∧ s.rel ρ' y ∧ K s h') a.defers .returning w2 := by
    intro σ a w2 S2 hQ
    obtain ⟨y, s, ρ', k1, k2, k3, k4⟩ := results_ok cx_ok (fn := Try.f16) S2 hQ
    obtain ⟨_, S2⟩ := S2
    rw [S2.defers]
    show Leaves _ _ _ _ [d] _ _
    rw [← hd]
    refine leaves_cons (f := 23) (args := #[p2, p3, p4]) (by simp) (by simp [go_sem]; exact hcf _ _) ?_
    refine (catch_idle p2 p3 p4 w2).mono ?_
    rintro e u' w' ⟨rfl, rfl, rfl⟩
    exact ⟨y, k1, y, rfl, s, σ.hp, ρ', S1.step.trans k2, k3, k4⟩
  intro ex a w2 hq
  cases ex with
  | exit id => obtain ⟨σ, _, h⟩ := hq; exact h.elim
  | goto l => exact hq.elim
  | outgrown => exact hq.elim
  | normal => obtain ⟨σ, S2, hQ⟩ := hq; exact (idle σ a w2 S2 hQ)
  | ret => obtain ⟨σ, S2, hQ⟩ := hq; exact (idle σ a w2 S2 hQ)
  | panic ch =>
    obtain ⟨σ, ⟨ρ2, S2⟩, e, b0, t, cs1, x1, y1, rfl, ⟨l2, l3, l4⟩, hh, hl7, hK⟩ := hq
    have M2 := S2.step.models
    have le := S2.step.le
    have q2 : p2 = .pointer (some (ρ2.at 1 0)) := by rw [d2.2, Rho.at_le le d2.1]
    have q3 : p3 = .pointer (some (ρ2.at 2 0)) := by rw [d3.2, Rho.at_le le d3.1]
    have q4 : p4 = .pointer (some (ρ2.at 3 0)) := by rw [d4.2, Rho.at_le le d4.1]
    show Leaves _ _ _ _ a.defers _ _
    rw [S2.defers]
    show Leaves _ _ _ _ [d] _ _
    rw [← hd]
    refine leaves_cons (f := 23) (args := #[p2, p3, p4]) (by simp) (by simp [go_sem]; exact hcf _ _) ?_
    rw [q2, q3, q4]
    refine (catch_gone M2 (i1 := 1) (i2 := 2) (i3 := 3) (by rw [hh]; rfl) hl7 (by rw [hh]; rfl) (by rw [hh]; rfl) (by decide) (by decide) (by decide) e []).mono ?_
    rintro e' u' w' ⟨rfl, rfl, ρ3, S3⟩
    show Leaves _ _ _ _ [] .returning w'
    have S4 : Sat ⟨w1, decH x, ρ1, 90, [d]⟩ ⟨σ.nm, σ.tm, goneH σ.hp 1 2 3 e⟩ a w' := ⟨ρ3, S2.base, S2.defers, S2.size, S2.step.trans S3, fun t s hs => by
      obtain ⟨y, g1, g2⟩ := S2.tm t s hs
      exact ⟨y, g1, SV.rel_le S3.le g2⟩⟩
    obtain ⟨y, s, ρ', k1, k2, k3, k4⟩ := results_ok cx_ok (fn := Try.f16) (K := K) S4 (by
      rw [hh] at hK ⊢
      have e1 : ∀ h : List SB, goneH (b0 :: (⟨true, 27, cs1⟩ : SB) :: ⟨true, 28, [x1]⟩ :: ⟨true, 23, [y1]⟩ :: h) 1 2 3 e = b0 :: ⟨true, 27, ipZ⟩ :: ⟨true, 28, [.v (.slice none 0 0)]⟩ :: ⟨true, 23, [i64 e]⟩ :: h := fun _ => rfl
      rw [e1] at hK ⊢
      have e2 : Try.f16.results.toList = [.cell 2 27, .cell 3 28, .cell 4 23] := rfl
      rw [e2]
      simp (maxSteps := 4000000) only [XX, Nat.reduceBEq, Nat.reduceLT, Nat.reduceAdd, Nat.reduceMul, Nat.reduceSub, Nat.reduceLeDiff, Nat.reduceEqDiff, Int.reduceToNat, Int.reduceLT, Int.reduceLE, Int.reduceAdd, Int.reduceSub, Int.reduceEq, reduceIte, Nat.reduceBNe, Int.reducePow, Nat.reducePow, Int.reduceMul, Int.reduceNeg, isB_i, isB_b, isB_y, isBv_i, isBv_b, eqCells_t, TT, l2, l3, l4]
      exact hK)
    exact ⟨y, k1, y, rfl, s, _, ρ', S1.step.trans k2, k3, k4⟩


end Go.Proofs.Ytipbnhgeanlkeaa.Sx
