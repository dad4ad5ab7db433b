/- The symbolic executor, at work: draws. No condition. -/
import Derived.Test.YtniednekfnfhmaaBf6
namespace Go.Proofs.Ytniednekfnfhmaa.Sx
open Go
set_option linter.unusedSimpArgs false
set_option linter.unusedVariables false
set_option maxRecDepth 10000
set_option maxHeartbeats 1000000


abbrev c32 (n : Nat) : SC := .v (.int .u32 (n : Int))
abbrev r32 (n : Nat) : RC := .v (.int .u32 (n : Int))
abbrev usC (l : List Nat) : List SC := l.map c32
abbrev usR (l : List Nat) : List RC := l.map r32
abbrev roU (l sp : List Nat) (c : Nat) : SC := .ro (usR (l ++ sp)) l.length c
abbrev wU (own : Bool) (l : List Nat) : SB := ⟨own, 37, usC l⟩
theorem usR_toSC (l : List Nat) : (usR l).map RC.toSC = usC l := by
  simp only [List.map_map]
  exact List.map_congr_left fun b _ => rfl
theorem us_app (a b : List Nat) : usC a ++ usC b = usC (a ++ b) := by simp
theorem urs_take (n : Nat) (a : List Nat) : (usR a).take n = usR (a.take n) := by simp
theorem us_take (n : Nat) (a : List Nat) : (usC a).take n = usC (a.take n) := by simp
theorem us_drop (n : Nat) (a : List Nat) : (usC a).drop n = usC (a.drop n) := by simp
theorem usC_len (l : List Nat) : (usC l).length = l.length := by simp
theorem usR_len (l : List Nat) : (usR l).length = l.length := by simp
theorem zerosU (n : Nat) : (List.replicate n [SC.v (.int .u32 0)]).flatten = usC (List.replicate n 0) := by
  induction n with
  | zero => rfl
  | succ n ih => rw [List.replicate_succ, List.flatten_cons, ih]; rfl
theorem ids_usC (p : Nat → Bool) (l : List Nat) : (usC l).all (SC.ids p) = true := by simp [List.all_eq_true, SC.ids]
theorem ren_usC (r : Nat → Nat) (l : List Nat) : (usC l).map (SC.ren r) = usC l := by
  rw [List.map_map]; exact List.map_congr_left fun b _ => rfl
theorem noRo_usC (l : List Nat) : (usC l).all SC.noRo = true := by simp [List.all_eq_true, SC.noRo]
theorem lt_usC (n : Nat) (l : List Nat) : (usC l).all (SC.lt n) = true := by simp [List.all_eq_true, SC.lt]
theorem plain_usC (l : List Nat) : (usC l).all SC.plain = true := by simp [List.all_eq_true, SC.plain]

/-- Draws that came out, in memory of their own. -/
def resW (l : List Nat) (s : SV) (h' : List SB) : Prop := ∃ sp o, s = .c (.sl 0 0 l.length (l.length + sp.length)) ∧ h' = [wU o (l ++ sp)] ∧ (0 < l.length + sp.length → o = true)

theorem resW_noRo {l : List Nat} {t : SV} {h' : List SB} (h : resW l t h') : t.noRo = true ∧ (h'.all fun b => b.cells.all SC.noRo) = true := by
  obtain ⟨sp, o, rfl, rfl, _⟩ := h
  exact ⟨rfl, by simp only [XX, Nat.reduceBEq, Nat.reduceLT, Nat.reduceAdd, Nat.reduceMul, Nat.reduceSub, Nat.reduceLeDiff, Nat.reduceEqDiff, Int.reduceToNat, Int.reduceLT, Int.reduceLE, Int.reduceAdd, Int.reduceSub, Int.reduceEq, reduceIte, Nat.reduceBNe, Int.reducePow, Nat.reducePow, Int.reduceMul, Int.reduceNeg, isB_i, isB_b, isB_y, isBv_i, isBv_b, eqCells_t, TT, noRo_usC]⟩
theorem resW_of {P : Program} {f : FuncId} {args : List SV} {l : List Nat} (s : Spec P f args [] fun s h' => ∃ w sp o, s = .c (.sl w 0 l.length (l.length + sp.length)) ∧ h'[w]? = some (wU o (l ++ sp)) ∧ (0 < l.length + sp.length → o = true)) : Spec P f args [] (resW l) :=
  s.wk fun t h' ⟨w, sp, o, h1, h2, h3⟩ => ⟨.c (.sl 0 0 l.length (l.length + sp.length)), [wU o (l ++ sp)], [some w], rfl, by simp only [XX, Nat.reduceBEq, Nat.reduceLT, Nat.reduceAdd, Nat.reduceMul, Nat.reduceSub, Nat.reduceLeDiff, Nat.reduceEqDiff, Int.reduceToNat, Int.reduceLT, Int.reduceLE, Int.reduceAdd, Int.reduceSub, Int.reduceEq, reduceIte, Nat.reduceBNe, Int.reducePow, Nat.reducePow, Int.reduceMul, Int.reduceNeg, isB_i, isB_b, isB_y, isBv_i, isBv_b, eqCells_t, TT, lt_usC, ids_usC, ren_usC, h2], by subst h1; simp only [XX, Nat.reduceBEq, Nat.reduceLT, Nat.reduceAdd, Nat.reduceMul, Nat.reduceSub, Nat.reduceLeDiff, Nat.reduceEqDiff, Int.reduceToNat, Int.reduceLT, Int.reduceLE, Int.reduceAdd, Int.reduceSub, Int.reduceEq, reduceIte, Nat.reduceBNe, Int.reducePow, Nat.reducePow, Int.reduceMul, Int.reduceNeg, isB_i, isB_b, isB_y, isBv_i, isBv_b, eqCells_t, TT], sp, o, rfl, rfl, h3⟩
theorem resW_nil {P : Program} {f : FuncId} {args : List SV} (s : Spec P f args [] fun s _ => s = .c (.v (.slice none 0 0))) : Spec P f args [] (resW []) :=
  s.wk fun t h' h1 => ⟨.c (.sl 0 0 0 0), [wU false []], [none], rfl, by simp only [XX, Nat.reduceBEq, Nat.reduceLT, Nat.reduceAdd, Nat.reduceMul, Nat.reduceSub, Nat.reduceLeDiff, Nat.reduceEqDiff, Int.reduceToNat, Int.reduceLT, Int.reduceLE, Int.reduceAdd, Int.reduceSub, Int.reduceEq, reduceIte, Nat.reduceBNe, Int.reducePow, Nat.reducePow, Int.reduceMul, Int.reduceNeg, isB_i, isB_b, isB_y, isBv_i, isBv_b, eqCells_t, TT, List.map_nil], by subst h1; exact wk_nil, [], false, rfl, rfl, fun h => absurd h (by simp)⟩

theorem cloneU_spec (l sp : List Nat) (c : Nat) (hc : l.length ≤ c) (hl : 4 * l.length ≤ 140737488355328) : Spec cx.P 21 [.c (roU l sp c)] [] (resW l) := by
  by_cases hn : 0 < l.length
  · refine resW_of ?_
    refine spec_of_X cx_ok Try.func21 rfl (by kernel_rfl) (by kernel_rfl) (Nat.le_of_ble_eq_true rfl) 400 3 ?_
    simp (maxSteps := 4000000) only [Try.results21, XX, Nat.reduceBEq, Nat.reduceLT, Nat.reduceAdd, Nat.reduceMul, Nat.reduceSub, Nat.reduceLeDiff, Nat.reduceEqDiff, Int.reduceToNat, Int.reduceLT, Int.reduceLE, Int.reduceAdd, Int.reduceSub, Int.reduceEq, reduceIte, Nat.reduceBNe, Int.reducePow, Nat.reducePow, Int.reduceMul, Int.reduceNeg, isB_i, isB_b, isB_y, isBv_i, isBv_b, eqCells_t, TT]
    have e0 : (usR (l ++ sp)).take l.length = usR l := by rw [urs_take, List.take_left' rfl]
    refine ⟨by omega, ⟨⟨by omega, by unfold maxLen; omega, by simp, fun h => by omega⟩, by simp⟩, xapp_grow hn fun c' h1 _ => ?_⟩
    obtain ⟨r, rfl⟩ := Nat.exists_eq_add_of_le h1
    simp (maxSteps := 4000000) only [Try.results21, e0, usR_toSC, Nat.add_sub_cancel_left, zerosU, us_app, XX, Nat.reduceBEq, Nat.reduceLT, Nat.reduceAdd, Nat.reduceMul, Nat.reduceSub, Nat.reduceLeDiff, Nat.reduceEqDiff, Int.reduceToNat, Int.reduceLT, Int.reduceLE, Int.reduceAdd, Int.reduceSub, Int.reduceEq, reduceIte, Nat.reduceBNe, Int.reducePow, Nat.reducePow, Int.reduceMul, Int.reduceNeg, isB_i, isB_b, isB_y, isBv_i, isBv_b, eqCells_t, TT]
    exact ⟨1, List.replicate r 0, true, by simp, rfl, fun _ => rfl⟩
  have h0 : l = [] := List.eq_nil_of_length_eq_zero (by omega)
  subst h0
  by_cases hc0 : 0 < c
  · refine resW_of ?_
    refine spec_of_X cx_ok Try.func21 rfl (by kernel_rfl) (by kernel_rfl) (Nat.le_of_ble_eq_true rfl) 400 3 ?_
    simp (maxSteps := 4000000) only [Try.results21, XX, Nat.reduceBEq, Nat.reduceLT, Nat.reduceAdd, Nat.reduceMul, Nat.reduceSub, Nat.reduceLeDiff, Nat.reduceEqDiff, Int.reduceToNat, Int.reduceLT, Int.reduceLE, Int.reduceAdd, Int.reduceSub, Int.reduceEq, reduceIte, Nat.reduceBNe, Int.reducePow, Nat.reducePow, Int.reduceMul, Int.reduceNeg, isB_i, isB_b, isB_y, isBv_i, isBv_b, eqCells_t, TT]
    refine ⟨hc0, by unfold maxLen; omega, xapp_room (by omega) ?_⟩
    simp (maxSteps := 4000000) only [Try.results21, XX, Nat.reduceBEq, Nat.reduceLT, Nat.reduceAdd, Nat.reduceMul, Nat.reduceSub, Nat.reduceLeDiff, Nat.reduceEqDiff, Int.reduceToNat, Int.reduceLT, Int.reduceLE, Int.reduceAdd, Int.reduceSub, Int.reduceEq, reduceIte, Nat.reduceBNe, Int.reducePow, Nat.reducePow, Int.reduceMul, Int.reduceNeg, isB_i, isB_b, isB_y, isBv_i, isBv_b, eqCells_t, TT]
    exact ⟨0, [], true, rfl, rfl, fun _ => rfl⟩
  have h0 : c = 0 := by omega
  subst h0
  refine Spec.ro0 (resW_nil ?_) fun a => resW_of ?_
  · refine spec_of_X cx_ok Try.func21 rfl (by kernel_rfl) (by kernel_rfl) (Nat.le_of_ble_eq_true rfl) 400 3 ?_
    simp (maxSteps := 4000000) only [Try.results21, XX, Nat.reduceBEq, Nat.reduceLT, Nat.reduceAdd, Nat.reduceMul, Nat.reduceSub, Nat.reduceLeDiff, Nat.reduceEqDiff, Int.reduceToNat, Int.reduceLT, Int.reduceLE, Int.reduceAdd, Int.reduceSub, Int.reduceEq, reduceIte, Nat.reduceBNe, Int.reducePow, Nat.reducePow, Int.reduceMul, Int.reduceNeg, isB_i, isB_b, isB_y, isBv_i, isBv_b, eqCells_t, TT]
  · refine spec_of_X cx_ok Try.func21 rfl (by kernel_rfl) (by kernel_rfl) (Nat.le_of_ble_eq_true rfl) 400 3 ?_
    simp (maxSteps := 4000000) only [Try.results21, XX, Nat.reduceBEq, Nat.reduceLT, Nat.reduceAdd, Nat.reduceMul, Nat.reduceSub, Nat.reduceLeDiff, Nat.reduceEqDiff, Int.reduceToNat, Int.reduceLT, Int.reduceLE, Int.reduceAdd, Int.reduceSub, Int.reduceEq, reduceIte, Nat.reduceBNe, Int.reducePow, Nat.reducePow, Int.reduceMul, Int.reduceNeg, isB_i, isB_b, isB_y, isBv_i, isBv_b, eqCells_t, TT]
    simp (maxSteps := 4000000) only [Try.results21, binS_se, srcOf_s, XX, Nat.reduceBEq, Nat.reduceLT, Nat.reduceAdd, Nat.reduceMul, Nat.reduceSub, Nat.reduceLeDiff, Nat.reduceEqDiff, Int.reduceToNat, Int.reduceLT, Int.reduceLE, Int.reduceAdd, Int.reduceSub, Int.reduceEq, reduceIte, Nat.reduceBNe, Int.reducePow, Nat.reducePow, Int.reduceMul, Int.reduceNeg, isB_i, isB_b, isB_y, isBv_i, isBv_b, eqCells_t, TT]
    refine ⟨⟨by unfold maxLen; omega, by simp⟩, xapp_room (by omega) ?_⟩
    simp (maxSteps := 4000000) only [Try.results21, XX, Nat.reduceBEq, Nat.reduceLT, Nat.reduceAdd, Nat.reduceMul, Nat.reduceSub, Nat.reduceLeDiff, Nat.reduceEqDiff, Int.reduceToNat, Int.reduceLT, Int.reduceLE, Int.reduceAdd, Int.reduceSub, Int.reduceEq, reduceIte, Nat.reduceBNe, Int.reducePow, Nat.reducePow, Int.reduceMul, Int.reduceNeg, isB_i, isB_b, isB_y, isBv_i, isBv_b, eqCells_t, TT]
    exact ⟨0, [], true, rfl, rfl, fun _ => rfl⟩

end Go.Proofs.Ytniednekfnfhmaa.Sx
