/- The symbolic executor, at work: the first examples. No condition. -/
import Derived.Test.YtgadpbfmnhkjfaaP3c
namespace Go.Proofs.Ytgadpbfmnhkjfaa.Sx
open Go
set_option linter.unusedSimpArgs false
set_option linter.unusedVariables false
set_option maxRecDepth 10000
set_option maxHeartbeats 1000000

theorem fra_fz {r : Nat → Nat} {n : Nat} {h : List SB} {ok : Nat → Bool} {fz : Bool} {d s : M6} {k : Int} {x y : SC} (hx : frC fz ok r n h x y) : frV fz ok r n h (.agg (fraC d s k x)) (.agg (fraC d s k y)) :=
  .inr (.inr ⟨_, _, rfl, rfl, .inl ⟨rfl, rfl⟩, .inl ⟨rfl, rfl⟩, .inl ⟨rfl, rfl⟩, .inl ⟨rfl, rfl⟩, .inl ⟨rfl, rfl⟩, .inl ⟨rfl, rfl⟩, .inl ⟨rfl, rfl⟩, .inl ⟨rfl, rfl⟩, .inl ⟨rfl, rfl⟩, .inl ⟨rfl, rfl⟩, .inl ⟨rfl, rfl⟩, .inl ⟨rfl, rfl⟩, .inl ⟨rfl, rfl⟩, hx, trivial⟩)

theorem seal_noRo {t : SV} {h' : List SB} {n : Nat} {l : List UInt8} (h : t = .tup [(false, [.sl 0 0 n n]), (false, [i64 0])] ∧ h' = [wB true l]) : t.noRo = true ∧ (h'.all fun b => b.cells.all SC.noRo) = true := by
  obtain ⟨rfl, rfl⟩ := h
  exact ⟨rfl, by simp only [XX, Nat.reduceBEq, Nat.reduceLT, Nat.reduceAdd, Nat.reduceMul, Nat.reduceSub, Nat.reduceLeDiff, Nat.reduceEqDiff, Int.reduceToNat, Int.reduceLT, Int.reduceLE, Int.reduceAdd, Int.reduceSub, Int.reduceEq, reduceIte, Nat.reduceBNe, Int.reducePow, Nat.reducePow, Int.reduceMul, Int.reduceNeg, isB_i, isB_b, isB_y, isBv_i, isBv_b, eqCells_t, TT, ids_bsC, ren_bsC, noRo_bsC, plain_bsC, lt_bsC, ids_byte, ren_byte, noRo_byte, plain_byte, lt_byte]⟩

theorem open_noRo {q : SV} {h' : List SB} {d s : M6} {k : Int} {n : Nat} {t : List UInt8} (h : ∃ r, q = .tup [(true, fraC d s k (.sl 0 0 n (n + r))), (false, [i64 0])] ∧ h' = [wB true (t ++ List.replicate r 0)]) : q.noRo = true ∧ (h'.all fun b => b.cells.all SC.noRo) = true := by
  obtain ⟨r, rfl, rfl⟩ := h
  exact ⟨rfl, by simp only [XX, Nat.reduceBEq, Nat.reduceLT, Nat.reduceAdd, Nat.reduceMul, Nat.reduceSub, Nat.reduceLeDiff, Nat.reduceEqDiff, Int.reduceToNat, Int.reduceLT, Int.reduceLE, Int.reduceAdd, Int.reduceSub, Int.reduceEq, reduceIte, Nat.reduceBNe, Int.reducePow, Nat.reducePow, Int.reduceMul, Int.reduceNeg, isB_i, isB_b, isB_y, isBv_i, isBv_b, eqCells_t, TT, ids_bsC, ren_bsC, noRo_bsC, plain_bsC, lt_bsC, ids_byte, ren_byte, noRo_byte, plain_byte, lt_byte]⟩

theorem awake_spec : Spec cx.P 8 [] [] fun s _ => s.plain = true ∧ s = .c (bC true) := by
  refine spec_of_X cx_ok Try.func8 rfl (by kernel_rfl) (by kernel_rfl) (Nat.le_of_ble_eq_true rfl) 400 11 ?_
  simp (maxSteps := 4000000) only [Try.results8, XX, Nat.reduceBEq, Nat.reduceLT, Nat.reduceAdd, Nat.reduceMul, Nat.reduceSub, Nat.reduceLeDiff, Nat.reduceEqDiff, Int.reduceToNat, Int.reduceLT, Int.reduceLE, Int.reduceAdd, Int.reduceSub, Int.reduceEq, reduceIte, Nat.reduceBNe, Int.reducePow, Nat.reducePow, Int.reduceMul, Int.reduceNeg, isB_i, isB_b, isB_y, isBv_i, isBv_b, eqCells_t, TT]
  simp only [List.replicate_succ, List.replicate_zero, List.flatten_cons, List.flatten_nil, List.cons_append, List.nil_append, List.drop_succ_cons, List.drop_zero, List.length_cons, List.length_nil, Nat.reduceAdd, Nat.reduceLeDiff, reduceIte]
  simp (maxSteps := 4000000) only [Try.results8, XX, Nat.reduceBEq, Nat.reduceLT, Nat.reduceAdd, Nat.reduceMul, Nat.reduceSub, Nat.reduceLeDiff, Nat.reduceEqDiff, Int.reduceToNat, Int.reduceLT, Int.reduceLE, Int.reduceAdd, Int.reduceSub, Int.reduceEq, reduceIte, Nat.reduceBNe, Int.reducePow, Nat.reducePow, Int.reduceMul, Int.reduceNeg, isB_i, isB_b, isB_y, isBv_i, isBv_b, eqCells_t, TT]
  refine call_fz [.agg (fraC .all ⟨2, 0, 0, 0, 0, 1⟩ (2054 : Nat) (roB [97, 98] [] 2))] (fseal_spec .all ⟨2, 0, 0, 0, 0, 1⟩ 2054 [97, 98] [] 2 (by omega) (by omega) (by decide)) (fun t h' h => seal_noRo h) ?_ ?_
  · exact ⟨fra_fz (fz_sl rfl rfl rfl), trivial⟩
  rintro _ _ ⟨rfl, rfl⟩
  have q : (sealL .all ⟨2, 0, 0, 0, 0, 1⟩ 2054 [97, 98]).length = 60 := rfl
  rw [q]
  simp (maxSteps := 4000000) only [Try.results8, ids_bsC, ren_bsC, noRo_bsC, plain_bsC, lt_bsC, ids_byte, ren_byte, noRo_byte, plain_byte, lt_byte, XX, Nat.reduceBEq, Nat.reduceLT, Nat.reduceAdd, Nat.reduceMul, Nat.reduceSub, Nat.reduceLeDiff, Nat.reduceEqDiff, Int.reduceToNat, Int.reduceLT, Int.reduceLE, Int.reduceAdd, Int.reduceSub, Int.reduceEq, reduceIte, Nat.reduceBNe, Int.reducePow, Nat.reducePow, Int.reduceMul, Int.reduceNeg, isB_i, isB_b, isB_y, isBv_i, isBv_b, eqCells_t, TT]
  generalize hL : sealL .all ⟨2, 0, 0, 0, 0, 1⟩ 2054 [97, 98] = L at *
  have hL2 : L = rawL .all ⟨2, 0, 0, 0, 0, 1⟩ 8 6 (97 :: 98 :: List.replicate 44 0) := by rw [← hL]; rfl
  refine call_fz [.c (roB L [] 60)] (fopen_spec .all ⟨2, 0, 0, 0, 0, 1⟩ 8 6 (97 :: 98 :: List.replicate 44 0) [] L hL2 60 (by simp) (by simp) (by omega) (by decide)) (fun t h' h => open_noRo h) ?_ ?_
  · exact ⟨fz_c (fz_sl' q rfl rfl (by simp)), trivial⟩
  rintro _ _ ⟨r, rfl, rfl⟩
  simp (maxSteps := 4000000) only [Try.results8, ids_bsC, ren_bsC, noRo_bsC, plain_bsC, lt_bsC, ids_byte, ren_byte, noRo_byte, plain_byte, lt_byte, List.length_replicate, XX, Nat.reduceBEq, Nat.reduceLT, Nat.reduceAdd, Nat.reduceMul, Nat.reduceSub, Nat.reduceLeDiff, Nat.reduceEqDiff, Int.reduceToNat, Int.reduceLT, Int.reduceLE, Int.reduceAdd, Int.reduceSub, Int.reduceEq, reduceIte, Nat.reduceBNe, Int.reducePow, Nat.reducePow, Int.reduceMul, Int.reduceNeg, isB_i, isB_b, isB_y, isBv_i, isBv_b, eqCells_t, TT]
  refine call_pureF [.agg (bsC (M6.mk 2 0 0 0 0 2).l), .agg (fraC .all ⟨2, 0, 0, 0, 0, 1⟩ (2054 : Nat) (roB (97 :: 98 :: List.replicate 44 0) (List.replicate r 0) (46 + r)))] (fmine_spec ⟨2, 0, 0, 0, 0, 2⟩ .all ⟨2, 0, 0, 0, 0, 1⟩ _ _) ?_ ?_
  · exact ⟨.inl ⟨rfl, rfl⟩, fra_fz (fz_sl' rfl rfl rfl rfl), trivial⟩
  rintro _ rfl
  have m1 : mineB ⟨2, 0, 0, 0, 0, 2⟩ .all ⟨2, 0, 0, 0, 0, 1⟩ = true := by decide
  simp (maxSteps := 4000000) only [Try.results8, m1, XX, Nat.reduceBEq, Nat.reduceLT, Nat.reduceAdd, Nat.reduceMul, Nat.reduceSub, Nat.reduceLeDiff, Nat.reduceEqDiff, Int.reduceToNat, Int.reduceLT, Int.reduceLE, Int.reduceAdd, Int.reduceSub, Int.reduceEq, reduceIte, Nat.reduceBNe, Int.reducePow, Nat.reducePow, Int.reduceMul, Int.reduceNeg, isB_i, isB_b, isB_y, isBv_i, isBv_b, eqCells_t, TT]
  refine call_plain (fmine_spec .all ⟨2, 0, 0, 0, 0, 1⟩ ⟨2, 0, 0, 0, 0, 1⟩ 0 noC) rfl ?_
  rintro _ rfl
  have m2 : mineB .all ⟨2, 0, 0, 0, 0, 1⟩ ⟨2, 0, 0, 0, 0, 1⟩ = false := by decide
  simp (maxSteps := 4000000) only [Try.results8, m2, XX, Nat.reduceBEq, Nat.reduceLT, Nat.reduceAdd, Nat.reduceMul, Nat.reduceSub, Nat.reduceLeDiff, Nat.reduceEqDiff, Int.reduceToNat, Int.reduceLT, Int.reduceLE, Int.reduceAdd, Int.reduceSub, Int.reduceEq, reduceIte, Nat.reduceBNe, Int.reducePow, Nat.reducePow, Int.reduceMul, Int.reduceNeg, isB_i, isB_b, isB_y, isBv_i, isBv_b, eqCells_t, TT]
  refine call_pureF [.c (roB (L.take 59) (L.drop 59) 60)] (fopenS_spec (L.take 59) (L.drop 59) 60 (by rw [List.length_take]; omega)) ?_ ?_
  · exact ⟨fz_c (fz_sl' (by rw [List.length_take]; omega) rfl rfl (by rw [List.take_append_drop]; rfl)), trivial⟩
  rintro _ rfl
  have hz : List.replicate 44 (0 : UInt8) = 0 :: List.replicate 43 0 := rfl
  subst hL2
  have w : strOf [byteC 8, byteC 6, byteC 97, byteC 98, byteC 0] = ⟨[8, 6, 97, 98, 0].toArray⟩ := strOf_bsC [8, 6, 97, 98, 0]
  have ib : ∀ b, isByte (byteC b) = true := isByte_byteC
  have q1 : eqCells [byteC 255, byteC 255, byteC 255, byteC 255, byteC 255, byteC 255] [.v (.int .u8 255), .v (.int .u8 255), .v (.int .u8 255), .v (.int .u8 255), .v (.int .u8 255), .v (.int .u8 255)] = some true := rfl
  have q2 : eqCells [byteC 2, byteC 0, byteC 0, byteC 0, byteC 0, byteC 1] [.v (.int .u8 2), .v (.int .u8 0), .v (.int .u8 0), .v (.int .u8 0), .v (.int .u8 0), .v (.int .u8 1)] = some true := rfl
  have q3 : ((UInt8.toNat 8 * 256 + UInt8.toNat 6 : Nat) : Int) = 2054 := rfl
  simp (maxSteps := 4000000) only [Try.results8, hz, w, ib, List.mem_cons, List.not_mem_nil, forall_eq_or_imp, q1, q2, q3, XX, Nat.reduceBEq, Nat.reduceLT, Nat.reduceAdd, Nat.reduceMul, Nat.reduceSub, Nat.reduceLeDiff, Nat.reduceEqDiff, Int.reduceToNat, Int.reduceLT, Int.reduceLE, Int.reduceAdd, Int.reduceSub, Int.reduceEq, reduceIte, Nat.reduceBNe, Int.reducePow, Nat.reducePow, Int.reduceMul, Int.reduceNeg, isB_i, isB_b, isB_y, isBv_i, isBv_b, eqCells_t, TT]
  intro a h
  subst h
  exact isByte_byteC 0

end Go.Proofs.Ytgadpbfmnhkjfaa.Sx
