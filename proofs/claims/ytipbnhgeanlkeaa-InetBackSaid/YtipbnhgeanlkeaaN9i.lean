/- The symbolic executor, at work: the chapter's first examples; the errors' numbers. No condition. -/
import Derived.Test.YtipbnhgeanlkeaaN9h
import Derived.Test.YtipbnhgeanlkeaaOw
import Derived.Test.YtipbnhgeanlkeaaArg
namespace Go.Proofs.Ytipbnhgeanlkeaa.Sx
open Go
set_option linter.unusedSimpArgs false
set_option linter.unusedVariables false
set_option maxRecDepth 10000
set_option maxHeartbeats 2000000

theorem resB_noRo {l : List UInt8} {e : Int} {t : SV} {h' : List SB} (h : resB l e t h') : t.noRo = true ∧ (h'.all fun b => b.cells.all SC.noRo) = true := by
  obtain ⟨sp, o, rfl, rfl, _⟩ := h
  exact ⟨rfl, by simp only [XX, Nat.reduceBEq, Nat.reduceLT, Nat.reduceAdd, Nat.reduceMul, Nat.reduceSub, Nat.reduceLeDiff, Nat.reduceEqDiff, Int.reduceToNat, Int.reduceLT, Int.reduceLE, Int.reduceAdd, Int.reduceSub, Int.reduceEq, reduceIte, Nat.reduceBNe, Int.reducePow, Nat.reducePow, Int.reduceMul, Int.reduceNeg, isB_i, isB_b, isB_y, isBv_i, isBv_b, eqCells_t, TT, ids_bsC, ren_bsC, noRo_bsC, plain_bsC, lt_bsC, ids_byte, ren_byte, noRo_byte, plain_byte, lt_byte]⟩
theorem ip_fz {r : Nat → Nat} {n : Nat} {h : List SB} {ok : Nat → Bool} {fz : Bool} {a : IP} : frV fz ok r n h (.agg (ipC a)) (.agg (ipC a)) := .inl ⟨rfl, rfl⟩

def hA : IP := ⟨0, 7, 64, 17, true, 167772162, 167772161⟩
def lA : List UInt8 := [69, 0, 0, 22, 0, 7, 64, 0, 64, 17, 38, 206, 10, 0, 0, 2, 10, 0, 0, 1, 97, 98]
theorem encA_z (x : SC) : Spec cx.P 11 [.agg (ipC IP.z), .c x] [] fun t _ => t.plain = true ∧ t = .tup [(false, [noC]), (false, [i64 1])] := encB_spec IP.z x (by decide)

theorem awake_spec : Spec cx.P 8 [] [] fun s _ => s.plain = true ∧ s = .c (bC true) := by
  have e1 := encA_spec hA [97, 98] [] 2 (by decide) (by decide) (by decide)
  have q1 : encE hA [97, 98] = 0 := by decide
  have q2 : encR hA [97, 98] = lA := by unfold encR; rw [if_pos q1]; decide
  rw [q1, q2] at e1
  have q3 : decE (lA ++ [0, 0]) = 0 := by decide
  have q4 : decI (lA ++ [0, 0]) = hA := by unfold decI; rw [if_pos q3]; rfl
  have q5 : decD (lA ++ [0, 0]) = [97, 98] := by unfold decD; rw [if_pos q3]; decide
  have q6 : decE (lA.take 19) = 5 := by decide
  have q7 : decI (lA.take 19) = IP.z := by unfold decI; rw [q6]; rfl
  have q8 : decD (lA.take 19) = [] := by unfold decD; rw [q6]; rfl
  have d1 := fun sp c h => dec_spec (lA ++ [0, 0]) sp c h (by decide)
  rw [q3, q4, q5] at d1
  have d2 := fun sp c h => dec_spec (lA.take 19) sp c h (by decide)
  rw [q6, q7, q8] at d2
  refine spec_of_X cx_ok Try.func8 rfl (by kernel_rfl) (by kernel_rfl) (Nat.le_of_ble_eq_true rfl) 400 13 ?_
  simp (maxSteps := 4000000) only [Try.results8, XX, Nat.reduceBEq, Nat.reduceLT, Nat.reduceAdd, Nat.reduceMul, Nat.reduceSub, Nat.reduceLeDiff, Nat.reduceEqDiff, Int.reduceToNat, Int.reduceLT, Int.reduceLE, Int.reduceAdd, Int.reduceSub, Int.reduceEq, reduceIte, Nat.reduceBNe, Int.reducePow, Nat.reducePow, Int.reduceMul, Int.reduceNeg, isB_i, isB_b, isB_y, isBv_i, isBv_b, eqCells_t, TT]
  simp only [List.replicate_succ, List.replicate_zero, List.flatten_cons, List.flatten_nil, List.cons_append, List.nil_append, List.drop_succ_cons, List.drop_zero, List.length_cons, List.length_nil, Nat.reduceAdd, Nat.reduceLeDiff, reduceIte]
  simp (maxSteps := 4000000) only [Try.results8, XX, Nat.reduceBEq, Nat.reduceLT, Nat.reduceAdd, Nat.reduceMul, Nat.reduceSub, Nat.reduceLeDiff, Nat.reduceEqDiff, Int.reduceToNat, Int.reduceLT, Int.reduceLE, Int.reduceAdd, Int.reduceSub, Int.reduceEq, reduceIte, Nat.reduceBNe, Int.reducePow, Nat.reducePow, Int.reduceMul, Int.reduceNeg, isB_i, isB_b, isB_y, isBv_i, isBv_b, eqCells_t, TT]
  refine call_fz [.agg (ipC hA), .c (roB [97, 98] [] 2)] e1 (fun t h' h => resB_noRo h) ⟨ip_fz, fz_c (fz_sl (l := [97, 98]) (sp := []) rfl rfl rfl), trivial⟩ ?_
  rintro _ _ ⟨z, o, rfl, rfl, ho⟩
  have s1 : ((⟨lA.toArray⟩ : ByteArray).toList == (⟨#[69, 0, 0, 22, 0, 7, 64, 0, 64, 17, 38, 206, 10, 0, 0, 2, 10, 0, 0, 1, 97, 98]⟩ : ByteArray).toList) = true := by rw [str_eq]; rfl
  have hl : lA.length = 22 := rfl
  have hl19 : (lA.take 19).length = 19 := rfl
  generalize lA = L at *
  obtain rfl := ho (by omega)
  have tk : (bsC (L ++ z)).take L.length = bsC L := by rw [bs_take, List.take_left' rfl]
  have tl : L.length ≤ (L ++ z).length := by simp
  simp (maxSteps := 4000000) only [Try.results8, ids_bsC, ren_bsC, noRo_bsC, plain_bsC, lt_bsC, ids_byte, ren_byte, noRo_byte, plain_byte, lt_byte, tk, strOf_bsC, s1, bsC_len, XX, Nat.reduceBEq, Nat.reduceLT, Nat.reduceAdd, Nat.reduceMul, Nat.reduceSub, Nat.reduceLeDiff, Nat.reduceEqDiff, Int.reduceToNat, Int.reduceLT, Int.reduceLE, Int.reduceAdd, Int.reduceSub, Int.reduceEq, reduceIte, Nat.reduceBNe, Int.reducePow, Nat.reducePow, Int.reduceMul, Int.reduceNeg, isB_i, isB_b, isB_y, isBv_i, isBv_b, eqCells_t, TT]
  refine ⟨⟨tl, isByte_bsC L⟩, ⟨⟨by omega, by unfold maxLen; omega⟩, by simp⟩, xapp_grow (by omega) fun c1 h1 _ => ?_⟩
  obtain ⟨r, rfl⟩ := Nat.exists_eq_add_of_le h1
  simp (maxSteps := 4000000) only [Try.results8, ids_bsC, ren_bsC, noRo_bsC, plain_bsC, lt_bsC, ids_byte, ren_byte, noRo_byte, plain_byte, lt_byte, Nat.add_sub_cancel_left, zeros_flat, bs_app, bsC_len, XX, Nat.reduceBEq, Nat.reduceLT, Nat.reduceAdd, Nat.reduceMul, Nat.reduceSub, Nat.reduceLeDiff, Nat.reduceEqDiff, Int.reduceToNat, Int.reduceLT, Int.reduceLE, Int.reduceAdd, Int.reduceSub, Int.reduceEq, reduceIte, Nat.reduceBNe, Int.reducePow, Nat.reducePow, Int.reduceMul, Int.reduceNeg, isB_i, isB_b, isB_y, isBv_i, isBv_b, eqCells_t, TT]
  simp only [List.replicate_succ, List.replicate_zero, List.flatten_cons, List.flatten_nil, List.cons_append, List.nil_append, List.drop_succ_cons, List.drop_zero, List.length_cons, List.length_nil, Nat.reduceAdd, Nat.reduceLeDiff, reduceIte]
  simp (maxSteps := 4000000) only [Try.results8, rep_flat, List.append_assoc, XX, Nat.reduceBEq, Nat.reduceLT, Nat.reduceAdd, Nat.reduceMul, Nat.reduceSub, Nat.reduceLeDiff, Nat.reduceEqDiff, Int.reduceToNat, Int.reduceLT, Int.reduceLE, Int.reduceAdd, Int.reduceSub, Int.reduceEq, reduceIte, Nat.reduceBNe, Int.reducePow, Nat.reducePow, Int.reduceMul, Int.reduceNeg, isB_i, isB_b, isB_y, isBv_i, isBv_b, eqCells_t, TT]
  refine ⟨⟨by omega, by unfold maxLen; omega, by simp, fun h => by simp; omega⟩, ?_⟩
  have tkr : ∀ r, (bsC (L ++ List.replicate r 0)).take L.length = bsC L := fun r => by rw [bs_take, List.take_left' rfl]
  refine xapp_lit (fun s : List UInt8 => [(1, .c (.ptr 0 0)), (2, .c (.sl 2 0 L.length (L.length + z.length))), (3, .c (i64 0)), (32, .c (slB 3 (L ++ [0, 0]) s))]) (fun s => [⟨true, 27, [i64 0, i64 7, i64 64, i64 17, bC true, i32 167772162, i32 167772161]⟩, wB false [], wB true (L ++ z), wB true ((L ++ [0, 0]) ++ s), wB false []]) [some 0, none, some 2, some 3, none] [some 0, none, some 2, some 5, none] (fun h => ?_) (fun h c h1 => ?_) (fun z4 => ?_)
  · refine ⟨(List.replicate r 0).drop 2, ⟨rfl, rfl, ?_, ?_⟩⟩
    · rw [tkr]
      have e : bsC L ++ SC.v (.int .u8 0) :: SC.v (.int .u8 0) :: (bsC (L ++ List.replicate r 0)).drop (L.length + 2) = bsC ((L ++ [0, 0]) ++ (List.replicate r 0).drop 2) := by
        rw [bs_drop, List.drop_append, List.drop_of_length_le (by omega), Nat.add_sub_cancel_left]
        simp [byteC]
      rw [e]
      simp only [XX, Nat.reduceBEq, Nat.reduceLT, Nat.reduceAdd, Nat.reduceMul, Nat.reduceSub, Nat.reduceLeDiff, Nat.reduceEqDiff, Int.reduceToNat, Int.reduceLT, Int.reduceLE, Int.reduceAdd, Int.reduceSub, Int.reduceEq, reduceIte, Nat.reduceBNe, Int.reducePow, Nat.reducePow, Int.reduceMul, Int.reduceNeg, isB_i, isB_b, isB_y, isBv_i, isBv_b, eqCells_t, TT, ids_bsC, ren_bsC, noRo_bsC, plain_bsC, lt_bsC, ids_byte, ren_byte, noRo_byte, plain_byte, lt_byte]
    · simp only [XX, Nat.reduceBEq, Nat.reduceLT, Nat.reduceAdd, Nat.reduceMul, Nat.reduceSub, Nat.reduceLeDiff, Nat.reduceEqDiff, Int.reduceToNat, Int.reduceLT, Int.reduceLE, Int.reduceAdd, Int.reduceSub, Int.reduceEq, reduceIte, Nat.reduceBNe, Int.reducePow, Nat.reducePow, Int.reduceMul, Int.reduceNeg, isB_i, isB_b, isB_y, isBv_i, isBv_b, eqCells_t, TT, slB]
      simp
      omega
  · obtain ⟨r2, rfl⟩ := Nat.exists_eq_add_of_le h1
    refine ⟨List.replicate r2 0, ⟨rfl, rfl, ?_, ?_⟩⟩
    · rw [tkr, Nat.add_sub_cancel_left]
      have e : bsC L ++ SC.v (.int .u8 0) :: SC.v (.int .u8 0) :: List.replicate r2 (SC.v (.int .u8 0)) = bsC ((L ++ [0, 0]) ++ List.replicate r2 0) := by
        rw [bsC_zeros]
        simp [byteC]
      rw [e]
      simp only [XX, Nat.reduceBEq, Nat.reduceLT, Nat.reduceAdd, Nat.reduceMul, Nat.reduceSub, Nat.reduceLeDiff, Nat.reduceEqDiff, Int.reduceToNat, Int.reduceLT, Int.reduceLE, Int.reduceAdd, Int.reduceSub, Int.reduceEq, reduceIte, Nat.reduceBNe, Int.reducePow, Nat.reducePow, Int.reduceMul, Int.reduceNeg, isB_i, isB_b, isB_y, isBv_i, isBv_b, eqCells_t, TT, ids_bsC, ren_bsC, noRo_bsC, plain_bsC, lt_bsC, ids_byte, ren_byte, noRo_byte, plain_byte, lt_byte]
    · simp only [XX, Nat.reduceBEq, Nat.reduceLT, Nat.reduceAdd, Nat.reduceMul, Nat.reduceSub, Nat.reduceLeDiff, Nat.reduceEqDiff, Int.reduceToNat, Int.reduceLT, Int.reduceLE, Int.reduceAdd, Int.reduceSub, Int.reduceEq, reduceIte, Nat.reduceBNe, Int.reducePow, Nat.reducePow, Int.reduceMul, Int.reduceNeg, isB_i, isB_b, isB_y, isBv_i, isBv_b, eqCells_t, TT, slB]
      simp
  simp (maxSteps := 4000000) only [Try.results8, ids_bsC, ren_bsC, noRo_bsC, plain_bsC, lt_bsC, ids_byte, ren_byte, noRo_byte, plain_byte, lt_byte, XX, Nat.reduceBEq, Nat.reduceLT, Nat.reduceAdd, Nat.reduceMul, Nat.reduceSub, Nat.reduceLeDiff, Nat.reduceEqDiff, Int.reduceToNat, Int.reduceLT, Int.reduceLE, Int.reduceAdd, Int.reduceSub, Int.reduceEq, reduceIte, Nat.reduceBNe, Int.reducePow, Nat.reducePow, Int.reduceMul, Int.reduceNeg, isB_i, isB_b, isB_y, isBv_i, isBv_b, eqCells_t, TT]
  refine call_fz [.c (roB (L ++ [0, 0]) z4 ((L ++ [0, 0]).length + z4.length))] (d1 z4 _ (by omega)) (fun t h' h => resP_noRo h) ⟨fz_c (fz_any (i := 3) rfl fun _ => rfl), trivial⟩ ?_
  rintro _ _ ⟨z5, o5, rfl, rfl, ho5⟩
  obtain rfl := ho5 (by simp; omega)
  simp (maxSteps := 4000000) only [Try.results8, ids_bsC, ren_bsC, noRo_bsC, plain_bsC, lt_bsC, ids_byte, ren_byte, noRo_byte, plain_byte, lt_byte, XX, Nat.reduceBEq, Nat.reduceLT, Nat.reduceAdd, Nat.reduceMul, Nat.reduceSub, Nat.reduceLeDiff, Nat.reduceEqDiff, Int.reduceToNat, Int.reduceLT, Int.reduceLE, Int.reduceAdd, Int.reduceSub, Int.reduceEq, reduceIte, Nat.reduceBNe, Int.reducePow, Nat.reducePow, Int.reduceMul, Int.reduceNeg, isB_i, isB_b, isB_y, isBv_i, isBv_b, eqCells_t, TT]
  refine ⟨by omega, ?_⟩
  refine call_fz [.c (roB (L.take 19) (L.drop 19 ++ z) (L.length + z.length))] (d2 (L.drop 19 ++ z) _ (by omega)) (fun t h' h => resP_noRo h) ⟨fz_c (fz_sl' hl19 (b := wB true (L ++ z)) rfl rfl (by rw [← List.append_assoc, List.take_append_drop]; rfl)), trivial⟩ ?_
  rintro _ _ ⟨z6, o6, rfl, rfl, ho6⟩
  simp (maxSteps := 4000000) only [Try.results8, ids_bsC, ren_bsC, noRo_bsC, plain_bsC, lt_bsC, ids_byte, ren_byte, noRo_byte, plain_byte, lt_byte, XX, Nat.reduceBEq, Nat.reduceLT, Nat.reduceAdd, Nat.reduceMul, Nat.reduceSub, Nat.reduceLeDiff, Nat.reduceEqDiff, Int.reduceToNat, Int.reduceLT, Int.reduceLE, Int.reduceAdd, Int.reduceSub, Int.reduceEq, reduceIte, Nat.reduceBNe, Int.reducePow, Nat.reducePow, Int.reduceMul, Int.reduceNeg, isB_i, isB_b, isB_y, isBv_i, isBv_b, eqCells_t, TT]
  refine call_plain (encA_z _) rfl ?_
  rintro _ rfl
  have tk2 : (bsC ([97, 98] ++ z5)).take 2 = bsC [97, 98] := rfl
  have s2 : ((⟨#[97, 98]⟩ : ByteArray).toList == (⟨#[97, 98]⟩ : ByteArray).toList) = true := by simp
  simp (maxSteps := 4000000) only [Try.results8, ids_bsC, ren_bsC, noRo_bsC, plain_bsC, lt_bsC, ids_byte, ren_byte, noRo_byte, plain_byte, lt_byte, strOf_bsC, tk2, s2, hA, XX, Nat.reduceBEq, Nat.reduceLT, Nat.reduceAdd, Nat.reduceMul, Nat.reduceSub, Nat.reduceLeDiff, Nat.reduceEqDiff, Int.reduceToNat, Int.reduceLT, Int.reduceLE, Int.reduceAdd, Int.reduceSub, Int.reduceEq, reduceIte, Nat.reduceBNe, Int.reducePow, Nat.reducePow, Int.reduceMul, Int.reduceNeg, isB_i, isB_b, isB_y, isBv_i, isBv_b, eqCells_t, TT]
  exact ⟨isByte_bsC [97, 98], by rw [show strOf [byteC 97, byteC 98] = ⟨#[97, 98]⟩ from strOf_bsC [97, 98], s2]⟩

end Go.Proofs.Ytipbnhgeanlkeaa.Sx
