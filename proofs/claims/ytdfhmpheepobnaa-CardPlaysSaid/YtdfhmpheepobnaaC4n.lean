/- The symbolic executor, at work: a descriptor at both cards. No condition. -/
import Derived.Test.YtdfhmpheepobnaaC4m
namespace Go.Proofs.Ytdfhmpheepobnaa.Sx
open Go
set_option linter.unusedSimpArgs false
set_option linter.unusedVariables false
set_option maxRecDepth 10000
set_option maxHeartbeats 2000000

abbrev pairB (c rc bk : Nat) : SB := ⟨true, 55, [.ptr c 0, .ptr rc 0, .ptr bk 0]⟩

theorem Book.app {H : List SB} {ib : Nat} {ls : List SC} {ws : List (List UInt8)} {iL cL iW cW : Nat} (B : Book H ib ls ws iL cL iW cW) (X : List SB) : Book (H ++ X) ib ls ws iL cL iW cW :=
  ⟨by rw [List.getElem?_append_left (lt_of B.b)]; exact B.b, by rw [List.getElem?_append_left (lt_of B.L)]; exact B.L, by rw [List.getElem?_append_left (lt_of B.W)]; exact B.W, B.n, B.cl, B.cw⟩
theorem BkS.app {H : List SB} {bk : Nat} {es : List OE} (B : BkS H bk es) (X : List SB) : BkS (H ++ X) bk es := by
  rcases B with ⟨h, hb⟩ | ⟨iL, cL, iW, cW, B⟩
  · exact .inl ⟨h, by rw [List.getElem?_append_left (lt_of hb)]; exact hb⟩
  · exact .inr ⟨iL, cL, iW, cW, B.app X⟩
theorem KeepB.app (H X : List SB) : KeepB H (H ++ X) := ⟨by simp, fun i b hi _ _ _ => by rw [List.getElem?_append_left (lt_of hi)]; exact hi⟩

theorem desc_spec {S : Nat → Prop} {H : List SB} {p c rc bk : Nat} {es : List OE} (hp : H[p]? = some (pairB c rc bk)) (B : BkS H bk es) (hn : es.length ≤ 4398046511104) (w : Nat) (d z : List UInt8) (o : Bool) (hw : H[w]? = some (wB o (d ++ z))) (ho : 0 < d.length + z.length → o = true) (hl : d.length ≤ 1514) (b : Bool) (e : Int) (x : SC) (hx : DX S H x d) :
    Spec cx.P 32 [.c (.ptr p 0), .agg [bC b, slB w d z], .c (i64 e), .agg [bC b, x], .c (i64 e)] H fun t h' => t = .c (bC true) ∧ BkS h' bk (es ++ [⟨w, d, z, o⟩]) ∧ KeepB H h' := by
  have ltp := lt_of hp
  have ltw := lt_of hw
  have hp2 : ∀ X Y, (H ++ X ++ Y)[p]? = some (pairB c rc bk) := fun X Y => by rw [List.append_assoc, List.getElem?_append_left ltp]; exact hp
  have hw2 : ∀ X Y, (H ++ X ++ Y)[w]? = some (wB o (d ++ z)) := fun X Y => by rw [List.append_assoc, List.getElem?_append_left ltw]; exact hw
  have ll : ∀ x : SB, (H ++ [x]).length = H.length + 1 := fun x => by simp
  have l0 : H.length < H.length + 1 + 1 := by omega
  have l1 : H.length + 1 < H.length + 1 + 1 := by omega
  have l2 : p < H.length + 1 + 1 := by omega
  have l3 : w < H.length + 1 + 1 := by omega
  have hpx : ∀ X, (H ++ X)[p]? = some (pairB c rc bk) := fun X => by rw [List.getElem?_append_left ltp]; exact hp
  have hwx : ∀ X, (H ++ X)[w]? = some (wB o (d ++ z)) := fun X => by rw [List.getElem?_append_left ltw]; exact hw
  have g0 : ∀ x y, (H ++ [x] ++ [y])[H.length]? = some x := fun x y => by rw [List.append_assoc, List.getElem?_append_right (Nat.le_refl _), Nat.sub_self]; rfl
  have g1 : ∀ x y, (H ++ [x] ++ [y])[H.length + 1]? = some y := fun x y => by rw [List.append_assoc, List.getElem?_append_right (by omega), Nat.add_sub_cancel_left]; rfl
  have tk : (bsC (d ++ z)).take d.length = bsC d := by rw [bs_take, List.take_left' rfl]
  rcases hx with ⟨rfl, rfl⟩ | ⟨w', z', o', rfl, hw', ho', _⟩
  · have tk0 : (bsC ([] ++ z)).take 0 = [] := rfl
    have st0 : strOf [] = ⟨([] : List UInt8).toArray⟩ := rfl
    have nl : ([] : List UInt8).length = 0 := rfl
    have eE : ((⟨#[]⟩ : ByteArray).toList == ByteArray.empty.toList) = true := beq_self_eq_true _
    refine spec_of_X cx_ok Try.func32 rfl (by kernel_rfl) (by kernel_rfl) (Nat.le_of_ble_eq_true rfl) 400 11 ?_
    simp (maxSteps := 4000000) only [Try.results32, XX, Nat.reduceBEq, Nat.reduceLT, Nat.reduceAdd, Nat.reduceMul, Nat.reduceSub, Nat.reduceLeDiff, Nat.reduceEqDiff, Int.reduceToNat, Int.reduceLT, Int.reduceLE, Int.reduceAdd, Int.reduceSub, Int.reduceEq, reduceIte, Nat.reduceBNe, Int.reducePow, Nat.reducePow, Int.reduceMul, Int.reduceNeg, isB_i, isB_b, isB_y, isBv_i, isBv_b, eqCells_t, TT]
    simp (maxSteps := 4000000) only [Try.results32, ll, g0, g1, hp2, hw2, l0, l1, l2, l3, tk0, st0, nl, eE, XX, Nat.reduceBEq, Nat.reduceLT, Nat.reduceAdd, Nat.reduceMul, Nat.reduceSub, Nat.reduceLeDiff, Nat.reduceEqDiff, Int.reduceToNat, Int.reduceLT, Int.reduceLE, Int.reduceAdd, Int.reduceSub, Int.reduceEq, reduceIte, Nat.reduceBNe, Int.reducePow, Nat.reducePow, Int.reduceMul, Int.reduceNeg, isB_i, isB_b, isB_y, isBv_i, isBv_b, eqCells_t, TT]
    refine ⟨⟨by omega, fun c h => absurd h (by simp)⟩, ?_⟩
    refine draw2_of cx_ok (by kernel_rfl) 400 [] (.pair [(0, true), (1, true), (2, true), (4, true)] 3 5 (.done [(5, false), (6, false)]) (.done [(3, false), (6, false)])) (by kernel_rfl) rfl ?_
    simp (maxSteps := 4000000) only [Try.results32, PXT_done, PXT_pair, ll, g0, g1, hp2, hw2, l0, l1, l2, l3, maskL_nil, unL_nil, XX, Nat.reduceBEq, Nat.reduceLT, Nat.reduceAdd, Nat.reduceMul, Nat.reduceSub, Nat.reduceLeDiff, Nat.reduceEqDiff, Int.reduceToNat, Int.reduceLT, Int.reduceLE, Int.reduceAdd, Int.reduceSub, Int.reduceEq, reduceIte, Nat.reduceBNe, Int.reducePow, Nat.reducePow, Int.reduceMul, Int.reduceNeg, isB_i, isB_b, isB_y, isBv_i, isBv_b, eqCells_t, TT]
    refine ⟨?_, ?_⟩
    all_goals
     refine call_is (takeA_spec ((B.app _).app _) hn w [] z o (hw2 _ _) (by first | exact hl | simp)) ?_
     rintro _ h1 ⟨rfl, B1, K1⟩
     simp (maxSteps := 4000000) only [Try.results32, unL_nil, XX, Nat.reduceBEq, Nat.reduceLT, Nat.reduceAdd, Nat.reduceMul, Nat.reduceSub, Nat.reduceLeDiff, Nat.reduceEqDiff, Int.reduceToNat, Int.reduceLT, Int.reduceLE, Int.reduceAdd, Int.reduceSub, Int.reduceEq, reduceIte, Nat.reduceBNe, Int.reducePow, Nat.reducePow, Int.reduceMul, Int.reduceNeg, isB_i, isB_b, isB_y, isBv_i, isBv_b, eqCells_t, TT]
     exact ⟨B1, ((KeepB.app H _).trans (KeepB.app _ _)).trans K1⟩
  · have ltw' := lt_of hw'
    have hwx' : ∀ X, (H ++ X)[w']? = some (wB o' (d ++ z')) := fun X => by rw [List.getElem?_append_left ltw']; exact hw'
    have tk' : (bsC (d ++ z')).take d.length = bsC d := by rw [bs_take, List.take_left' rfl]
    have hw3 : ∀ X Y, (H ++ X ++ Y)[w']? = some (wB o' (d ++ z')) := fun X Y => by rw [List.append_assoc, List.getElem?_append_left ltw']; exact hw'
    have l4 : w' < H.length + 1 + 1 := by omega
    refine spec_of_X cx_ok Try.func32 rfl (by kernel_rfl) (by kernel_rfl) (Nat.le_of_ble_eq_true rfl) 400 11 ?_
    simp (maxSteps := 4000000) only [Try.results32, XX, Nat.reduceBEq, Nat.reduceLT, Nat.reduceAdd, Nat.reduceMul, Nat.reduceSub, Nat.reduceLeDiff, Nat.reduceEqDiff, Int.reduceToNat, Int.reduceLT, Int.reduceLE, Int.reduceAdd, Int.reduceSub, Int.reduceEq, reduceIte, Nat.reduceBNe, Int.reducePow, Nat.reducePow, Int.reduceMul, Int.reduceNeg, isB_i, isB_b, isB_y, isBv_i, isBv_b, eqCells_t, TT]
    simp (maxSteps := 4000000) only [Try.results32, ll, g0, g1, hp2, hw2, hw3, l0, l1, l2, l3, l4, tk, tk', strOf_bsC, str_eq, XX, Nat.reduceBEq, Nat.reduceLT, Nat.reduceAdd, Nat.reduceMul, Nat.reduceSub, Nat.reduceLeDiff, Nat.reduceEqDiff, Int.reduceToNat, Int.reduceLT, Int.reduceLE, Int.reduceAdd, Int.reduceSub, Int.reduceEq, reduceIte, Nat.reduceBNe, Int.reducePow, Nat.reducePow, Int.reduceMul, Int.reduceNeg, isB_i, isB_b, isB_y, isBv_i, isBv_b, eqCells_t, TT]
    refine ⟨⟨by simp, isByte_bsC d⟩, ⟨by simp, isByte_bsC d⟩, ?_⟩
    refine draw2_of cx_ok (by kernel_rfl) 400 [] (.pair [(0, true), (1, true), (2, true), (4, true)] 3 5 (.done [(5, false), (6, false)]) (.done [(3, false), (6, false)])) (by kernel_rfl) rfl ?_
    simp (maxSteps := 4000000) only [Try.results32, PXT_done, PXT_pair, ll, g0, g1, hp2, hw2, l0, l1, l2, l3, maskL_nil, unL_nil, XX, Nat.reduceBEq, Nat.reduceLT, Nat.reduceAdd, Nat.reduceMul, Nat.reduceSub, Nat.reduceLeDiff, Nat.reduceEqDiff, Int.reduceToNat, Int.reduceLT, Int.reduceLE, Int.reduceAdd, Int.reduceSub, Int.reduceEq, reduceIte, Nat.reduceBNe, Int.reducePow, Nat.reducePow, Int.reduceMul, Int.reduceNeg, isB_i, isB_b, isB_y, isBv_i, isBv_b, eqCells_t, TT]
    refine ⟨?_, ?_⟩
    all_goals
     refine call_is (takeA_spec ((B.app _).app _) hn w d z o (hw2 _ _) (by first | exact hl | simp)) ?_
     rintro _ h1 ⟨rfl, B1, K1⟩
     simp (maxSteps := 4000000) only [Try.results32, unL_nil, XX, Nat.reduceBEq, Nat.reduceLT, Nat.reduceAdd, Nat.reduceMul, Nat.reduceSub, Nat.reduceLeDiff, Nat.reduceEqDiff, Int.reduceToNat, Int.reduceLT, Int.reduceLE, Int.reduceAdd, Int.reduceSub, Int.reduceEq, reduceIte, Nat.reduceBNe, Int.reducePow, Nat.reducePow, Int.reduceMul, Int.reduceNeg, isB_i, isB_b, isB_y, isBv_i, isBv_b, eqCells_t, TT]
     exact ⟨B1, ((KeepB.app H _).trans (KeepB.app _ _)).trans K1⟩

end Go.Proofs.Ytdfhmpheepobnaa.Sx
