/- The symbolic executor, at work: a card's calls. No condition. -/
import Derived.Test.YtdfhmpheepobnaaC4a
namespace Go.Proofs.Ytdfhmpheepobnaa.Sx
open Go
set_option linter.unusedSimpArgs false
set_option linter.unusedVariables false
set_option maxRecDepth 10000
set_option maxHeartbeats 2000000

/-- A card, all told. -/
structure CK where
  rx : List Sl
  tx : List Sl
  rn : Nat
  tn : Nat
  cin : Int
  cdr : Int
  cout : Int
abbrev CK.h (k : CK) : List SB := [cardB 1 2 k.rx.length k.tx.length k.rn k.tn k.cin k.cdr k.cout, stB (slC k.rx), stB (slC k.tx)]
structure CK.ok (k : CK) : Prop where
  rx0 : 0 < k.rx.length
  rx1 : k.rx.length ≤ 64
  tx0 : 0 < k.tx.length
  tx1 : k.tx.length ≤ 64
  rn : k.rn < k.rx.length
  tn : k.tn < k.tx.length
  rs : ∀ s ∈ k.rx, s.ok
  ts : ∀ s ∈ k.tx, s.ok

theorem next_mod {i n : Nat} (h : i < n) (hn : n ≤ 64) : (IntKind.i64.wrap ((i : Int) + 1)).tmod (n : Int) = (((i + 1) % n : Nat) : Int) := by
  rw [w64 (by omega) (by omega)]; rfl

theorem step1_spec (k : CK) (ok : k.ok) : Spec cx.P 23 [.c (.ptr 0 0)] k.h fun t h' => t = .tup [] ∧ h' = CK.h { k with rn := (k.rn + 1) % k.rx.length } := by
  obtain ⟨rx, tx, rn, tn, c1, c2, c3⟩ := k
  have m := next_mod ok.rn ok.rx1
  have z : ((rx.length : Int) = 0) = False := by have := ok.rx0; dsimp only at this; simp only [eq_iff_iff, iff_false]; omega
  dsimp only at m z
  refine spec_of_X cx_ok Try.func23 rfl (by kernel_rfl) (by kernel_rfl) (Nat.le_of_ble_eq_true rfl) 400 1 ?_
  simp (maxSteps := 4000000) only [Try.results23, XX, Nat.reduceBEq, Nat.reduceLT, Nat.reduceAdd, Nat.reduceMul, Nat.reduceSub, Nat.reduceLeDiff, Nat.reduceEqDiff, Int.reduceToNat, Int.reduceLT, Int.reduceLE, Int.reduceAdd, Int.reduceSub, Int.reduceEq, reduceIte, Nat.reduceBNe, Int.reducePow, Nat.reducePow, Int.reduceMul, Int.reduceNeg, isB_i, isB_b, isB_y, isBv_i, isBv_b, eqCells_t, TT]
  refine draw2_of cx_ok (by kernel_rfl) 400 [] (.pair [(0, true), (1, true), (2, true), (3, true), (6, true), (7, true), (8, true)] 4 9 (.done [(5, true), (9, false), (10, true), (11, true), (12, true), (13, true), (14, false)]) (.done [(10, true), (4, false), (5, true), (11, true), (12, true), (13, true), (14, false)])) (by kernel_rfl) rfl ?_
  simp (maxSteps := 4000000) only [Try.results23, PXT_done, PXT_pair, m, z, XX, Nat.reduceBEq, Nat.reduceLT, Nat.reduceAdd, Nat.reduceMul, Nat.reduceSub, Nat.reduceLeDiff, Nat.reduceEqDiff, Int.reduceToNat, Int.reduceLT, Int.reduceLE, Int.reduceAdd, Int.reduceSub, Int.reduceEq, reduceIte, Nat.reduceBNe, Int.reducePow, Nat.reducePow, Int.reduceMul, Int.reduceNeg, isB_i, isB_b, isB_y, isBv_i, isBv_b, eqCells_t, TT]
theorem step2_spec (k : CK) (ok : k.ok) : Spec cx.P 23 [.c (.ptr 0 2)] k.h fun t h' => t = .tup [] ∧ h' = CK.h { k with tn := (k.tn + 1) % k.tx.length } := by
  obtain ⟨rx, tx, rn, tn, c1, c2, c3⟩ := k
  have m := next_mod ok.tn ok.tx1
  have z : ((tx.length : Int) = 0) = False := by have := ok.tx0; dsimp only at this; simp only [eq_iff_iff, iff_false]; omega
  dsimp only at m z
  refine spec_of_X cx_ok Try.func23 rfl (by kernel_rfl) (by kernel_rfl) (Nat.le_of_ble_eq_true rfl) 400 1 ?_
  simp (maxSteps := 4000000) only [Try.results23, XX, Nat.reduceBEq, Nat.reduceLT, Nat.reduceAdd, Nat.reduceMul, Nat.reduceSub, Nat.reduceLeDiff, Nat.reduceEqDiff, Int.reduceToNat, Int.reduceLT, Int.reduceLE, Int.reduceAdd, Int.reduceSub, Int.reduceEq, reduceIte, Nat.reduceBNe, Int.reducePow, Nat.reducePow, Int.reduceMul, Int.reduceNeg, isB_i, isB_b, isB_y, isBv_i, isBv_b, eqCells_t, TT]
  refine draw2_of cx_ok (by kernel_rfl) 400 [] (.pair [(0, true), (1, true), (2, true), (3, true), (6, true), (7, true), (8, true)] 4 9 (.done [(5, true), (9, false), (10, true), (11, true), (12, true), (13, true), (14, false)]) (.done [(10, true), (4, false), (5, true), (11, true), (12, true), (13, true), (14, false)])) (by kernel_rfl) rfl ?_
  simp (maxSteps := 4000000) only [Try.results23, PXT_done, PXT_pair, m, z, XX, Nat.reduceBEq, Nat.reduceLT, Nat.reduceAdd, Nat.reduceMul, Nat.reduceSub, Nat.reduceLeDiff, Nat.reduceEqDiff, Int.reduceToNat, Int.reduceLT, Int.reduceLE, Int.reduceAdd, Int.reduceSub, Int.reduceEq, reduceIte, Nat.reduceBNe, Int.reducePow, Nat.reducePow, Int.reduceMul, Int.reduceNeg, isB_i, isB_b, isB_y, isBv_i, isBv_b, eqCells_t, TT]
theorem data_spec (ow : Bool) (pre post : List SC) (s : Sl) (o : Nat) (hs : s.ok) (ho : pre.length = o) :
    Spec cx.P 25 [.c (.ptr 0 o)] [⟨ow, 66, pre ++ (s.cells ++ post)⟩] fun t h' => t = .c (.sl 1 0 s.d.length s.d.length) ∧ h' = [⟨ow, 66, pre ++ (s.cells ++ post)⟩, wB true s.d] := by
  unfold Sl.ok at hs
  obtain ⟨own, d, j⟩ := s
  dsimp only at hs ⊢
  have X : pre ++ (Sl.cells ⟨own, d, j⟩ ++ post) = pre ++ bC own :: (bsC (d ++ j) ++ i64 d.length :: post) := by simp [Sl.cells]
  rw [X]
  have g1 : (pre ++ bC own :: (bsC (d ++ j) ++ i64 d.length :: post)).getD (o + 1515) .any = i64 d.length := by
    rw [List.getD_eq_getElem?_getD, List.getElem?_append_right (by omega), show o + 1515 - pre.length = 1514 + 1 by omega, List.getElem?_cons_succ, List.getElem?_append_right (by simp; omega)]
    simp
    rw [show 1514 - (d.length + j.length) = 0 by omega]
    rfl
  have g2 : ((pre ++ bC own :: (bsC (d ++ j) ++ i64 d.length :: post)).drop (o + 1)).take d.length = bsC d := by
    rw [List.drop_append, List.drop_of_length_le (by omega), show o + 1 - pre.length = 1 by omega, List.nil_append, List.drop_succ_cons, List.drop_zero, List.take_append_of_le_length (by simp), bs_take, List.take_left' rfl]
  have l1 : (pre ++ bC own :: (bsC (d ++ j) ++ i64 d.length :: post)).length = o + 1516 + post.length := by simp [ho]; omega
  generalize pre ++ bC own :: (bsC (d ++ j) ++ i64 d.length :: post) = C at *
  have hC : C.isEmpty = false := by
    cases C with
    | nil => simp only [List.length_nil] at l1; omega
    | cons x C' => rfl
  refine spec_of_X cx_ok Try.func25 rfl (by kernel_rfl) (by kernel_rfl) (Nat.le_of_ble_eq_true rfl) 400 4 ?_
  simp (maxSteps := 4000000) only [Try.results25, XX, Nat.reduceBEq, Nat.reduceLT, Nat.reduceAdd, Nat.reduceMul, Nat.reduceSub, Nat.reduceLeDiff, Nat.reduceEqDiff, Int.reduceToNat, Int.reduceLT, Int.reduceLE, Int.reduceAdd, Int.reduceSub, Int.reduceEq, reduceIte, Nat.reduceBNe, Int.reducePow, Nat.reducePow, Int.reduceMul, Int.reduceNeg, isB_i, isB_b, isB_y, isBv_i, isBv_b, eqCells_t, TT]
  simp (maxSteps := 4000000) only [Try.results25, g1, l1, XX, Nat.reduceBEq, Nat.reduceLT, Nat.reduceAdd, Nat.reduceMul, Nat.reduceSub, Nat.reduceLeDiff, Nat.reduceEqDiff, Int.reduceToNat, Int.reduceLT, Int.reduceLE, Int.reduceAdd, Int.reduceSub, Int.reduceEq, reduceIte, Nat.reduceBNe, Int.reducePow, Nat.reducePow, Int.reduceMul, Int.reduceNeg, isB_i, isB_b, isB_y, isBv_i, isBv_b, eqCells_t, TT]
  refine ⟨by omega, ⟨by omega, by omega, by omega, by omega⟩, ?_⟩
  have zf : (List.replicate d.length [SC.v (.int .u8 0)]).flatten = bsC (List.replicate d.length 0) := zeros_flat _
  have tz : (bsC d).take d.length = bsC d := List.take_of_length_le (by simp)
  have dz : (bsC (List.replicate d.length (0 : UInt8))).drop d.length = [] := List.drop_of_length_le (by simp)
  rw [zf]
  have hok : ([0].all fun i => match ([⟨ow, 66, C⟩, wB true (List.replicate d.length 0)] : List SB)[i]? with | some b => !b.void | none => false) = true := by simp [SB.void, hC]
  refine draw_of cx_ok (by kernel_rfl) 400 [0] [(0, true), (1, true), (2, true), (3, true), (4, true), (5, true), (6, true), (7, true), (8, true), (9, true), (10, true), (11, true), (12, true), (13, false)] (by kernel_rfl) (by first | exact hok | simp [*]) ?_
  simp (maxSteps := 4000000) only [Try.results25, g1, g2, l1, Nat.min_self, tz, bsC_len, List.length_replicate, dz, List.append_nil, XX, Nat.reduceBEq, Nat.reduceLT, Nat.reduceAdd, Nat.reduceMul, Nat.reduceSub, Nat.reduceLeDiff, Nat.reduceEqDiff, Int.reduceToNat, Int.reduceLT, Int.reduceLE, Int.reduceAdd, Int.reduceSub, Int.reduceEq, reduceIte, Nat.reduceBNe, Int.reducePow, Nat.reducePow, Int.reduceMul, Int.reduceNeg, isB_i, isB_b, isB_y, isBv_i, isBv_b, eqCells_t, TT]
  exact ⟨by omega, by omega, ⟨by omega, by omega, by omega⟩, by omega, by omega⟩

theorem pre_len {l : List Sl} {i : Nat} {s : Sl} (hi : l[i]? = some s) (ok : ∀ s ∈ l, s.ok) : (slC (l.take i)).length = i * 1516 := by
  obtain ⟨h1, _⟩ := List.getElem?_eq_some_iff.1 hi
  rw [slC_len fun s hs => ok s (List.mem_of_mem_take hs), List.length_take, Nat.min_eq_left (by omega)]
theorem dataS_spec (ow : Bool) (l : List Sl) (i : Nat) (s : Sl) (hi : l[i]? = some s) (ok : ∀ s ∈ l, s.ok) : Spec cx.P 25 [.c (.ptr 0 (i * 1516))] [⟨ow, 66, slC l⟩] fun t h' => t = .c (.sl 1 0 s.d.length s.d.length) ∧ h' = [⟨ow, 66, slC l⟩, wB true s.d] := by
  have := data_spec ow (slC (l.take i)) (slC (l.drop (i + 1))) s (i * 1516) (ok s (List.mem_of_getElem? hi)) (pre_len hi ok)
  rwa [← slC_split hi] at this
theorem putS_spec (H : List SB) (w : Nat) (l : List Sl) (i : Nat) (s : Sl) (hi : l[i]? = some s) (ok : ∀ s ∈ l, s.ok) (own : Bool) (b sp : List UInt8) (c : Nat) (hw : H[w]? = some (stB (slC l))) (hb : b.length ≤ 1514) :
    Spec cx.P 22 [.c (.ptr w (i * 1516)), .c (roB b sp c), .c (bC own)] H fun t h' => t = .tup [] ∧ h' = H.set w (stB (slC (l.set i ⟨own, b, (s.d ++ s.j).drop b.length⟩))) := by
  have := put_spec H w (i * 1516) (slC (l.take i)) (slC (l.drop (i + 1))) s own b sp c (ok s (List.mem_of_getElem? hi)) (by rw [← slC_split hi]; exact hw) (pre_len hi ok) hb
  rwa [← slC_set hi] at this
theorem put0S_spec (H : List SB) (w : Nat) (l : List Sl) (i : Nat) (s : Sl) (hi : l[i]? = some s) (ok : ∀ s ∈ l, s.ok) (own : Bool) (hw : H[w]? = some (stB (slC l))) :
    Spec cx.P 22 [.c (.ptr w (i * 1516)), .c (.v (.slice none 0 0)), .c (bC own)] H fun t h' => t = .tup [] ∧ h' = H.set w (stB (slC (l.set i ⟨own, [], s.d ++ s.j⟩))) := by
  have := put0_spec H w (i * 1516) (slC (l.take i)) (slC (l.drop (i + 1))) s own (ok s (List.mem_of_getElem? hi)) (by rw [← slC_split hi]; exact hw) (pre_len hi ok)
  rwa [← slC_set hi] at this
theorem slC_own {l : List Sl} {i : Nat} {s : Sl} (hi : l[i]? = some s) (ok : ∀ s ∈ l, s.ok) : (slC l).getD (i * 1516) .any = bC s.own ∧ i * 1516 < (slC l).length := by
  have h := pre_len hi ok
  rw [slC_split hi]
  refine ⟨?_, by rw [List.length_append, List.length_append, Sl.cells_len (ok s (List.mem_of_getElem? hi))]; omega⟩
  rw [List.getD_eq_getElem?_getD, List.getElem?_append_right (by omega), show i * 1516 - (slC (l.take i)).length = 0 by omega]
  rfl

/-- What a card's slot is, to see. -/
theorem show1_spec (k : CK) (ok : k.ok) (i : Nat) (s : Sl) (hi : k.rx[i]? = some s) : Spec cx.P 24 [.c (.ptr 0 0), .c (i64 i)] k.h fun t h' => t = .tup [(true, [bC s.own, .sl 3 0 s.d.length s.d.length]), (false, [i64 0])] ∧ h' = k.h ++ [wB true s.d] := by
  have hlt := (List.getElem?_eq_some_iff.1 hi).1
  obtain ⟨g1, g2⟩ := slC_own hi ok.rs
  have r1 := ok.rx1
  have hD := dataS_spec false k.rx i s hi ok.rs
  have hc : (slC k.rx).all (SC.lt 1) = true := slC_lt 1 _
  refine Spec.wk (K := fun t h' => t = .tup [(true, [bC s.own, .sl 4 0 s.d.length s.d.length]), (false, [i64 0])] ∧ ∃ x, h' = k.h ++ [x, wB true s.d]) ?_ fun t h' ⟨h1, x, h2⟩ => ⟨.tup [(true, [bC s.own, .sl 3 0 s.d.length s.d.length]), (false, [i64 0])], k.h ++ [wB true s.d], [some 0, some 1, some 2, some 4], rfl, by subst h2; simp only [XX, Nat.reduceBEq, Nat.reduceLT, Nat.reduceAdd, Nat.reduceMul, Nat.reduceSub, Nat.reduceLeDiff, Nat.reduceEqDiff, Int.reduceToNat, Int.reduceLT, Int.reduceLE, Int.reduceAdd, Int.reduceSub, Int.reduceEq, reduceIte, Nat.reduceBNe, Int.reducePow, Nat.reducePow, Int.reduceMul, Int.reduceNeg, isB_i, isB_b, isB_y, isBv_i, isBv_b, eqCells_t, TT, ids_bsC, ren_bsC, noRo_bsC, plain_bsC, lt_bsC, ids_byte, ren_byte, noRo_byte, plain_byte, lt_byte, slC_ren]; exact ⟨.inl (slC_ids _ _), .inl (slC_ids _ _)⟩, by subst h1; simp only [XX, Nat.reduceBEq, Nat.reduceLT, Nat.reduceAdd, Nat.reduceMul, Nat.reduceSub, Nat.reduceLeDiff, Nat.reduceEqDiff, Int.reduceToNat, Int.reduceLT, Int.reduceLE, Int.reduceAdd, Int.reduceSub, Int.reduceEq, reduceIte, Nat.reduceBNe, Int.reducePow, Nat.reducePow, Int.reduceMul, Int.reduceNeg, isB_i, isB_b, isB_y, isBv_i, isBv_b, eqCells_t, TT, ids_bsC, ren_bsC, noRo_bsC, plain_bsC, lt_bsC, ids_byte, ren_byte, noRo_byte, plain_byte, lt_byte], rfl, rfl⟩
  refine spec_of_X cx_ok Try.func24 rfl (by kernel_rfl) (by kernel_rfl) (Nat.le_of_ble_eq_true rfl) 400 7 ?_
  simp (maxSteps := 4000000) only [Try.results24, XX, Nat.reduceBEq, Nat.reduceLT, Nat.reduceAdd, Nat.reduceMul, Nat.reduceSub, Nat.reduceLeDiff, Nat.reduceEqDiff, Int.reduceToNat, Int.reduceLT, Int.reduceLE, Int.reduceAdd, Int.reduceSub, Int.reduceEq, reduceIte, Nat.reduceBNe, Int.reducePow, Nat.reducePow, Int.reduceMul, Int.reduceNeg, isB_i, isB_b, isB_y, isBv_i, isBv_b, eqCells_t, TT]
  refine call_is (at1_spec true _ 0 1 2 _ _ _ _ _ _ _ rfl i hlt r1) ?_
  rintro _ _ ⟨rfl, rfl⟩
  simp (maxSteps := 4000000) only [Try.results24, XX, Nat.reduceBEq, Nat.reduceLT, Nat.reduceAdd, Nat.reduceMul, Nat.reduceSub, Nat.reduceLeDiff, Nat.reduceEqDiff, Int.reduceToNat, Int.reduceLT, Int.reduceLE, Int.reduceAdd, Int.reduceSub, Int.reduceEq, reduceIte, Nat.reduceBNe, Int.reducePow, Nat.reducePow, Int.reduceMul, Int.reduceNeg, isB_i, isB_b, isB_y, isBv_i, isBv_b, eqCells_t, TT]
  refine draw_of cx_ok (by kernel_rfl) 400 [1] [(0, true), (1, true), (2, true), (3, true), (4, true), (5, false), (6, true), (7, false), (8, true)] (by kernel_rfl) rfl ?_
  simp (maxSteps := 4000000) only [Try.results24, g1, g2, XX, Nat.reduceBEq, Nat.reduceLT, Nat.reduceAdd, Nat.reduceMul, Nat.reduceSub, Nat.reduceLeDiff, Nat.reduceEqDiff, Int.reduceToNat, Int.reduceLT, Int.reduceLE, Int.reduceAdd, Int.reduceSub, Int.reduceEq, reduceIte, Nat.reduceBNe, Int.reducePow, Nat.reducePow, Int.reduceMul, Int.reduceNeg, isB_i, isB_b, isB_y, isBv_i, isBv_b, eqCells_t, TT]
  refine call_frame hD [1] rfl rfl ?_ rfl ?_ ?_
  · simp only [XX, Nat.reduceBEq, Nat.reduceLT, Nat.reduceAdd, Nat.reduceMul, Nat.reduceSub, Nat.reduceLeDiff, Nat.reduceEqDiff, Int.reduceToNat, Int.reduceLT, Int.reduceLE, Int.reduceAdd, Int.reduceSub, Int.reduceEq, reduceIte, Nat.reduceBNe, Int.reducePow, Nat.reducePow, Int.reduceMul, Int.reduceNeg, isB_i, isB_b, isB_y, isBv_i, isBv_b, eqCells_t, TT, preOk, ids_bsC, ren_bsC, noRo_bsC, plain_bsC, lt_bsC, ids_byte, ren_byte, noRo_byte, plain_byte, lt_byte, slC_ren]
  · simp only [XX, Nat.reduceBEq, Nat.reduceLT, Nat.reduceAdd, Nat.reduceMul, Nat.reduceSub, Nat.reduceLeDiff, Nat.reduceEqDiff, Int.reduceToNat, Int.reduceLT, Int.reduceLE, Int.reduceAdd, Int.reduceSub, Int.reduceEq, reduceIte, Nat.reduceBNe, Int.reducePow, Nat.reducePow, Int.reduceMul, Int.reduceNeg, isB_i, isB_b, isB_y, isBv_i, isBv_b, eqCells_t, TT, ids_bsC, ren_bsC, noRo_bsC, plain_bsC, lt_bsC, ids_byte, ren_byte, noRo_byte, plain_byte, lt_byte, hc]
  rintro _ _ ⟨rfl, rfl⟩
  simp (maxSteps := 4000000) only [Try.results24, ids_bsC, ren_bsC, noRo_bsC, plain_bsC, lt_bsC, ids_byte, ren_byte, noRo_byte, plain_byte, lt_byte, XX, Nat.reduceBEq, Nat.reduceLT, Nat.reduceAdd, Nat.reduceMul, Nat.reduceSub, Nat.reduceLeDiff, Nat.reduceEqDiff, Int.reduceToNat, Int.reduceLT, Int.reduceLE, Int.reduceAdd, Int.reduceSub, Int.reduceEq, reduceIte, Nat.reduceBNe, Int.reducePow, Nat.reducePow, Int.reduceMul, Int.reduceNeg, isB_i, isB_b, isB_y, isBv_i, isBv_b, eqCells_t, TT]
  exact ⟨_, rfl⟩
end Go.Proofs.Ytdfhmpheepobnaa.Sx
