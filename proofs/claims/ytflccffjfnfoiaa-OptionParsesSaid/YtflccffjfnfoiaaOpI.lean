/- The symbolic executor, at work: the document's Parse. No condition. -/
import Derived.Test.YtflccffjfnfoiaaOpH
namespace Go.Proofs.Ytflccffjfnfoiaa.Sx
open Go
set_option linter.unusedSimpArgs false
set_option linter.unusedVariables false
set_option maxRecDepth 10000
set_option maxHeartbeats 2000000

theorem rparse_spec (ps : List PT4) (rs : List RC) (c : Nat) (hok : ∀ p ∈ ps, p.ok) (hn : ps.length ≤ 140737488351232) (hT : lenP ps ≤ 140737488351232) : Spec cx.P 18 [.c (partsV ps rs c)] [] (resP (parseA (bytesP ps) [])) := by
  refine resP_of ?_
  refine spec_of_X cx_ok Try.func18 rfl (by kernel_rfl) (by kernel_rfl) (Nat.le_of_ble_eq_true rfl) 400 11 ?_
  simp (maxSteps := 4000000) only [Try.results18, XX, Nat.reduceBEq, Nat.reduceLT, Nat.reduceAdd, Nat.reduceMul, Nat.reduceSub, Nat.reduceLeDiff, Nat.reduceEqDiff, Int.reduceToNat, Int.reduceLT, Int.reduceLE, Int.reduceAdd, Int.reduceSub, Int.reduceEq, reduceIte, Nat.reduceBNe, Int.reducePow, Nat.reducePow, Int.reduceMul, Int.reduceNeg, isB_i, isB_b, isB_y, isBv_i, isBv_b, eqCells_t, TT]
  refine loop_any cx_ok 400 (fun μ σ => ∃ (i : Nat) (H : List SB) (iO : Nat) (o : Bool) (es : List PE) (r : Nat), μ = ps.length - i ∧ i ≤ ps.length ∧ Opts H iO o es r ∧ es.length ≤ 64 ∧ parseA (bytesP (ps.drop i)) (es.map PE.pi) = parseA (bytesP ps) [] ∧ (es.map fun e => e.d.length).sum + lenP (ps.drop i) ≤ lenP ps ∧
      σ = ⟨⟨11, 0⟩, [(0, .c (partsV ps rs c)), (4, .c (.sl iO 0 es.length (es.length + r))), (5, .c (i64 i))], H⟩) ps.length
    ⟨⟨11, 0⟩, [(0, .c (partsV ps rs c)), (4, .c (.sl 0 0 0 0)), (5, .c (i64 (0 : Nat)))], [optB false []]⟩ ⟨0, [optB false []], 0, false, [], 0, rfl, Nat.zero_le _, ⟨rfl, fun h => absurd h (by simp), fun i e h => by simp at h, fun i j e f _ h => by simp at h⟩, by simp, by simp, by simp, rfl⟩ ?_ ?_
  · exact .inr ⟨[none], rfl, rfl, ⟨⟨rfl, rfl⟩, trivial⟩, ⟨.inl ⟨rfl, rfl⟩, .inr (.inr (.inr ⟨_, _, rfl, .inl rfl⟩)), .inl ⟨rfl, rfl⟩, trivial⟩⟩
  rintro μ σ ⟨i, H, iO, o, es, r, rfl, hi, O, hes, hpar, hsum, rfl⟩
  by_cases hlt : i < ps.length
  · have hd : decide ((i : Int) < (ps.length : Int)) = true := by simp only [decide_eq_true_eq]; omega
    have e3 : IntKind.i64.wrap ((i : Int) + 1) = ((i + 1 : Nat) : Int) := by rw [w64] <;> omega
    obtain ⟨p, hp⟩ : ∃ p, ps[i]? = some p := ⟨_, List.getElem?_eq_getElem hlt⟩
    obtain ⟨R, hR⟩ := dropO (rs := rs) hp
    have hdr : ps.drop i = p :: ps.drop (i + 1) := by
      rw [List.drop_eq_getElem_cons hlt, (List.getElem?_eq_some_iff.1 hp).2]
    have hpc := hok p (List.mem_of_getElem? hp)
    have hpar0 : contA (parse1 p.1 (es.map PE.pi)) (bytesP (ps.drop (i + 1))) = parseA (bytesP ps) [] := by
      rw [← hpar, hdr]; rfl
    have hsum0 : (es.map fun e => e.d.length).sum + p.1.length + lenP (ps.drop (i + 1)) ≤ lenP ps := by
      rw [hdr] at hsum
      simp only [lenP, List.map_cons, List.sum_cons] at hsum ⊢
      omega
    simp (maxSteps := 4000000) only [Try.results18, hd, hR, XX, Nat.reduceBEq, Nat.reduceLT, Nat.reduceAdd, Nat.reduceMul, Nat.reduceSub, Nat.reduceLeDiff, Nat.reduceEqDiff, Int.reduceToNat, Int.reduceLT, Int.reduceLE, Int.reduceAdd, Int.reduceSub, Int.reduceEq, reduceIte, Nat.reduceBNe, Int.reducePow, Nat.reducePow, Int.reduceMul, Int.reduceNeg, isB_i, isB_b, isB_y, isBv_i, isBv_b, eqCells_t, TT]
    refine ⟨by omega, by omega, ?_⟩
    obtain ⟨B, sp, c'⟩ := p
    have hc1 := hpc.c
    have hc2 := hpc.m
    dsimp only at hc1 hc2 hpar0 hsum0 ⊢
    refine loop_any cx_ok 400 (fun μ σ => ∃ (at_ : Nat) (H : List SB) (iO : Nat) (o : Bool) (es : List PE) (r : Nat), μ = B.length - at_ ∧ at_ ≤ B.length ∧ Opts H iO o es r ∧ es.length ≤ 64 ∧ contA (parse1 (B.drop at_) (es.map PE.pi)) (bytesP (ps.drop (i + 1))) = parseA (bytesP ps) [] ∧ (es.map fun e => e.d.length).sum + (B.length - at_) + lenP (ps.drop (i + 1)) ≤ lenP ps ∧
        σ = ⟨⟨11, 0⟩, [(0, .c (partsV ps rs c)), (4, .c (.sl iO 0 es.length (es.length + r))), (5, .c (i64 i)), (6, .c (roB B sp c')), (7, .c (i64 at_))], H⟩) B.length
      ⟨⟨11, 0⟩, [(0, .c (partsV ps rs c)), (4, .c (.sl iO 0 es.length (es.length + r))), (5, .c (i64 i)), (6, .c (roB B sp c')), (7, .c (i64 (0 : Nat)))], H⟩ ⟨0, H, iO, o, es, r, rfl, Nat.zero_le _, O, hes, hpar0, hsum0, rfl⟩ (.inl ⟨rfl, rfl, rfl, rfl, rfl, rfl, rfl, trivial⟩) ?_
    clear hpar0 hsum0 hpar hsum hes O hR R
    rintro μ σ ⟨at_, H, iO, o, es, r, rfl, ha1, O, hes, hpar, hsum, rfl⟩
    have hrow := O.row
    have lrow := lt_of hrow
    have hbs : (bsR (B ++ sp)).drop at_ = bsR (B.drop at_ ++ sp) := by rw [rs_drop, List.drop_append_of_le_length ha1]
    have hbl : (B.drop at_).length = B.length - at_ := List.length_drop
    cases hl : B.drop at_ with
    | nil =>
      rw [hl] at hbs hpar hbl
      obtain rfl : at_ = B.length := by simp only [List.length_nil] at hbl; omega
      have hb0 : decide ((B.length : Int) < (B.length : Int)) = false := by simp
      rw [parse1_nil] at hpar
      cases sp with
      | nil =>
        have hbs' : (bsR B).drop B.length = [] := by rw [List.append_nil] at hbs; exact hbs
        simp (maxSteps := 4000000) only [Try.results18, hb0, e3, hbs', ge0O, binS_uO, byteR_sc, XX, Nat.reduceBEq, Nat.reduceLT, Nat.reduceAdd, Nat.reduceMul, Nat.reduceSub, Nat.reduceLeDiff, Nat.reduceEqDiff, Int.reduceToNat, Int.reduceLT, Int.reduceLE, Int.reduceAdd, Int.reduceSub, Int.reduceEq, reduceIte, Nat.reduceBNe, Int.reducePow, Nat.reducePow, Int.reduceMul, Int.reduceNeg, isB_i, isB_b, isB_y, isBv_i, isBv_b, eqCells_t, TT]
        exact ⟨ps.length - (i + 1), by omega, _, ⟨i + 1, H, iO, o, es, r, rfl, by omega, O, hes, hpar, by omega, rfl⟩, .inl ⟨rfl, rfl, rfl, rfl, rfl, trivial⟩⟩
      | cons y sp =>
        have hbs' : (bsR (B ++ y :: sp)).drop B.length = byteR y :: bsR sp := hbs
        simp (maxSteps := 4000000) only [Try.results18, hb0, e3, hbs', ge0O, binS_uO, byteR_sc, XX, Nat.reduceBEq, Nat.reduceLT, Nat.reduceAdd, Nat.reduceMul, Nat.reduceSub, Nat.reduceLeDiff, Nat.reduceEqDiff, Int.reduceToNat, Int.reduceLT, Int.reduceLE, Int.reduceAdd, Int.reduceSub, Int.reduceEq, reduceIte, Nat.reduceBNe, Int.reducePow, Nat.reducePow, Int.reduceMul, Int.reduceNeg, isB_i, isB_b, isB_y, isBv_i, isBv_b, eqCells_t, TT]
        exact ⟨ps.length - (i + 1), by omega, _, ⟨i + 1, H, iO, o, es, r, rfl, by omega, O, hes, hpar, by omega, rfl⟩, .inl ⟨rfl, rfl, rfl, rfl, rfl, trivial⟩⟩
    | cons x l =>
      rw [hl] at hbs hpar hbl
      have hl0 : decide ((at_ : Int) < (B.length : Int)) = true := by simp only [decide_eq_true_eq, List.length_cons] at hbl ⊢; omega
      have hbs' : (bsR (B ++ sp)).drop at_ = byteR x :: bsR (l ++ sp) := hbs
      have hdn : B.drop (at_ + 1) = l := by rw [← List.drop_drop, hl]; rfl
      have w0 : IntKind.i64.wrap 0 = 0 := by decide
      have t255 : ((255 : UInt8).toNat : Int) = 255 := rfl
      have t0 : ((0 : UInt8).toNat : Int) = 0 := rfl
      have ex : IntKind.i64.wrap (x.toNat : Int) = (x.toNat : Int) := by have := x.toNat_lt; rw [w64] <;> omega
      have ea : IntKind.i64.wrap ((at_ : Int) + 1) = ((at_ + 1 : Nat) : Int) := by rw [w64] <;> omega
      simp only [List.length_cons] at hbl
      by_cases hx : x = 255
      · subst hx
        simp (maxSteps := 4000000) only [Try.results18, hl0, hbs', t255, byteR_sc, e3, XX, Nat.reduceBEq, Nat.reduceLT, Nat.reduceAdd, Nat.reduceMul, Nat.reduceSub, Nat.reduceLeDiff, Nat.reduceEqDiff, Int.reduceToNat, Int.reduceLT, Int.reduceLE, Int.reduceAdd, Int.reduceSub, Int.reduceEq, reduceIte, Nat.reduceBNe, Int.reducePow, Nat.reducePow, Int.reduceMul, Int.reduceNeg, isB_i, isB_b, isB_y, isBv_i, isBv_b, eqCells_t, TT]
        rw [parse1_end] at hpar
        refine ⟨by omega, by omega, ?_⟩
        exact ⟨ps.length - (i + 1), by omega, _, ⟨i + 1, H, iO, o, es, r, rfl, by omega, O, hes, hpar, by omega, rfl⟩, .inl ⟨rfl, rfl, rfl, rfl, rfl, trivial⟩⟩
      have dx : decide ((x.toNat : Int) = 255) = false := by
        simp only [decide_eq_false_iff_not]; intro h; exact hx (UInt8.toNat_inj.1 (by show x.toNat = 255; omega))
      by_cases hx0 : x = 0
      · subst hx0
        simp (maxSteps := 4000000) only [Try.results18, hl0, hbs', t0, byteR_sc, w0, ea, XX, Nat.reduceBEq, Nat.reduceLT, Nat.reduceAdd, Nat.reduceMul, Nat.reduceSub, Nat.reduceLeDiff, Nat.reduceEqDiff, Int.reduceToNat, Int.reduceLT, Int.reduceLE, Int.reduceAdd, Int.reduceSub, Int.reduceEq, reduceIte, Nat.reduceBNe, Int.reducePow, Nat.reducePow, Int.reduceMul, Int.reduceNeg, isB_i, isB_b, isB_y, isBv_i, isBv_b, eqCells_t, TT]
        rw [parse1_pad] at hpar
        refine ⟨by omega, by omega, by omega, by omega, B.length - (at_ + 1), by omega, _, ⟨at_ + 1, H, iO, o, es, r, rfl, by omega, O, hes, by rw [hdn]; exact hpar, by omega, rfl⟩, .inl ⟨rfl, rfl, rfl, rfl, rfl, rfl, rfl, trivial⟩⟩
      have dx0 : decide ((x.toNat : Int) = 0) = false := by
        simp only [decide_eq_false_iff_not]; intro h; exact hx0 (UInt8.toNat_inj.1 (by show x.toNat = 0; omega))
      simp (maxSteps := 4000000) only [Try.results18, hl0, hbs', byteR_sc, dx, dx0, ex, ea, XX, Nat.reduceBEq, Nat.reduceLT, Nat.reduceAdd, Nat.reduceMul, Nat.reduceSub, Nat.reduceLeDiff, Nat.reduceEqDiff, Int.reduceToNat, Int.reduceLT, Int.reduceLE, Int.reduceAdd, Int.reduceSub, Int.reduceEq, reduceIte, Nat.reduceBNe, Int.reducePow, Nat.reducePow, Int.reduceMul, Int.reduceNeg, isB_i, isB_b, isB_y, isBv_i, isBv_b, eqCells_t, TT]
      refine ⟨by omega, by omega, by omega, by omega, ?_⟩
      have ps1 := place2_spec (es.map PE.oi) [] (es.length + r) (by rw [List.length_map]; omega) (x.toNat : Int)
      rw [show (es.map PE.oi).map OI.k = es.map PE.k by rw [List.map_map]; rfl] at ps1
      refine call_pureF [.c (roO (es.map PE.oi) [] (es.length + r)), .c (i64 (x.toNat : Int))] ps1 ⟨O.fz, .inl ⟨rfl, rfl⟩, trivial⟩ ?_
      rintro _ rfl
      have hk : atK ((es.map PE.pi).map (·.1)) (x.toNat : Int) = atK (es.map PE.k) (x.toNat : Int) := by rw [List.map_map]; rfl
      have ea2 : IntKind.i64.wrap (((at_ + 1 : Nat) : Int) + 1) = ((at_ + 2 : Nat) : Int) := by rw [w64] <;> omega
      rcases atK_cases (es.map PE.k) (x.toNat : Int) with ⟨j, hj, hkj, ha⟩ | ⟨hno, ha⟩
      · rw [ha] at hk ⊢
        have hnb : ¬ (atK ((es.map PE.pi).map (·.1)) (x.toNat : Int) < 0 ∧ (es.map PE.pi).length = 64) := by rw [hk]; omega
        have dj : decide ((j : Int) < 0) = false := by simp only [decide_eq_false_iff_not]; omega
        cases l with
        | nil =>
          rw [parse1_short hx hx0 hnb] at hpar
          rw [← hpar]
          have eB : at_ + 1 = B.length := by simp only [List.length_nil] at hbl; omega
          have dB : decide (((at_ + 1 : Nat) : Int) = (B.length : Int)) = true := by simp only [decide_eq_true_eq]; omega
          cases sp with
          | nil =>
            have hb1 : (bsR B).drop (at_ + 1) = [] := by rw [rs_drop, hdn]; rfl
            simp (maxSteps := 4000000) only [Try.results18, dj, Bool.false_and, hb1, dB, ea2, ge0O, binS_uO, conv_uO, binS_ib, binS_bi, byteR_sc, XX, Nat.reduceBEq, Nat.reduceLT, Nat.reduceAdd, Nat.reduceMul, Nat.reduceSub, Nat.reduceLeDiff, Nat.reduceEqDiff, Int.reduceToNat, Int.reduceLT, Int.reduceLE, Int.reduceAdd, Int.reduceSub, Int.reduceEq, reduceIte, Nat.reduceBNe, Int.reducePow, Nat.reducePow, Int.reduceMul, Int.reduceNeg, isB_i, isB_b, isB_y, isBv_i, isBv_b, eqCells_t, TT]
            exact rfl
          | cons y sp =>
            have hb1 : (bsR (B ++ y :: sp)).drop (at_ + 1) = byteR y :: bsR sp := by rw [rs_drop, List.drop_append_of_le_length (by omega), hdn]; rfl
            simp (maxSteps := 4000000) only [Try.results18, dj, Bool.false_and, hb1, dB, ea2, ge0O, binS_uO, conv_uO, binS_ib, binS_bi, byteR_sc, XX, Nat.reduceBEq, Nat.reduceLT, Nat.reduceAdd, Nat.reduceMul, Nat.reduceSub, Nat.reduceLeDiff, Nat.reduceEqDiff, Int.reduceToNat, Int.reduceLT, Int.reduceLE, Int.reduceAdd, Int.reduceSub, Int.reduceEq, reduceIte, Nat.reduceBNe, Int.reducePow, Nat.reducePow, Int.reduceMul, Int.reduceNeg, isB_i, isB_b, isB_y, isBv_i, isBv_b, eqCells_t, TT]
            exact rfl
        | cons n l =>
          have hb1 : (bsR (B ++ sp)).drop (at_ + 1) = byteR n :: bsR (l ++ sp) := by rw [rs_drop, List.drop_append_of_le_length (by omega), hdn]; rfl
          have en : IntKind.i64.wrap (n.toNat : Int) = (n.toNat : Int) := by have := n.toNat_lt; rw [w64] <;> omega
          have bn := n.toNat_lt
          simp only [List.length_cons] at hbl
          have dB : decide (((at_ + 1 : Nat) : Int) = (B.length : Int)) = false := by simp only [decide_eq_false_iff_not]; omega
          have ea3 : IntKind.i64.wrap (((at_ + 2 : Nat) : Int) + (n.toNat : Int)) = ((at_ + 2 + n.toNat : Nat) : Int) := by rw [w64] <;> omega
          by_cases hs : l.length < n.toNat
          · rw [parse1_cut hx hx0 hnb hs] at hpar
            rw [← hpar]
            have dn : decide ((B.length : Int) < ((at_ + 2 + n.toNat : Nat) : Int)) = true := by simp only [decide_eq_true_eq]; omega
            simp (maxSteps := 4000000) only [Try.results18, dj, Bool.false_and, hb1, dB, ea2, ea3, byteR_sc, dn, en, XX, Nat.reduceBEq, Nat.reduceLT, Nat.reduceAdd, Nat.reduceMul, Nat.reduceSub, Nat.reduceLeDiff, Nat.reduceEqDiff, Int.reduceToNat, Int.reduceLT, Int.reduceLE, Int.reduceAdd, Int.reduceSub, Int.reduceEq, reduceIte, Nat.reduceBNe, Int.reducePow, Nat.reducePow, Int.reduceMul, Int.reduceNeg, isB_i, isB_b, isB_y, isBv_i, isBv_b, eqCells_t, TT]
            exact ⟨by omega, by omega, rfl⟩
          · rw [parse1_put hx hx0 hnb (by omega)] at hpar
            have dn : decide ((B.length : Int) < ((at_ + 2 + n.toNat : Nat) : Int)) = false := by simp only [decide_eq_false_iff_not]; omega
            have d2 : B.drop (at_ + 2 + n.toNat) = l.drop n.toNat := by rw [show at_ + 2 + n.toNat = at_ + 1 + (1 + n.toNat) by omega, ← List.drop_drop, hdn, Nat.add_comm 1, List.drop_succ_cons]
            have lt1 : (bsC (l.take n.toNat)).length = n.toNat := by rw [bsC_len, List.length_take]; omega
            have d1 : ((bsR (B ++ sp)).drop (at_ + 2)).take n.toNat = bsR (l.take n.toNat) := by rw [rs_drop, rs_take, List.drop_append_of_le_length (by omega), show at_ + 2 = at_ + 1 + 1 from rfl, ← List.drop_drop, hdn, List.drop_succ_cons, List.drop_zero, List.take_append_of_le_length (by omega)]
            have d3 : at_ + 2 + n.toNat - (at_ + 2) = n.toNat := by omega
            simp (maxSteps := 4000000) only [Try.results18, dj, Bool.false_and, hb1, dB, ea2, ea3, byteR_sc, dn, en, hrow, lrow, List.append_assoc, List.getElem?_append_left, List.getElem?_append_right, List.length_append, List.length_set, List.set_append_left, gset, List.getElem?_set_ne, Nat.add_sub_cancel_left, Nat.sub_self, Nat.le_refl, Nat.le_add_right, List.replicate_one, List.flatten_cons, List.flatten_nil, rep_flat, XX, Nat.reduceBEq, Nat.reduceLT, Nat.reduceAdd, Nat.reduceMul, Nat.reduceSub, Nat.reduceLeDiff, Nat.reduceEqDiff, Int.reduceToNat, Int.reduceLT, Int.reduceLE, Int.reduceAdd, Int.reduceSub, Int.reduceEq, reduceIte, Nat.reduceBNe, Int.reducePow, Nat.reducePow, Int.reduceMul, Int.reduceNeg, isB_i, isB_b, isB_y, isBv_i, isBv_b, eqCells_t, TT]
            refine ⟨by omega, by omega, by omega, by omega, ?_⟩
            have hj' : j < es.length := by simpa using hj
            obtain ⟨e, he⟩ : ∃ e, es[j]? = some e := ⟨_, List.getElem?_eq_getElem hj'⟩
            obtain ⟨hw, ow⟩ := O.at_ j e he
            have lw := lt_of hw
            have gk := (row_get (r := r) he).2
            have lr := rowC_len es r
            refine draw_of cx_ok (by kernel_rfl) 400 [] [(0, true), (1, true), (2, true), (3, true), (4, true), (5, true), (7, true), (8, true), (9, true), (10, true), (11, true), (12, true), (13, true), (14, true), (6, false), (15, false), (16, true), (17, true), (18, false)] (by kernel_rfl) (by first | exact hok | simp [*]) ?_
            simp (maxSteps := 4000000) only [Try.results18, hrow, lrow, hw, lw, gk, ea2, ea3, d1, d3, lt1, bsR_toSC, maskL_nil, unL_nil, List.append_assoc, List.getElem?_append_left, List.getElem?_append_right, List.length_append, List.length_set, List.set_append_left, gset, List.getElem?_set_ne, Nat.add_sub_cancel_left, Nat.sub_self, Nat.le_refl, Nat.le_add_right, List.replicate_one, List.flatten_cons, List.flatten_nil, rep_flat, XX, Nat.reduceBEq, Nat.reduceLT, Nat.reduceAdd, Nat.reduceMul, Nat.reduceSub, Nat.reduceLeDiff, Nat.reduceEqDiff, Int.reduceToNat, Int.reduceLT, Int.reduceLE, Int.reduceAdd, Int.reduceSub, Int.reduceEq, reduceIte, Nat.reduceBNe, Int.reducePow, Nat.reducePow, Int.reduceMul, Int.reduceNeg, isB_i, isB_b, isB_y, isBv_i, isBv_b, eqCells_t, TT]
            have l1 := bsC_len (e.d ++ e.sp)
            refine ⟨by omega, by omega, by rw [flatc_len, rep_len (sz := 2) rfl]; omega, ⟨⟨?_, ?_, by rw [l1, List.length_append]; omega, fun h => ⟨?_, by rw [l1, List.length_append]; omega⟩⟩, by simp; omega⟩, xapp_any ⟨hw, ow⟩ rfl (by rw [List.length_take]; omega) rfl rfl ?_⟩
            · have := sum_le he; omega
            · have := sum_le he; unfold maxLen; omega
            · by_cases hz : n.toNat = 0
              · exact .inl hz
              · exact .inr (ow (by omega))
            intro G' w' sp' o' B' hG' hkp' hw'
            have hrow' := (hkp' iO lrow (O.neR he).symm).trans hrow
            have lrow' := lt_of hrow'
            have lw' := lt_of B'.at_
            simp (maxSteps := 4000000) only [Try.results18, hrow', lrow', hw, lw, lw', B'.at_, gk, ea2, ea3, d1, d3, lt1, bsR_toSC, maskL_nil, unL_nil, List.append_assoc, List.getElem?_append_left, List.getElem?_append_right, List.length_append, List.length_set, List.set_append_left, gset, List.getElem?_set_ne, Nat.add_sub_cancel_left, Nat.sub_self, Nat.le_refl, Nat.le_add_right, List.replicate_one, List.flatten_cons, List.flatten_nil, rep_flat, XX, Nat.reduceBEq, Nat.reduceLT, Nat.reduceAdd, Nat.reduceMul, Nat.reduceSub, Nat.reduceLeDiff, Nat.reduceEqDiff, Int.reduceToNat, Int.reduceLT, Int.reduceLE, Int.reduceAdd, Int.reduceSub, Int.reduceEq, reduceIte, Nat.reduceBNe, Int.reducePow, Nat.reducePow, Int.reduceMul, Int.reduceNeg, isB_i, isB_b, isB_y, isBv_i, isBv_b, eqCells_t, TT]
            have hek : e.k = (x.toNat : Int) := by rw [List.getElem?_map, he] at hkj; simpa using hkj
            have On := opts_old (d := l.take n.toNat) O he B' hG' hkp' hw' (row_store (r := r) (f := ⟨e.k, e.d ++ l.take n.toNat, w', sp', o'⟩) he rfl)
            rw [putP_hit hk (x := e.d) (by rw [List.getElem?_map, he, ← hek]; rfl)] at hpar
            refine ⟨by omega, ⟨O.own (by omega), by rw [flatc_len, rep_len (sz := 2) rfl]; omega⟩, B.length - (at_ + 2 + n.toNat), by omega, ⟨⟨11, 0⟩, [(0, .c (partsV ps rs c)), (4, .c ((.sl iO 0 es.length (es.length + r)))), (5, .c (i64 i)), (6, .c (roB B sp c')), (7, .c (i64 (at_ + 2 + n.toNat : Nat)))], _⟩, ⟨at_ + 2 + n.toNat, _, iO, o, _, r, rfl, by omega, On, by rw [List.length_set]; exact hes, ?_, ?_, by rw [List.length_set]⟩, .inl ⟨rfl, rfl, rfl, rfl, rfl, rfl, rfl, trivial⟩⟩
            · rw [d2, ← hpar, List.map_set, ← hek]
            · rw [sum_set (m := n.toNat) he (by simp; omega)]; omega
      · rw [ha] at hk ⊢
        by_cases h64 : es.length = 64
        · have d64 : decide ((es.length : Int) = 64) = true := by simp only [decide_eq_true_eq]; omega
          simp (maxSteps := 4000000) only [Try.results18, d64, XX, Nat.reduceBEq, Nat.reduceLT, Nat.reduceAdd, Nat.reduceMul, Nat.reduceSub, Nat.reduceLeDiff, Nat.reduceEqDiff, Int.reduceToNat, Int.reduceLT, Int.reduceLE, Int.reduceAdd, Int.reduceSub, Int.reduceEq, reduceIte, Nat.reduceBNe, Int.reducePow, Nat.reducePow, Int.reduceMul, Int.reduceNeg, isB_i, isB_b, isB_y, isBv_i, isBv_b, eqCells_t, TT]
          rw [parse1_many l hx hx0 hk (by rw [List.length_map]; exact h64)] at hpar
          rw [← hpar]
          exact rfl
        · have d64 : decide ((es.length : Int) = 64) = false := by simp only [decide_eq_false_iff_not]; omega
          have hnb : ¬ (atK ((es.map PE.pi).map (·.1)) (x.toNat : Int) < 0 ∧ (es.map PE.pi).length = 64) := by rw [List.length_map]; omega
          cases l with
          | nil =>
            rw [parse1_short hx hx0 hnb] at hpar
            rw [← hpar]
            have eB : at_ + 1 = B.length := by simp only [List.length_nil] at hbl; omega
            have dB : decide (((at_ + 1 : Nat) : Int) = (B.length : Int)) = true := by simp only [decide_eq_true_eq]; omega
            cases sp with
            | nil =>
              have hb1 : (bsR B).drop (at_ + 1) = [] := by rw [rs_drop, hdn]; rfl
              simp (maxSteps := 4000000) only [Try.results18, d64, hb1, dB, ea2, ge0O, binS_uO, conv_uO, binS_ib, binS_bi, byteR_sc, XX, Nat.reduceBEq, Nat.reduceLT, Nat.reduceAdd, Nat.reduceMul, Nat.reduceSub, Nat.reduceLeDiff, Nat.reduceEqDiff, Int.reduceToNat, Int.reduceLT, Int.reduceLE, Int.reduceAdd, Int.reduceSub, Int.reduceEq, reduceIte, Nat.reduceBNe, Int.reducePow, Nat.reducePow, Int.reduceMul, Int.reduceNeg, isB_i, isB_b, isB_y, isBv_i, isBv_b, eqCells_t, TT]
              exact rfl
            | cons y sp =>
              have hb1 : (bsR (B ++ y :: sp)).drop (at_ + 1) = byteR y :: bsR sp := by rw [rs_drop, List.drop_append_of_le_length (by omega), hdn]; rfl
              simp (maxSteps := 4000000) only [Try.results18, d64, hb1, dB, ea2, ge0O, binS_uO, conv_uO, binS_ib, binS_bi, byteR_sc, XX, Nat.reduceBEq, Nat.reduceLT, Nat.reduceAdd, Nat.reduceMul, Nat.reduceSub, Nat.reduceLeDiff, Nat.reduceEqDiff, Int.reduceToNat, Int.reduceLT, Int.reduceLE, Int.reduceAdd, Int.reduceSub, Int.reduceEq, reduceIte, Nat.reduceBNe, Int.reducePow, Nat.reducePow, Int.reduceMul, Int.reduceNeg, isB_i, isB_b, isB_y, isBv_i, isBv_b, eqCells_t, TT]
              exact rfl
          | cons n l =>
            have hb1 : (bsR (B ++ sp)).drop (at_ + 1) = byteR n :: bsR (l ++ sp) := by rw [rs_drop, List.drop_append_of_le_length (by omega), hdn]; rfl
            have en : IntKind.i64.wrap (n.toNat : Int) = (n.toNat : Int) := by have := n.toNat_lt; rw [w64] <;> omega
            have bn := n.toNat_lt
            simp only [List.length_cons] at hbl
            have dB : decide (((at_ + 1 : Nat) : Int) = (B.length : Int)) = false := by simp only [decide_eq_false_iff_not]; omega
            have ea3 : IntKind.i64.wrap (((at_ + 2 : Nat) : Int) + (n.toNat : Int)) = ((at_ + 2 + n.toNat : Nat) : Int) := by rw [w64] <;> omega
            by_cases hs : l.length < n.toNat
            · rw [parse1_cut hx hx0 hnb hs] at hpar
              rw [← hpar]
              have dn : decide ((B.length : Int) < ((at_ + 2 + n.toNat : Nat) : Int)) = true := by simp only [decide_eq_true_eq]; omega
              simp (maxSteps := 4000000) only [Try.results18, d64, hb1, dB, ea2, ea3, byteR_sc, dn, en, XX, Nat.reduceBEq, Nat.reduceLT, Nat.reduceAdd, Nat.reduceMul, Nat.reduceSub, Nat.reduceLeDiff, Nat.reduceEqDiff, Int.reduceToNat, Int.reduceLT, Int.reduceLE, Int.reduceAdd, Int.reduceSub, Int.reduceEq, reduceIte, Nat.reduceBNe, Int.reducePow, Nat.reducePow, Int.reduceMul, Int.reduceNeg, isB_i, isB_b, isB_y, isBv_i, isBv_b, eqCells_t, TT]
              exact ⟨by omega, by omega, rfl⟩
            · rw [parse1_put hx hx0 hnb (by omega)] at hpar
              have dn : decide ((B.length : Int) < ((at_ + 2 + n.toNat : Nat) : Int)) = false := by simp only [decide_eq_false_iff_not]; omega
              have d2 : B.drop (at_ + 2 + n.toNat) = l.drop n.toNat := by rw [show at_ + 2 + n.toNat = at_ + 1 + (1 + n.toNat) by omega, ← List.drop_drop, hdn, Nat.add_comm 1, List.drop_succ_cons]
              have lt1 : (bsC (l.take n.toNat)).length = n.toNat := by rw [bsC_len, List.length_take]; omega
              have d1 : ((bsR (B ++ sp)).drop (at_ + 2)).take n.toNat = bsR (l.take n.toNat) := by rw [rs_drop, rs_take, List.drop_append_of_le_length (by omega), show at_ + 2 = at_ + 1 + 1 from rfl, ← List.drop_drop, hdn, List.drop_succ_cons, List.drop_zero, List.take_append_of_le_length (by omega)]
              have d3 : at_ + 2 + n.toNat - (at_ + 2) = n.toNat := by omega
              simp (maxSteps := 4000000) only [Try.results18, d64, hb1, dB, ea2, ea3, byteR_sc, dn, en, hrow, lrow, List.append_assoc, List.getElem?_append_left, List.getElem?_append_right, List.length_append, List.length_set, List.set_append_left, gset, List.getElem?_set_ne, Nat.add_sub_cancel_left, Nat.sub_self, Nat.le_refl, Nat.le_add_right, List.replicate_one, List.flatten_cons, List.flatten_nil, rep_flat, XX, Nat.reduceBEq, Nat.reduceLT, Nat.reduceAdd, Nat.reduceMul, Nat.reduceSub, Nat.reduceLeDiff, Nat.reduceEqDiff, Int.reduceToNat, Int.reduceLT, Int.reduceLE, Int.reduceAdd, Int.reduceSub, Int.reduceEq, reduceIte, Nat.reduceBNe, Int.reducePow, Nat.reducePow, Int.reduceMul, Int.reduceNeg, isB_i, isB_b, isB_y, isBv_i, isBv_b, eqCells_t, TT]
              refine ⟨by omega, by omega, ⟨by omega, by unfold maxLen; omega, by rw [flatc_len]; omega, fun h => ⟨O.own (by omega), by rw [flatc_len, rep_len (sz := 2) rfl]; omega⟩⟩, opts_push O rfl ?_⟩
              intro G' iO' r' On hG' hkp' hiO'
              have hrow' := On.row
              have lrow' := lt_of hrow'
              have gk := rowN_get es (x.toNat : Int) r'
              have gl := rowN_len es (x.toNat : Int) r'
              simp (maxSteps := 4000000) only [Try.results18, hb1, byteR_sc, en, hrow', lrow', List.append_assoc, List.getElem?_append_left, List.getElem?_append_right, List.length_append, List.length_set, List.set_append_left, gset, List.getElem?_set_ne, Nat.add_sub_cancel_left, Nat.sub_self, Nat.le_refl, Nat.le_add_right, List.replicate_one, List.flatten_cons, List.flatten_nil, rep_flat, XX, Nat.reduceBEq, Nat.reduceLT, Nat.reduceAdd, Nat.reduceMul, Nat.reduceSub, Nat.reduceLeDiff, Nat.reduceEqDiff, Int.reduceToNat, Int.reduceLT, Int.reduceLE, Int.reduceAdd, Int.reduceSub, Int.reduceEq, reduceIte, Nat.reduceBNe, Int.reducePow, Nat.reducePow, Int.reduceMul, Int.reduceNeg, isB_i, isB_b, isB_y, isBv_i, isBv_b, eqCells_t, TT]
              refine ⟨by omega, by omega, ?_⟩
              refine draw_of cx_ok (by kernel_rfl) 400 [] [(0, true), (1, true), (2, true), (3, true), (4, true), (5, true), (7, true), (8, true), (9, true), (10, true), (11, true), (12, true), (13, true), (14, true), (6, false), (15, false), (16, true), (17, true), (18, false)] (by kernel_rfl) (by first | exact hok | simp [*]) ?_
              simp (maxSteps := 4000000) only [Try.results18, hrow', lrow', gk, ea2, ea3, d1, d3, lt1, bsR_toSC, maskL_nil, unL_nil, List.append_assoc, List.getElem?_append_left, List.getElem?_append_right, List.length_append, List.length_set, List.set_append_left, gset, List.getElem?_set_ne, Nat.add_sub_cancel_left, Nat.sub_self, Nat.le_refl, Nat.le_add_right, List.replicate_one, List.flatten_cons, List.flatten_nil, rep_flat, XX, Nat.reduceBEq, Nat.reduceLT, Nat.reduceAdd, Nat.reduceMul, Nat.reduceSub, Nat.reduceLeDiff, Nat.reduceEqDiff, Int.reduceToNat, Int.reduceLT, Int.reduceLE, Int.reduceAdd, Int.reduceSub, Int.reduceEq, reduceIte, Nat.reduceBNe, Int.reducePow, Nat.reducePow, Int.reduceMul, Int.reduceNeg, isB_i, isB_b, isB_y, isBv_i, isBv_b, eqCells_t, TT]
              refine ⟨by omega, by omega, by omega, ⟨⟨by omega, by unfold maxLen; omega⟩, by simp; omega⟩, xapp_nilB (by rw [List.length_take]; omega) rfl fun jj oo hoo => ?_⟩
              simp (maxSteps := 4000000) only [Try.results18, hrow', lrow', gk, ea2, ea3, d1, d3, lt1, bsR_toSC, maskL_nil, unL_nil, List.append_assoc, List.getElem?_append_left, List.getElem?_append_right, List.length_append, List.length_set, List.set_append_left, gset, List.getElem?_set_ne, Nat.add_sub_cancel_left, Nat.sub_self, Nat.le_refl, Nat.le_add_right, List.replicate_one, List.flatten_cons, List.flatten_nil, rep_flat, XX, Nat.reduceBEq, Nat.reduceLT, Nat.reduceAdd, Nat.reduceMul, Nat.reduceSub, Nat.reduceLeDiff, Nat.reduceEqDiff, Int.reduceToNat, Int.reduceLT, Int.reduceLE, Int.reduceAdd, Int.reduceSub, Int.reduceEq, reduceIte, Nat.reduceBNe, Int.reducePow, Nat.reducePow, Int.reduceMul, Int.reduceNeg, isB_i, isB_b, isB_y, isBv_i, isBv_b, eqCells_t, TT]
              have On' := opts_new (d := l.take n.toNat) On hoo (rowN_store es (x.toNat : Int) r' (slB G'.length (l.take n.toNat) (List.replicate jj 0)))
              rw [putP_new hk] at hpar
              refine ⟨by omega, by omega, B.length - (at_ + 2 + n.toNat), by omega, ⟨⟨11, 0⟩, [(0, .c (partsV ps rs c)), (4, .c ((.sl iO' 0 (es.length + 1) (es.length + 1 + r')))), (5, .c (i64 i)), (6, .c (roB B sp c')), (7, .c (i64 (at_ + 2 + n.toNat : Nat)))], _⟩, ⟨at_ + 2 + n.toNat, _, iO', true, _, r', rfl, by omega, On', by rw [List.length_append]; simp only [List.length_cons, List.length_nil]; omega, ?_, ?_, by rw [List.length_append]; rfl⟩, .inl ⟨rfl, rfl, rfl, rfl, rfl, rfl, rfl, trivial⟩⟩
              · rw [d2, ← hpar, List.map_append]; rfl
              · simp only [List.map_append, List.sum_append, List.map_cons, List.map_nil, List.sum_cons, List.sum_nil, List.length_take]; omega
  obtain rfl : i = ps.length := by omega
  have hd : decide ((ps.length : Int) < (ps.length : Int)) = false := by simp
  simp (maxSteps := 4000000) only [Try.results18, hd, XX, Nat.reduceBEq, Nat.reduceLT, Nat.reduceAdd, Nat.reduceMul, Nat.reduceSub, Nat.reduceLeDiff, Nat.reduceEqDiff, Int.reduceToNat, Int.reduceLT, Int.reduceLE, Int.reduceAdd, Int.reduceSub, Int.reduceEq, reduceIte, Nat.reduceBNe, Int.reducePow, Nat.reducePow, Int.reduceMul, Int.reduceNeg, isB_i, isB_b, isB_y, isBv_i, isBv_b, eqCells_t, TT]
  rw [List.drop_length] at hpar
  rw [← hpar]
  exact ⟨iO, o, es, r, rfl, O, rfl⟩
end Go.Proofs.Ytflccffjfnfoiaa.Sx
