/- The symbolic executor, at work: option.Parse. No condition. -/
import Derived.Test.YtflccffjfnfoiaaOpG
import Derived.Test.YtflccffjfnfoiaaOpD
namespace Go.Proofs.Ytflccffjfnfoiaa.Sx
open Go
set_option linter.unusedSimpArgs false
set_option linter.unusedVariables false
set_option maxRecDepth 10000
set_option maxHeartbeats 2000000

/-- A part: its bytes, what stands behind them, their room. -/
abbrev PT4 := List UInt8 × List UInt8 × Nat
def partO (p : PT4) : RC := .sl (bsR (p.1 ++ p.2.1)) p.1.length p.2.2
theorem dropO {ps : List PT4} {rs : List RC} {i : Nat} {p : PT4} (h : ps[i]? = some p) : ∃ R, (ps.map partO ++ rs).drop i = .sl (bsR (p.1 ++ p.2.1)) p.1.length p.2.2 :: R := by
  have hi : i < ps.length := (List.getElem?_eq_some_iff.1 h).1
  refine ⟨(ps.map partO ++ rs).drop (i + 1), ?_⟩
  rw [List.drop_eq_getElem_cons (by simp; omega)]
  rw [List.getElem_append_left (by simpa using hi), List.getElem_map]
  congr 1
  rw [(List.getElem?_eq_some_iff.1 h).2]
  rfl
abbrev partsV (ps : List PT4) (rs : List RC) (c : Nat) : SC := .ro (ps.map partO ++ rs) ps.length c
def lenP (ps : List PT4) : Nat := (ps.map fun p => p.1.length).sum
structure PT4.ok (p : PT4) : Prop where
  c : p.1.length ≤ p.2.2
  m : p.1.length ≤ 140737488351232
abbrev bytesP (ps : List PT4) : List (List UInt8) := ps.map (·.1)

theorem sum_le {es : List PE} {j : Nat} {e : PE} (h : es[j]? = some e) : e.d.length ≤ (es.map fun e => e.d.length).sum := by
  obtain ⟨a, b, rfl⟩ := List.append_of_mem (List.mem_of_getElem? h)
  simp; omega
theorem sum_set {m : Nat} : ∀ {es : List PE} {j : Nat} {e f : PE}, es[j]? = some e → f.d.length = e.d.length + m → ((es.set j f).map fun e => e.d.length).sum = (es.map fun e => e.d.length).sum + m
  | x :: es, 0, e, f, h, hf => by
    simp only [List.getElem?_cons_zero, Option.some.injEq] at h
    subst h
    simp only [List.set_cons_zero, List.map_cons, List.sum_cons, hf]; omega
  | x :: es, j + 1, e, f, h, hf => by
    have := sum_set (es := es) (j := j) (by simpa using h) hf
    simp only [List.set_cons_succ, List.map_cons, List.sum_cons, this]; omega
theorem set_end {h : List SB} {a b : SB} : (h ++ [a]).set h.length b = h ++ [b] := by rw [List.set_append_right _ _ (Nat.le_refl _), Nat.sub_self]; rfl
theorem byteR_sc (x : UInt8) : (byteR x).toSC = .v (.int .u8 x.toNat) := rfl
theorem binS_uO {d : TD} {sz : List Bool} {fl : Bool} {op : BinOp} {k : IntKind} {a : Int} : binS d sz fl op (.c (.v undef)) (.c (.v (.int k a))) = .bad := by cases fl <;> rfl
theorem conv_uO {T : TypeId → Option TI} {fl : TypeId → Bool} {hp : List SB} {s d : TypeId} {x : Operand} : opR T fl hp (.convert s d x) [.c (.v undef)] = .bad := rfl
theorem ge0O : (([] : List RC).getD 0 (.v undef)).toSC = .v undef := rfl
theorem parse_spec (ps : List PT4) (rs : List RC) (c : Nat) (hok : ∀ p ∈ ps, p.ok) (hn : ps.length ≤ 140737488351232) (hT : lenP ps ≤ 140737488351232) : Spec cx.P 20 [.c (partsV ps rs c)] [] (resP (parseA (bytesP ps) [])) := by
  refine resP_of ?_
  refine spec_of_X cx_ok Try.func20 rfl (by kernel_rfl) (by kernel_rfl) (Nat.le_of_ble_eq_true rfl) 400 13 ?_
  simp (maxSteps := 4000000) only [Try.results20, XX, Nat.reduceBEq, Nat.reduceLT, Nat.reduceAdd, Nat.reduceMul, Nat.reduceSub, Nat.reduceLeDiff, Nat.reduceEqDiff, Int.reduceToNat, Int.reduceLT, Int.reduceLE, Int.reduceAdd, Int.reduceSub, Int.reduceEq, reduceIte, Nat.reduceBNe, Int.reducePow, Nat.reducePow, Int.reduceMul, Int.reduceNeg, isB_i, isB_b, isB_y, isBv_i, isBv_b, eqCells_t, TT]
  refine loop_any cx_ok 400 (fun μ σ => ∃ (i : Nat) (H : List SB) (iO : Nat) (o : Bool) (es : List PE) (r : Nat), μ = ps.length - i ∧ i ≤ ps.length ∧ Opts H iO o es r ∧ es.length ≤ 64 ∧ parseA (bytesP (ps.drop i)) (es.map PE.pi) = parseA (bytesP ps) [] ∧ (es.map fun e => e.d.length).sum + lenP (ps.drop i) ≤ lenP ps ∧
      σ = ⟨⟨13, 0⟩, [(4, .c (.sl iO 0 es.length (es.length + r))), (10, .c (partsV ps rs c)), (11, .c (i64 ps.length)), (12, .c (i64 i))], H⟩) ps.length
    ⟨⟨13, 0⟩, [(4, .c (.sl 0 0 0 0)), (10, .c (partsV ps rs c)), (11, .c (i64 ps.length)), (12, .c (i64 (0 : Nat)))], [optB false []]⟩ ⟨0, [optB false []], 0, false, [], 0, rfl, Nat.zero_le _, ⟨rfl, fun h => absurd h (by simp), fun i e h => by simp at h, fun i j e f _ h => by simp at h⟩, by simp, by simp, by simp, rfl⟩ ?_ ?_
  · exact .inr ⟨[none], rfl, rfl, ⟨⟨rfl, rfl⟩, trivial⟩, ⟨.inr (.inr (.inr ⟨_, _, rfl, .inl rfl⟩)), .inl ⟨rfl, rfl⟩, .inl ⟨rfl, rfl⟩, .inl ⟨rfl, rfl⟩, trivial⟩⟩
  rintro μ σ ⟨i, H, iO, o, es, r, rfl, hi, O, hes, hpar, hsum, rfl⟩
  have hrow := O.row
  have lrow := lt_of hrow
  by_cases hlt : i < ps.length
  · have hd : decide ((i : Int) < (ps.length : Int)) = true := by simp only [decide_eq_true_eq]; omega
    have e3 : IntKind.i64.wrap ((i : Int) + 1) = ((i + 1 : Nat) : Int) := by rw [w64] <;> omega
    obtain ⟨p, hp⟩ : ∃ p, ps[i]? = some p := ⟨_, List.getElem?_eq_getElem hlt⟩
    obtain ⟨R, hR⟩ := dropO (rs := rs) hp
    have hdr : ps.drop i = p :: ps.drop (i + 1) := by
      rw [List.drop_eq_getElem_cons hlt, (List.getElem?_eq_some_iff.1 hp).2]
    have hpc := hok p (List.mem_of_getElem? hp)
    have hpar0 : contA (parse1 p.1 (es.map PE.pi)) (bytesP (ps.drop (i + 1))) = parseA (bytesP ps) [] := by
      rw [← hpar, hdr]; rfl
    have hsum0 : (es.map fun e => e.d.length).sum + p.1.length + lenP (ps.drop (i + 1)) ≤ lenP ps := by
      rw [hdr] at hsum
      simp only [lenP, List.map_cons, List.sum_cons] at hsum ⊢
      omega
    simp (maxSteps := 4000000) only [Try.results20, hd, hR, XX, Nat.reduceBEq, Nat.reduceLT, Nat.reduceAdd, Nat.reduceMul, Nat.reduceSub, Nat.reduceLeDiff, Nat.reduceEqDiff, Int.reduceToNat, Int.reduceLT, Int.reduceLE, Int.reduceAdd, Int.reduceSub, Int.reduceEq, reduceIte, Nat.reduceBNe, Int.reducePow, Nat.reducePow, Int.reduceMul, Int.reduceNeg, isB_i, isB_b, isB_y, isBv_i, isBv_b, eqCells_t, TT]
    refine ⟨by omega, by omega, ?_⟩
    refine loop_any cx_ok 400 (fun μ σ => ∃ (l sp : List UInt8) (c' : Nat) (H : List SB) (iO : Nat) (o : Bool) (es : List PE) (r : Nat), μ = l.length ∧ l.length ≤ c' ∧ Opts H iO o es r ∧ es.length ≤ 64 ∧ contA (parse1 l (es.map PE.pi)) (bytesP (ps.drop (i + 1))) = parseA (bytesP ps) [] ∧ (es.map fun e => e.d.length).sum + l.length + lenP (ps.drop (i + 1)) ≤ lenP ps ∧
        σ = ⟨⟨13, 0⟩, [(4, .c (.sl iO 0 es.length (es.length + r))), (6, .c (roB l sp c')), (10, .c (partsV ps rs c)), (11, .c (i64 ps.length)), (12, .c (i64 i))], H⟩) p.1.length
      ⟨⟨13, 0⟩, [(4, .c (.sl iO 0 es.length (es.length + r))), (6, .c (roB p.1 p.2.1 p.2.2)), (10, .c (partsV ps rs c)), (11, .c (i64 ps.length)), (12, .c (i64 i))], H⟩ ⟨p.1, p.2.1, p.2.2, H, iO, o, es, r, rfl, hpc.c, O, hes, hpar0, hsum0, rfl⟩ (.inl ⟨rfl, rfl, rfl, rfl, rfl, rfl, rfl, trivial⟩) ?_
    clear hrow lrow hpar0 hsum0 hpar hsum hes O hR R
    rintro μ σ ⟨l, sp, c', H, iO, o, es, r, rfl, hc1, O, hes, hpar, hsum, rfl⟩
    have hrow := O.row
    have lrow := lt_of hrow
    match l, hc1, hpar, hsum with
    | [], hc1, hpar, hsum =>
      cases sp with
      | nil =>
        simp (maxSteps := 4000000) only [Try.results20, e3, ge0O, binS_uO, byteR_sc, XX, Nat.reduceBEq, Nat.reduceLT, Nat.reduceAdd, Nat.reduceMul, Nat.reduceSub, Nat.reduceLeDiff, Nat.reduceEqDiff, Int.reduceToNat, Int.reduceLT, Int.reduceLE, Int.reduceAdd, Int.reduceSub, Int.reduceEq, reduceIte, Nat.reduceBNe, Int.reducePow, Nat.reducePow, Int.reduceMul, Int.reduceNeg, isB_i, isB_b, isB_y, isBv_i, isBv_b, eqCells_t, TT]
        rw [parse1_nil] at hpar
        exact ⟨ps.length - (i + 1), by omega, _, ⟨i + 1, H, iO, o, es, r, rfl, by omega, O, hes, hpar, by simpa using hsum, rfl⟩, .inl ⟨rfl, rfl, rfl, rfl, rfl, rfl, trivial⟩⟩
      | cons y sp =>
        simp (maxSteps := 4000000) only [Try.results20, e3, ge0O, binS_uO, byteR_sc, XX, Nat.reduceBEq, Nat.reduceLT, Nat.reduceAdd, Nat.reduceMul, Nat.reduceSub, Nat.reduceLeDiff, Nat.reduceEqDiff, Int.reduceToNat, Int.reduceLT, Int.reduceLE, Int.reduceAdd, Int.reduceSub, Int.reduceEq, reduceIte, Nat.reduceBNe, Int.reducePow, Nat.reducePow, Int.reduceMul, Int.reduceNeg, isB_i, isB_b, isB_y, isBv_i, isBv_b, eqCells_t, TT]
        rw [parse1_nil] at hpar
        exact ⟨ps.length - (i + 1), by omega, _, ⟨i + 1, H, iO, o, es, r, rfl, by omega, O, hes, hpar, by simpa using hsum, rfl⟩, .inl ⟨rfl, rfl, rfl, rfl, rfl, rfl, trivial⟩⟩
    | x :: l, hc1, hpar, hsum =>
      have hl0 : decide ((0 : Int) < ((l.length + 1 : Nat) : Int)) = true := by simp only [decide_eq_true_eq]; omega
      have w0 : IntKind.i64.wrap 0 = 0 := by decide
      have t255 : ((255 : UInt8).toNat : Int) = 255 := rfl
      have t0 : ((0 : UInt8).toNat : Int) = 0 := rfl
      have ex : IntKind.i64.wrap (x.toNat : Int) = (x.toNat : Int) := by have := x.toNat_lt; rw [w64] <;> omega
      by_cases hx : x = 255
      · subst hx
        simp (maxSteps := 4000000) only [Try.results20, hl0, t255, byteR_sc, e3, XX, Nat.reduceBEq, Nat.reduceLT, Nat.reduceAdd, Nat.reduceMul, Nat.reduceSub, Nat.reduceLeDiff, Nat.reduceEqDiff, Int.reduceToNat, Int.reduceLT, Int.reduceLE, Int.reduceAdd, Int.reduceSub, Int.reduceEq, reduceIte, Nat.reduceBNe, Int.reducePow, Nat.reducePow, Int.reduceMul, Int.reduceNeg, isB_i, isB_b, isB_y, isBv_i, isBv_b, eqCells_t, TT]
        rw [parse1_end] at hpar
        simp only [List.length_cons] at hsum hc1
        refine ⟨by omega, by omega, ?_⟩
        exact ⟨ps.length - (i + 1), by omega, _, ⟨i + 1, H, iO, o, es, r, rfl, by omega, O, hes, hpar, by omega, rfl⟩, .inl ⟨rfl, rfl, rfl, rfl, rfl, rfl, trivial⟩⟩
      have dx : decide ((x.toNat : Int) = 255) = false := by
        simp only [decide_eq_false_iff_not]; intro h; exact hx (UInt8.toNat_inj.1 (by show x.toNat = 255; omega))
      by_cases hx0 : x = 0
      · subst hx0
        simp (maxSteps := 4000000) only [Try.results20, hl0, t0, byteR_sc, w0, set_end, Nat.add_sub_cancel, List.append_assoc, List.getElem?_append_left, List.getElem?_append_right, List.length_append, List.length_set, List.set_append_left, gset, List.getElem?_set_ne, Nat.add_sub_cancel_left, Nat.sub_self, Nat.le_refl, Nat.le_add_right, List.replicate_one, List.flatten_cons, List.flatten_nil, rep_flat, XX, Nat.reduceBEq, Nat.reduceLT, Nat.reduceAdd, Nat.reduceMul, Nat.reduceSub, Nat.reduceLeDiff, Nat.reduceEqDiff, Int.reduceToNat, Int.reduceLT, Int.reduceLE, Int.reduceAdd, Int.reduceSub, Int.reduceEq, reduceIte, Nat.reduceBNe, Int.reducePow, Nat.reducePow, Int.reduceMul, Int.reduceNeg, isB_i, isB_b, isB_y, isBv_i, isBv_b, eqCells_t, TT]
        rw [parse1_pad] at hpar
        simp only [List.length_cons] at hsum hc1
        refine ⟨by omega, by omega, by omega, by omega, by omega, ?_⟩
        exact ⟨l.length, by omega, _, ⟨l, sp, c' - 1, _, iO, o, es, r, rfl, by omega, O.app _, hes, hpar, by omega, rfl⟩, .inl ⟨rfl, rfl, rfl, rfl, rfl, rfl, rfl, trivial⟩⟩
      have dx0 : decide ((x.toNat : Int) = 0) = false := by
        simp only [decide_eq_false_iff_not]; intro h; exact hx0 (UInt8.toNat_inj.1 (by show x.toNat = 0; omega))
      have z0 : (#[] : Array Operand).size = 0 := rfl
      simp (maxSteps := 4000000) only [Try.results20, hl0, byteR_sc, dx, dx0, ex, z0, set_end, Nat.add_sub_cancel, List.append_assoc, List.getElem?_append_left, List.getElem?_append_right, List.length_append, List.length_set, List.set_append_left, gset, List.getElem?_set_ne, Nat.add_sub_cancel_left, Nat.sub_self, Nat.le_refl, Nat.le_add_right, List.replicate_one, List.flatten_cons, List.flatten_nil, rep_flat, XX, Nat.reduceBEq, Nat.reduceLT, Nat.reduceAdd, Nat.reduceMul, Nat.reduceSub, Nat.reduceLeDiff, Nat.reduceEqDiff, Int.reduceToNat, Int.reduceLT, Int.reduceLE, Int.reduceAdd, Int.reduceSub, Int.reduceEq, reduceIte, Nat.reduceBNe, Int.reducePow, Nat.reducePow, Int.reduceMul, Int.reduceNeg, isB_i, isB_b, isB_y, isBv_i, isBv_b, eqCells_t, TT]
      simp only [List.length_cons] at hsum hc1
      refine ⟨by omega, by omega, by omega, by omega, by omega, ?_⟩
      refine call_is (index_spec (H ++ [(⟨true, 3, [i64 (x.toNat : Int)]⟩ : SB)]) iO o es r (O.app _) hes (x.toNat : Int) H.length true (by rw [List.getElem?_append_right (Nat.le_refl _), Nat.sub_self]; rfl)) ?_
      rintro _ _ ⟨rfl, t, rfl⟩
      have hbox : ((H ++ [(⟨true, 3, [i64 (x.toNat : Int)]⟩ : SB)]) ++ t)[H.length]? = some ⟨true, 3, [i64 (x.toNat : Int)]⟩ := by
        rw [List.append_assoc, List.getElem?_append_right (Nat.le_refl _), Nat.sub_self]; rfl
      have lH : H.length < ((H ++ [(⟨true, 3, [i64 (x.toNat : Int)]⟩ : SB)]) ++ t).length := by simp
      have hk : atK ((es.map PE.pi).map (·.1)) (x.toNat : Int) = atK (es.map PE.k) (x.toNat : Int) := by rw [List.map_map]; rfl
      have Oa := (O.app [(⟨true, 3, [i64 (x.toNat : Int)]⟩ : SB)]).app t
      generalize (H ++ [(⟨true, 3, [i64 (x.toNat : Int)]⟩ : SB)]) ++ t = G at hbox lH Oa ⊢
      generalize H.length = ib at hbox lH ⊢
      clear O hrow lrow
      have hrow := Oa.row
      have lrow := lt_of hrow
      rcases atK_cases (es.map PE.k) (x.toNat : Int) with ⟨j, hj, hkj, ha⟩ | ⟨hno, ha⟩
      · rw [ha] at hk ⊢
        have hnb : ¬ (atK ((es.map PE.pi).map (·.1)) (x.toNat : Int) < 0 ∧ (es.map PE.pi).length = 64) := by rw [hk]; omega
        have dj : decide ((j : Int) < 0) = false := by simp only [decide_eq_false_iff_not]; omega
        match l, hc1, hsum, hpar with
        | [], hc1, hsum, hpar =>
          rw [parse1_short hx hx0 hnb] at hpar
          rw [← hpar]
          cases sp with
          | nil =>
            simp (maxSteps := 4000000) only [Try.results20, dj, Bool.false_and, ge0O, binS_uO, conv_uO, binS_ib, binS_bi, byteR_sc, XX, Nat.reduceBEq, Nat.reduceLT, Nat.reduceAdd, Nat.reduceMul, Nat.reduceSub, Nat.reduceLeDiff, Nat.reduceEqDiff, Int.reduceToNat, Int.reduceLT, Int.reduceLE, Int.reduceAdd, Int.reduceSub, Int.reduceEq, reduceIte, Nat.reduceBNe, Int.reducePow, Nat.reducePow, Int.reduceMul, Int.reduceNeg, isB_i, isB_b, isB_y, isBv_i, isBv_b, eqCells_t, TT]
            exact rfl
          | cons y sp =>
            simp (maxSteps := 4000000) only [Try.results20, dj, Bool.false_and, ge0O, binS_uO, conv_uO, binS_ib, binS_bi, byteR_sc, XX, Nat.reduceBEq, Nat.reduceLT, Nat.reduceAdd, Nat.reduceMul, Nat.reduceSub, Nat.reduceLeDiff, Nat.reduceEqDiff, Int.reduceToNat, Int.reduceLT, Int.reduceLE, Int.reduceAdd, Int.reduceSub, Int.reduceEq, reduceIte, Nat.reduceBNe, Int.reducePow, Nat.reducePow, Int.reduceMul, Int.reduceNeg, isB_i, isB_b, isB_y, isBv_i, isBv_b, eqCells_t, TT]
            exact rfl
        | n :: l, hc1, hsum, hpar =>
          have en : IntKind.i64.wrap (n.toNat : Int) = (n.toNat : Int) := by have := n.toNat_lt; rw [w64] <;> omega
          have dl : decide (((l.length + 1 : Nat) : Int) = 0) = false := by simp only [decide_eq_false_iff_not]; omega
          have bn := n.toNat_lt
          simp only [List.length_cons] at hc1 hsum
          by_cases hs : l.length < n.toNat
          · rw [parse1_cut hx hx0 hnb hs] at hpar
            rw [← hpar]
            have dn : decide (((l.length + 1 : Nat) : Int) ≤ (n.toNat : Int)) = true := by simp only [decide_eq_true_eq]; omega
            simp (maxSteps := 4000000) only [Try.results20, dj, Bool.false_and, byteR_sc, dl, dn, en, XX, Nat.reduceBEq, Nat.reduceLT, Nat.reduceAdd, Nat.reduceMul, Nat.reduceSub, Nat.reduceLeDiff, Nat.reduceEqDiff, Int.reduceToNat, Int.reduceLT, Int.reduceLE, Int.reduceAdd, Int.reduceSub, Int.reduceEq, reduceIte, Nat.reduceBNe, Int.reducePow, Nat.reducePow, Int.reduceMul, Int.reduceNeg, isB_i, isB_b, isB_y, isBv_i, isBv_b, eqCells_t, TT]
            exact ⟨by omega, by omega, rfl⟩
          · rw [parse1_put hx hx0 hnb (by omega)] at hpar
            have dn : decide (((l.length + 1 : Nat) : Int) ≤ (n.toNat : Int)) = false := by simp only [decide_eq_false_iff_not]; omega
            have e1n : IntKind.i64.wrap (1 + (n.toNat : Int)) = ((1 + n.toNat : Nat) : Int) := by rw [w64] <;> omega
            have d2 : List.drop (1 + n.toNat) (byteR n :: List.map byteR (l ++ sp)) = bsR (l.drop n.toNat ++ sp) := by rw [Nat.add_comm, List.drop_succ_cons, ← List.map_drop, List.drop_append_of_le_length (by omega)]
            have d3 : l.length + 1 - (1 + n.toNat) = (l.drop n.toNat).length := by rw [List.length_drop]; omega
            have lt1 : (bsC (l.take n.toNat)).length = n.toNat := by rw [bsC_len, List.length_take]; omega
            have d1 : ((bsR (l ++ sp)).take n.toNat) = bsR (l.take n.toNat) := by rw [rs_take, List.take_append_of_le_length (by omega)]
            simp (maxSteps := 4000000) only [Try.results20, dj, Bool.false_and, byteR_sc, dl, dn, en, e1n, hrow, lrow, hbox, lH, List.append_assoc, List.getElem?_append_left, List.getElem?_append_right, List.length_append, List.length_set, List.set_append_left, gset, List.getElem?_set_ne, Nat.add_sub_cancel_left, Nat.sub_self, Nat.le_refl, Nat.le_add_right, List.replicate_one, List.flatten_cons, List.flatten_nil, rep_flat, XX, Nat.reduceBEq, Nat.reduceLT, Nat.reduceAdd, Nat.reduceMul, Nat.reduceSub, Nat.reduceLeDiff, Nat.reduceEqDiff, Int.reduceToNat, Int.reduceLT, Int.reduceLE, Int.reduceAdd, Int.reduceSub, Int.reduceEq, reduceIte, Nat.reduceBNe, Int.reducePow, Nat.reducePow, Int.reduceMul, Int.reduceNeg, isB_i, isB_b, isB_y, isBv_i, isBv_b, eqCells_t, TT]
            refine ⟨by omega, by omega, by omega, by omega, ?_⟩
            have hj' : j < es.length := by simpa using hj
            obtain ⟨e, he⟩ : ∃ e, es[j]? = some e := ⟨_, List.getElem?_eq_getElem (by simpa using hj)⟩
            obtain ⟨hw, ow⟩ := Oa.at_ j e he
            have lw := lt_of hw
            have gk := (row_get (r := r) he).2
            have lr := rowC_len es r
            refine draw_of cx_ok (by kernel_rfl) 400 [] [(0, true), (1, true), (2, true), (3, true), (4, true), (5, true), (7, true), (8, true), (9, true), (6, false), (10, false), (11, true), (12, true), (13, false)] (by kernel_rfl) (by first | exact hok | simp [*]) ?_
            simp (maxSteps := 4000000) only [Try.results20, hrow, lrow, hw, lw, gk, d1, lt1, bsR_toSC, maskL_nil, unL_nil, List.append_assoc, List.getElem?_append_left, List.getElem?_append_right, List.length_append, List.length_set, List.set_append_left, gset, List.getElem?_set_ne, Nat.add_sub_cancel_left, Nat.sub_self, Nat.le_refl, Nat.le_add_right, List.replicate_one, List.flatten_cons, List.flatten_nil, rep_flat, XX, Nat.reduceBEq, Nat.reduceLT, Nat.reduceAdd, Nat.reduceMul, Nat.reduceSub, Nat.reduceLeDiff, Nat.reduceEqDiff, Int.reduceToNat, Int.reduceLT, Int.reduceLE, Int.reduceAdd, Int.reduceSub, Int.reduceEq, reduceIte, Nat.reduceBNe, Int.reducePow, Nat.reducePow, Int.reduceMul, Int.reduceNeg, isB_i, isB_b, isB_y, isBv_i, isBv_b, eqCells_t, TT]
            have l1 := bsC_len (e.d ++ e.sp)
            refine ⟨by omega, by omega, by rw [flatc_len, rep_len (sz := 2) rfl]; omega, ⟨⟨?_, ?_, by rw [l1, List.length_append]; omega, fun h => ⟨?_, by rw [l1, List.length_append]; omega⟩⟩, by simp; omega⟩, xapp_any ⟨hw, ow⟩ rfl (by rw [List.length_take]; omega) rfl rfl ?_⟩
            · have := sum_le he; omega
            · have := sum_le he; unfold maxLen; omega
            · by_cases hz : n.toNat = 0
              · exact .inl hz
              · exact .inr (ow (by omega))
            intro G' w' sp' o' B' hG' hkp' hw'
            have hrow' := (hkp' iO lrow (Oa.neR he).symm).trans hrow
            have lrow' := lt_of hrow'
            have lw' := lt_of B'.at_
            simp (maxSteps := 4000000) only [Try.results20, hrow', lrow', hw, lw, lw', B'.at_, gk, d1, d2, d3, lt1, bsR_toSC, maskL_nil, unL_nil, List.append_assoc, List.getElem?_append_left, List.getElem?_append_right, List.length_append, List.length_set, List.set_append_left, gset, List.getElem?_set_ne, Nat.add_sub_cancel_left, Nat.sub_self, Nat.le_refl, Nat.le_add_right, List.replicate_one, List.flatten_cons, List.flatten_nil, rep_flat, XX, Nat.reduceBEq, Nat.reduceLT, Nat.reduceAdd, Nat.reduceMul, Nat.reduceSub, Nat.reduceLeDiff, Nat.reduceEqDiff, Int.reduceToNat, Int.reduceLT, Int.reduceLE, Int.reduceAdd, Int.reduceSub, Int.reduceEq, reduceIte, Nat.reduceBNe, Int.reducePow, Nat.reducePow, Int.reduceMul, Int.reduceNeg, isB_i, isB_b, isB_y, isBv_i, isBv_b, eqCells_t, TT]
            have hek : e.k = (x.toNat : Int) := by rw [List.getElem?_map, he] at hkj; simpa using hkj
            have On := opts_old (d := l.take n.toNat) Oa he B' hG' hkp' hw' (row_store (r := r) (f := ⟨e.k, e.d ++ l.take n.toNat, w', sp', o'⟩) he rfl)
            rw [putP_hit hk (x := e.d) (by rw [List.getElem?_map, he, ← hek]; rfl)] at hpar
            refine ⟨by omega, ⟨Oa.own (by omega), by rw [flatc_len, rep_len (sz := 2) rfl]; omega⟩, by omega, (l.drop n.toNat).length, by rw [List.length_drop]; omega, ⟨⟨13, 0⟩, [(4, .c (.sl iO 0 es.length (es.length + r))), (6, .c (roB (l.drop n.toNat) sp (c' - 1 - (1 + n.toNat)))), (10, .c (partsV ps rs c)), (11, .c (i64 ps.length)), (12, .c (i64 i))], _⟩, ⟨l.drop n.toNat, sp, c' - 1 - (1 + n.toNat), _, iO, o, _, r, rfl, by rw [List.length_drop]; omega, On, by rw [List.length_set]; exact hes, ?_, ?_, by rw [List.length_set]⟩, .inl ⟨rfl, rfl, rfl, rfl, rfl, rfl, rfl, trivial⟩⟩
            · rw [← hpar, List.map_set, ← hek]
            · rw [sum_set (m := n.toNat) he (by simp; omega), List.length_drop]; omega
      · rw [ha] at hk ⊢
        by_cases h64 : es.length = 64
        · have d64 : decide ((es.length : Int) = 64) = true := by simp only [decide_eq_true_eq]; omega
          simp (maxSteps := 4000000) only [Try.results20, d64, XX, Nat.reduceBEq, Nat.reduceLT, Nat.reduceAdd, Nat.reduceMul, Nat.reduceSub, Nat.reduceLeDiff, Nat.reduceEqDiff, Int.reduceToNat, Int.reduceLT, Int.reduceLE, Int.reduceAdd, Int.reduceSub, Int.reduceEq, reduceIte, Nat.reduceBNe, Int.reducePow, Nat.reducePow, Int.reduceMul, Int.reduceNeg, isB_i, isB_b, isB_y, isBv_i, isBv_b, eqCells_t, TT]
          rw [parse1_many l hx hx0 hk (by rw [List.length_map]; exact h64)] at hpar
          rw [← hpar]
          exact rfl
        · have d64 : decide ((es.length : Int) = 64) = false := by simp only [decide_eq_false_iff_not]; omega
          have hnb : ¬ (atK ((es.map PE.pi).map (·.1)) (x.toNat : Int) < 0 ∧ (es.map PE.pi).length = 64) := by rw [List.length_map]; omega
          match l, hc1, hsum, hpar with
          | [], hc1, hsum, hpar =>
            rw [parse1_short hx hx0 hnb] at hpar
            rw [← hpar]
            cases sp with
            | nil =>
              simp (maxSteps := 4000000) only [Try.results20, d64, ge0O, binS_uO, conv_uO, binS_ib, binS_bi, byteR_sc, XX, Nat.reduceBEq, Nat.reduceLT, Nat.reduceAdd, Nat.reduceMul, Nat.reduceSub, Nat.reduceLeDiff, Nat.reduceEqDiff, Int.reduceToNat, Int.reduceLT, Int.reduceLE, Int.reduceAdd, Int.reduceSub, Int.reduceEq, reduceIte, Nat.reduceBNe, Int.reducePow, Nat.reducePow, Int.reduceMul, Int.reduceNeg, isB_i, isB_b, isB_y, isBv_i, isBv_b, eqCells_t, TT]
              exact rfl
            | cons y sp =>
              simp (maxSteps := 4000000) only [Try.results20, d64, ge0O, binS_uO, conv_uO, binS_ib, binS_bi, byteR_sc, XX, Nat.reduceBEq, Nat.reduceLT, Nat.reduceAdd, Nat.reduceMul, Nat.reduceSub, Nat.reduceLeDiff, Nat.reduceEqDiff, Int.reduceToNat, Int.reduceLT, Int.reduceLE, Int.reduceAdd, Int.reduceSub, Int.reduceEq, reduceIte, Nat.reduceBNe, Int.reducePow, Nat.reducePow, Int.reduceMul, Int.reduceNeg, isB_i, isB_b, isB_y, isBv_i, isBv_b, eqCells_t, TT]
              exact rfl
          | n :: l, hc1, hsum, hpar =>
            have en : IntKind.i64.wrap (n.toNat : Int) = (n.toNat : Int) := by have := n.toNat_lt; rw [w64] <;> omega
            have dl : decide (((l.length + 1 : Nat) : Int) = 0) = false := by simp only [decide_eq_false_iff_not]; omega
            have bn := n.toNat_lt
            simp only [List.length_cons] at hc1 hsum
            by_cases hs : l.length < n.toNat
            · rw [parse1_cut hx hx0 hnb hs] at hpar
              rw [← hpar]
              have dn : decide (((l.length + 1 : Nat) : Int) ≤ (n.toNat : Int)) = true := by simp only [decide_eq_true_eq]; omega
              simp (maxSteps := 4000000) only [Try.results20, d64, byteR_sc, dl, dn, en, XX, Nat.reduceBEq, Nat.reduceLT, Nat.reduceAdd, Nat.reduceMul, Nat.reduceSub, Nat.reduceLeDiff, Nat.reduceEqDiff, Int.reduceToNat, Int.reduceLT, Int.reduceLE, Int.reduceAdd, Int.reduceSub, Int.reduceEq, reduceIte, Nat.reduceBNe, Int.reducePow, Nat.reducePow, Int.reduceMul, Int.reduceNeg, isB_i, isB_b, isB_y, isBv_i, isBv_b, eqCells_t, TT]
              exact ⟨by omega, by omega, rfl⟩
            · rw [parse1_put hx hx0 hnb (by omega)] at hpar
              have dn : decide (((l.length + 1 : Nat) : Int) ≤ (n.toNat : Int)) = false := by simp only [decide_eq_false_iff_not]; omega
              have e1n : IntKind.i64.wrap (1 + (n.toNat : Int)) = ((1 + n.toNat : Nat) : Int) := by rw [w64] <;> omega
              have d2 : List.drop (1 + n.toNat) (byteR n :: List.map byteR (l ++ sp)) = bsR (l.drop n.toNat ++ sp) := by rw [Nat.add_comm, List.drop_succ_cons, ← List.map_drop, List.drop_append_of_le_length (by omega)]
              have d3 : l.length + 1 - (1 + n.toNat) = (l.drop n.toNat).length := by rw [List.length_drop]; omega
              have lt1 : (bsC (l.take n.toNat)).length = n.toNat := by rw [bsC_len, List.length_take]; omega
              have d1 : ((bsR (l ++ sp)).take n.toNat) = bsR (l.take n.toNat) := by rw [rs_take, List.take_append_of_le_length (by omega)]
              simp (maxSteps := 4000000) only [Try.results20, d64, byteR_sc, dl, dn, en, e1n, hrow, lrow, hbox, lH, List.append_assoc, List.getElem?_append_left, List.getElem?_append_right, List.length_append, List.length_set, List.set_append_left, gset, List.getElem?_set_ne, Nat.add_sub_cancel_left, Nat.sub_self, Nat.le_refl, Nat.le_add_right, List.replicate_one, List.flatten_cons, List.flatten_nil, rep_flat, XX, Nat.reduceBEq, Nat.reduceLT, Nat.reduceAdd, Nat.reduceMul, Nat.reduceSub, Nat.reduceLeDiff, Nat.reduceEqDiff, Int.reduceToNat, Int.reduceLT, Int.reduceLE, Int.reduceAdd, Int.reduceSub, Int.reduceEq, reduceIte, Nat.reduceBNe, Int.reducePow, Nat.reducePow, Int.reduceMul, Int.reduceNeg, isB_i, isB_b, isB_y, isBv_i, isBv_b, eqCells_t, TT]
              refine ⟨by omega, by omega, ⟨by omega, by unfold maxLen; omega, by rw [flatc_len]; omega, fun h => ⟨Oa.own (by omega), by rw [flatc_len, rep_len (sz := 2) rfl]; omega⟩⟩, opts_push Oa rfl ?_⟩
              intro G' iO' r' On hG' hkp' hiO'
              have hrow' := On.row
              have lrow' := lt_of hrow'
              simp (maxSteps := 4000000) only [Try.results20, byteR_sc, en, e1n, hrow', lrow', List.append_assoc, List.getElem?_append_left, List.getElem?_append_right, List.length_append, List.length_set, List.set_append_left, gset, List.getElem?_set_ne, Nat.add_sub_cancel_left, Nat.sub_self, Nat.le_refl, Nat.le_add_right, List.replicate_one, List.flatten_cons, List.flatten_nil, rep_flat, XX, Nat.reduceBEq, Nat.reduceLT, Nat.reduceAdd, Nat.reduceMul, Nat.reduceSub, Nat.reduceLeDiff, Nat.reduceEqDiff, Int.reduceToNat, Int.reduceLT, Int.reduceLE, Int.reduceAdd, Int.reduceSub, Int.reduceEq, reduceIte, Nat.reduceBNe, Int.reducePow, Nat.reducePow, Int.reduceMul, Int.reduceNeg, isB_i, isB_b, isB_y, isBv_i, isBv_b, eqCells_t, TT]
              refine ⟨by omega, by omega, ?_⟩
              have gk := rowN_get es (x.toNat : Int) r'
              have gl := rowN_len es (x.toNat : Int) r'
              refine draw_of cx_ok (by kernel_rfl) 400 [] [(0, true), (1, true), (2, true), (3, true), (4, true), (5, true), (7, true), (8, true), (9, true), (6, false), (10, false), (11, true), (12, true), (13, false)] (by kernel_rfl) (by first | exact hok | simp [*]) ?_
              simp (maxSteps := 4000000) only [Try.results20, hrow', lrow', gk, d1, lt1, bsR_toSC, maskL_nil, unL_nil, List.append_assoc, List.getElem?_append_left, List.getElem?_append_right, List.length_append, List.length_set, List.set_append_left, gset, List.getElem?_set_ne, Nat.add_sub_cancel_left, Nat.sub_self, Nat.le_refl, Nat.le_add_right, List.replicate_one, List.flatten_cons, List.flatten_nil, rep_flat, XX, Nat.reduceBEq, Nat.reduceLT, Nat.reduceAdd, Nat.reduceMul, Nat.reduceSub, Nat.reduceLeDiff, Nat.reduceEqDiff, Int.reduceToNat, Int.reduceLT, Int.reduceLE, Int.reduceAdd, Int.reduceSub, Int.reduceEq, reduceIte, Nat.reduceBNe, Int.reducePow, Nat.reducePow, Int.reduceMul, Int.reduceNeg, isB_i, isB_b, isB_y, isBv_i, isBv_b, eqCells_t, TT]
              refine ⟨by omega, by omega, by omega, ⟨⟨by omega, by unfold maxLen; omega⟩, by simp; omega⟩, xapp_nilB (by rw [List.length_take]; omega) rfl fun jj oo hoo => ?_⟩
              simp (maxSteps := 4000000) only [Try.results20, hrow', lrow', gk, d1, d2, d3, lt1, bsR_toSC, maskL_nil, unL_nil, List.append_assoc, List.getElem?_append_left, List.getElem?_append_right, List.length_append, List.length_set, List.set_append_left, gset, List.getElem?_set_ne, Nat.add_sub_cancel_left, Nat.sub_self, Nat.le_refl, Nat.le_add_right, List.replicate_one, List.flatten_cons, List.flatten_nil, rep_flat, XX, Nat.reduceBEq, Nat.reduceLT, Nat.reduceAdd, Nat.reduceMul, Nat.reduceSub, Nat.reduceLeDiff, Nat.reduceEqDiff, Int.reduceToNat, Int.reduceLT, Int.reduceLE, Int.reduceAdd, Int.reduceSub, Int.reduceEq, reduceIte, Nat.reduceBNe, Int.reducePow, Nat.reducePow, Int.reduceMul, Int.reduceNeg, isB_i, isB_b, isB_y, isBv_i, isBv_b, eqCells_t, TT]
              have On' := opts_new (d := l.take n.toNat) On hoo (rowN_store es (x.toNat : Int) r' (slB G'.length (l.take n.toNat) (List.replicate jj 0)))
              rw [putP_new hk] at hpar
              refine ⟨by omega, by omega, by omega, (l.drop n.toNat).length, by rw [List.length_drop]; omega, ⟨⟨13, 0⟩, [(4, .c (.sl iO' 0 (es.length + 1) (es.length + 1 + r'))), (6, .c (roB (l.drop n.toNat) sp (c' - 1 - (1 + n.toNat)))), (10, .c (partsV ps rs c)), (11, .c (i64 ps.length)), (12, .c (i64 i))], _⟩, ⟨l.drop n.toNat, sp, c' - 1 - (1 + n.toNat), _, iO', true, _, r', rfl, by rw [List.length_drop]; omega, On', by rw [List.length_append]; simp only [List.length_cons, List.length_nil]; omega, ?_, ?_, by rw [List.length_append]; rfl⟩, .inl ⟨rfl, rfl, rfl, rfl, rfl, rfl, rfl, trivial⟩⟩
              · rw [← hpar, List.map_append]; rfl
              · simp only [List.map_append, List.sum_append, List.map_cons, List.map_nil, List.sum_cons, List.sum_nil, List.length_drop, List.length_take]; omega
  obtain rfl : i = ps.length := by omega
  have hd : decide ((ps.length : Int) < (ps.length : Int)) = false := by simp
  simp (maxSteps := 4000000) only [Try.results20, hd, XX, Nat.reduceBEq, Nat.reduceLT, Nat.reduceAdd, Nat.reduceMul, Nat.reduceSub, Nat.reduceLeDiff, Nat.reduceEqDiff, Int.reduceToNat, Int.reduceLT, Int.reduceLE, Int.reduceAdd, Int.reduceSub, Int.reduceEq, reduceIte, Nat.reduceBNe, Int.reducePow, Nat.reducePow, Int.reduceMul, Int.reduceNeg, isB_i, isB_b, isB_y, isBv_i, isBv_b, eqCells_t, TT]
  rw [List.drop_length] at hpar
  rw [← hpar]
  exact ⟨iO, o, es, r, rfl, O, rfl⟩
end Go.Proofs.Ytflccffjfnfoiaa.Sx
