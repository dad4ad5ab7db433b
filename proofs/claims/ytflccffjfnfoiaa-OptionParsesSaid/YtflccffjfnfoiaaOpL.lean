/- The symbolic executor, at work: options as their owner hands them in. No condition. -/
import Derived.Test.YtflccffjfnfoiaaOpK
namespace Go.Proofs.Ytflccffjfnfoiaa.Sx
open Go
set_option linter.unusedSimpArgs false
set_option linter.unusedVariables false
set_option maxRecDepth 10000
set_option maxHeartbeats 2000000

theorem rowC_put {es : List PE} {e : PE} {m : Nat} : (rowC es (m + 1)).take (es.length * 2) ++ (i64 e.k :: slB e.w e.d e.sp :: (rowC es (m + 1)).drop (es.length * 2 + 2)) = rowC (es ++ [e]) m := by
  rw [row_pre, row_post, rowC, flatc_app, List.append_assoc]; rfl
theorem opts_put {H : List SB} {iO : Nat} {es : List PE} {k : Int} {m : Nat} {d sp : List UInt8} (O : Opts H iO true es (m + 1)) {cells : List SC} (hc : cells = rowC (es ++ [⟨k, d, H.length, sp, true⟩]) m) :
    Opts (H.set iO ⟨true, 58, cells⟩ ++ [wB true (d ++ sp)]) iO true (es ++ [⟨k, d, H.length, sp, true⟩]) m := by
  subst hc
  have lO := lt_of O.row
  rw [← List.set_append_left _ _ lO]
  have old : ∀ i e, (es ++ [⟨k, d, H.length, sp, true⟩])[i]? = some e → (es[i]? = some e ∧ e.w < H.length ∧ e.w ≠ iO) ∨ (i = es.length ∧ e = ⟨k, d, H.length, sp, true⟩) := fun i e he => by
    rcases Nat.lt_or_ge i es.length with hi | hi
    · rw [List.getElem?_append_left hi] at he
      exact .inl ⟨he, lt_of (O.at_ i e he).1, O.neR he⟩
    · rw [List.getElem?_append_right hi] at he
      have : i - es.length = 0 := by have := (List.getElem?_eq_some_iff.1 he).1; simpa using this
      rw [this] at he
      cases he
      exact .inr ⟨by omega, rfl⟩
  refine ⟨?_, fun _ => rfl, fun i e he => ?_, fun i j e f hij he hf => ?_⟩
  · rw [List.getElem?_set_self (by simp; omega)]
  · rcases old i e he with ⟨h1, h2, h3⟩ | ⟨rfl, rfl⟩
    · rw [List.getElem?_set_ne (Ne.symm h3), List.getElem?_append_left h2]
      exact O.at_ i e h1
    · refine ⟨?_, fun _ => rfl⟩
      rw [List.getElem?_set_ne (by show iO ≠ H.length; omega), List.getElem?_append_right (Nat.le_refl _), Nat.sub_self]; rfl
  · rcases old i e he with ⟨h1, h2, h3⟩ | ⟨rfl, rfl⟩ <;> rcases old j f hf with ⟨g1, g2, g3⟩ | ⟨rfl, rfl⟩
    · exact O.ne i j e f hij h1 g1
    · show e.w ≠ H.length; omega
    · show H.length ≠ f.w; omega
    · omega

abbrev marksO : List SC := [i64 71, nilS, i64 72, nilS]
abbrev rowL (es : List PE) : List SC := rowC es 0 ++ marksO
/-- Options that were lent, in memory. -/
structure LentO (H : List SB) (iO : Nat) (es : List PE) : Prop where
  row : H[iO]? = some (optB true (rowL es))
  at_ : ∀ (i : Nat) (e : PE), es[i]? = some e → H[e.w]? = some (wB e.o (e.d ++ e.sp)) ∧ (0 < e.d.length + e.sp.length → e.o = true)
  ne : ∀ (i j : Nat) (e f : PE), i ≠ j → es[i]? = some e → es[j]? = some f → e.w ≠ f.w
  sp : ∀ e ∈ es, e.sp = [71, 72] ∧ e.o = true
theorem LentO.neR {H : List SB} {iO : Nat} {es : List PE} {i : Nat} {e : PE} (O : LentO H iO es) (h : es[i]? = some e) : e.w ≠ iO :=
  ne_of_ty (O.at_ i e h).1 O.row (fun h => absurd h (by decide : (5 : Nat) ≠ 58))
theorem LentO.mono {H H' : List SB} {iO : Nat} {es : List PE} (O : LentO H iO es) (h : ∀ k, k < H.length → H'[k]? = H[k]?) : LentO H' iO es :=
  ⟨(h _ (lt_of O.row)).trans O.row, fun i e he => ⟨(h _ (lt_of (O.at_ i e he).1)).trans (O.at_ i e he).1, (O.at_ i e he).2⟩, O.ne, O.sp⟩
theorem LentO.app {H : List SB} {iO : Nat} {es : List PE} (O : LentO H iO es) (t : List SB) : LentO (H ++ t) iO es := O.mono fun k hk => List.getElem?_append_left hk
theorem LentO.fz {r : Nat → Nat} {n : Nat} {H : List SB} {iO : Nat} {es : List PE} (O : LentO H iO es) : frV true (fun _ => true) r n H (.c (.sl iO 0 es.length (es.length + 2))) (.c (roO (es.map PE.oi) [] (es.length + 2))) := by
  refine .inr (.inl ⟨_, _, rfl, rfl, .inr ⟨rfl, .inl ⟨_, _, _, rfl, ?_⟩⟩⟩)
  rw [List.length_map, List.append_nil]
  refine .inr (.inr ⟨iO, 0, rfl, .inr ⟨rfl, _, O.row, rfl, ?_⟩⟩)
  have := frL_rows (Z := (List.replicate 0 zeroO).flatten ++ marksO) O.at_
  rw [List.drop_zero]
  simp only [rowL, rowC, List.append_assoc]
  exact this
def resLn (xs : List PI) (s : SV) (h' : List SB) : Prop := ∃ es : List PE, s = .c (.sl 0 0 es.length (es.length + 2)) ∧ h' = optB true (rowL (numF 1 es)) :: winsC es ∧ (∀ e ∈ es, e.sp = [71, 72] ∧ e.o = true) ∧ es.map PE.pi = xs
theorem resLn_noRo {x : List PI} {t : SV} {h' : List SB} (h : resLn x t h') : t.noRo = true ∧ (h'.all fun b => b.cells.all SC.noRo) = true := by
  obtain ⟨es, rfl, rfl, _⟩ := h
  refine ⟨rfl, ?_⟩
  rw [List.all_cons, Bool.and_eq_true]
  refine ⟨?_, ?_⟩
  · show (rowC _ _ ++ marksO).all _ = true
    rw [List.all_append, noRo_row]; rfl
  · rw [List.all_map, List.all_eq_true]
    intro e _
    exact noRo_bsC _
theorem resLn_of {P : Program} {f : FuncId} {args : List SV} {x : List PI} (s : Spec P f args [] fun s h' => ∃ iO es, s = .c (.sl iO 0 es.length (es.length + 2)) ∧ LentO h' iO es ∧ es.map PE.pi = x) : Spec P f args [] (resLn x) :=
  s.wk fun t h' h => by
    obtain ⟨iO, es, rfl, O, hp⟩ := h
    have hpi : (some iO :: es.map fun e => some e.w) = (iO :: es.map PE.w).map some := by simp
    have hnd : (iO :: es.map PE.w).Nodup := by
      rw [List.nodup_cons]
      constructor
      · intro h
        simp only [List.mem_map] at h
        obtain ⟨e, he, hw⟩ := h
        obtain ⟨i, hi⟩ := List.mem_iff_getElem?.1 he
        exact O.neR hi hw
      · rw [List.Nodup, List.pairwise_iff_getElem]
        intro i j hi hj hij
        rw [List.length_map] at hi hj
        rw [List.getElem_map, List.getElem_map]
        exact O.ne i j _ _ (by omega) (List.getElem?_eq_getElem hi) (List.getElem?_eq_getElem hj)
    refine ⟨.c (.sl 0 0 es.length (es.length + 2)), optB true (rowL (numF 1 es)) :: winsC es, some iO :: es.map fun e => some e.w, ?_, ⟨?_, wkHp_wins O.at_⟩, .inl ⟨rfl, rfl⟩, es, rfl, rfl, O.sp, hp⟩
    · rw [hpi]; exact piBase_all _ _ hnd
    · rw [O.row]
      refine ⟨.inl ⟨?_, ?_⟩, fun h => ⟨h, rfl⟩⟩
      · show (rowC _ _ ++ marksO).all _ = true
        rw [List.all_append, row_ids _ _ _ _ fun i hi => ?_]; rfl
        unfold isW
        rw [Nat.add_comm, List.getElem?_cons_succ, List.getElem?_map, List.getElem?_eq_getElem hi]; rfl
      · show rowC _ _ ++ marksO = (rowC _ _ ++ marksO).map _
        rw [List.map_append, row_ren _ _ _ _ fun i e he => ?_]; rfl
        unfold srcW
        rw [Nat.add_comm, List.getElem?_cons_succ, List.getElem?_map, he]; rfl
/-- A call that lends a row. -/
theorem call_lentO {P : Program} {xn : XN} {f : FuncId} {args : List SV} (args0 : List SV) {dst : Option Tmp} {k : List KI} {nm : NB} {tm : List (Nat × SV)} {hp : List SB} {Q : XE → St → Prop} {x : List PI}
    (s : Spec P f args0 [] (resLn x)) (ha : frA true (fun _ => true) (renF [] hp.length) 0 hp args args0)
    (hk : ∀ (t : List SB) (es : List PE), LentO (hp ++ t) hp.length es → (∀ e ∈ es, hp.length < e.w) → es.map PE.pi = x →
      xn k ⟨nm, put dst (.c (.sl hp.length 0 es.length (es.length + 2))) tm, hp ++ t⟩ Q) : CallGoal P xn f args dst k ⟨nm, tm, hp⟩ Q := by
  refine call_fz args0 s (fun t h' => resLn_noRo) ha ?_
  rintro _ _ ⟨es, rfl, rfl, h2, h3⟩
  have e1 : renF [] hp.length 0 = hp.length := rfl
  have e2 : (rowL (numF 1 es)).map (SC.ren (renF [] hp.length)) = rowL (numF (hp.length + 1) es) := by
    have a1 := row_ren (renF [] hp.length) 0 1 (es := numF (hp.length + 1) es) ?_
    · have : numF 1 (numF (hp.length + 1) es) = numF 1 es := by
        have g : ∀ (k m : Nat) (es : List PE), numF k (numF m es) = numF k es := by
          intro k m es
          induction es generalizing k m with
          | nil => rfl
          | cons e es ih => simp only [numF, ih]
        exact g _ _ _
      rw [this] at a1
      rw [rowL, List.map_append, a1]; rfl
    · intro i e he
      obtain ⟨f, hf, rfl⟩ := numF_at he
      show hp.length + (1 + i - 0) = hp.length + 1 + i
      omega
  have e3 : (winsC es).map (SB.ren (renF [] hp.length)) = winsC es := by
    rw [List.map_map]
    refine List.map_congr_left fun e he => ?_
    show SB.mk _ _ (List.map _ (bsC _)) = _
    rw [ren_bsC]
  have := hk (optB true (rowL (numF (hp.length + 1) es)) :: winsC es) (numF (hp.length + 1) es) ⟨?_, fun i e he => ?_, fun i j e f hij he hf => ?_, fun e he => ?_⟩ (fun e he => ?_) (by rw [numF_pi, h3])
  · rw [numF_len] at this
    simp only [List.map_cons, e3]
    show xn k ⟨nm, put dst (.c (SC.sl (renF [] hp.length 0) 0 es.length (es.length + 2))) tm, hp ++ (⟨true, _, (rowL (numF 1 es)).map (SC.ren (renF [] hp.length))⟩ :: winsC es)⟩ Q
    rw [e2, e1]
    exact this
  · rw [List.getElem?_append_right (Nat.le_refl _), Nat.sub_self]; rfl
  · obtain ⟨f, hf, rfl⟩ := numF_at he
    refine ⟨?_, fun _ => (h2 f (List.mem_of_getElem? hf)).2⟩
    show (hp ++ _)[hp.length + 1 + i]? = _
    rw [List.getElem?_append_right (by omega), show hp.length + 1 + i - hp.length = i + 1 by omega, List.getElem?_cons_succ, List.getElem?_map, hf]; rfl
  · obtain ⟨f1, hf1, rfl⟩ := numF_at he
    obtain ⟨f2, hf2, rfl⟩ := numF_at hf
    show hp.length + 1 + i ≠ hp.length + 1 + j
    omega
  · obtain ⟨i, hi⟩ := List.mem_iff_getElem?.1 he
    obtain ⟨f, hf, rfl⟩ := numF_at hi
    exact h2 f (List.mem_of_getElem? hf)
  · obtain ⟨i, hi⟩ := List.mem_iff_getElem?.1 he
    obtain ⟨f, hf, rfl⟩ := numF_at hi
    show hp.length < hp.length + 1 + i
    omega

theorem rowL_of {es : List PE} {n : Nat} (h : es.length = n) : ((rowC es 2).take (n * 2) ++ i64 71 :: nilS :: (rowC es 2).drop (n * 2 + 2)).take ((n + 1) * 2) ++ i64 72 :: nilS :: ((rowC es 2).take (n * 2) ++ i64 71 :: nilS :: (rowC es 2).drop (n * 2 + 2)).drop ((n + 1) * 2 + 2) = rowL es := by
  subst h
  rw [row_pre, row_post (r := 1)]
  have lA := flatc_len es
  simp only [rowL, rowC, List.append_assoc]
  generalize (es.map PE.c).flatten = A at lA ⊢
  rw [List.take_append, List.drop_append, List.take_of_length_le (by omega), List.drop_of_length_le (by omega), lA, show (es.length + 1) * 2 - es.length * 2 = 2 by omega, show (es.length + 1) * 2 + 2 - es.length * 2 = 4 by omega, List.nil_append, List.append_assoc]
  rfl
theorem lentO_spec (xs sp : List OI) (c : Nat) (hok : ∀ x ∈ xs, x.ok) (hn : xs.length ≤ 4398046511104) : Spec cx.P 12 [.c (roO xs sp c)] [] (resLn (piL xs)) := by
  refine resLn_of ?_
  have e1 : IntKind.i64.wrap ((xs.length : Int) + 2) = ((xs.length + 2 : Nat) : Int) := by rw [w64] <;> omega
  have e2 : (((xs.length + 2 : Nat) : Int)).toNat = xs.length + 2 := by omega
  refine spec_of_X cx_ok Try.func12 rfl (by kernel_rfl) (by kernel_rfl) (Nat.le_of_ble_eq_true rfl) 400 5 ?_
  simp (maxSteps := 4000000) only [Try.results12, XX, Nat.reduceBEq, Nat.reduceLT, Nat.reduceAdd, Nat.reduceMul, Nat.reduceSub, Nat.reduceLeDiff, Nat.reduceEqDiff, Int.reduceToNat, Int.reduceLT, Int.reduceLE, Int.reduceAdd, Int.reduceSub, Int.reduceEq, reduceIte, Nat.reduceBNe, Int.reducePow, Nat.reducePow, Int.reduceMul, Int.reduceNeg, isB_i, isB_b, isB_y, isBv_i, isBv_b, eqCells_t, TT]
  simp (maxSteps := 4000000) only [Try.results12, e1, e2, XX, Nat.reduceBEq, Nat.reduceLT, Nat.reduceAdd, Nat.reduceMul, Nat.reduceSub, Nat.reduceLeDiff, Nat.reduceEqDiff, Int.reduceToNat, Int.reduceLT, Int.reduceLE, Int.reduceAdd, Int.reduceSub, Int.reduceEq, reduceIte, Nat.reduceBNe, Int.reducePow, Nat.reducePow, Int.reduceMul, Int.reduceNeg, isB_i, isB_b, isB_y, isBv_i, isBv_b, eqCells_t, TT]
  refine ⟨by omega, ?_⟩
  refine loop_any cx_ok 400 (fun μ σ => ∃ (i : Nat) (H : List SB) (es : List PE), μ = xs.length - i ∧ i ≤ xs.length ∧ es.length = i ∧ Opts H 0 true es (xs.length + 2 - i) ∧ es.map PE.pi = piL (xs.take i) ∧ (∀ e ∈ es, e.sp = [71, 72] ∧ e.o = true) ∧
      σ = ⟨⟨5, 0⟩, [(0, .c (roO xs sp c)), (3, .c (.sl 0 0 (xs.length + 2) (xs.length + 2))), (4, .c (i64 i))], H⟩) xs.length
    ⟨⟨5, 0⟩, [(0, .c (roO xs sp c)), (3, .c (.sl 0 0 (xs.length + 2) (xs.length + 2))), (4, .c (i64 (0 : Nat)))], [optB true (rowC [] (xs.length + 2))]⟩ ⟨0, _, [], rfl, Nat.zero_le _, rfl, ⟨rfl, fun _ => rfl, fun i e h => by simp at h, fun i j e f _ h => by simp at h⟩, rfl, (fun e h => nomatch h), rfl⟩ (.inl ⟨rfl, rfl, rfl, rfl, rfl, trivial⟩) ?_
  rintro μ σ ⟨i, H, es, rfl, hi, hel, O, hpi, hsp, rfl⟩
  have hrow := O.row
  have lrow := lt_of hrow
  have lr := rowC_len es (xs.length + 2 - i)
  by_cases hlt : i < xs.length
  · have hd : decide ((i : Int) < (xs.length : Int)) = true := by simp only [decide_eq_true_eq]; omega
    have e3 : IntKind.i64.wrap ((i : Int) + 1) = ((i + 1 : Nat) : Int) := by rw [w64] <;> omega
    obtain ⟨x, hx⟩ : ∃ x, xs[i]? = some x := ⟨_, List.getElem?_eq_getElem hlt⟩
    obtain ⟨R, hR⟩ := osR_at (sp := sp) hx
    obtain ⟨ox1, ox2, ox3⟩ := hok x (List.mem_of_getElem? hx)
    simp (maxSteps := 4000000) only [Try.results12, hd, hrow, lrow, XX, Nat.reduceBEq, Nat.reduceLT, Nat.reduceAdd, Nat.reduceMul, Nat.reduceSub, Nat.reduceLeDiff, Nat.reduceEqDiff, Int.reduceToNat, Int.reduceLT, Int.reduceLE, Int.reduceAdd, Int.reduceSub, Int.reduceEq, reduceIte, Nat.reduceBNe, Int.reducePow, Nat.reducePow, Int.reduceMul, Int.reduceNeg, isB_i, isB_b, isB_y, isBv_i, isBv_b, eqCells_t, TT]
    refine draw_of cx_ok (by kernel_rfl) 400 [] [(0, true), (1, true), (2, true), (3, true), (4, true), (5, true), (6, true), (7, true), (8, true), (9, true), (10, true), (11, true), (12, false), (13, true), (14, true), (15, false)] (by kernel_rfl) (by first | exact hok | simp [*]) ?_
    simp (maxSteps := 4000000) only [Try.results12, hR, hrow, lrow, maskL_nil, unL_nil, List.append_assoc, List.getElem?_append_left, List.getElem?_append_right, List.length_append, List.length_set, List.set_append_left, gset, List.getElem?_set_ne, Nat.add_sub_cancel_left, Nat.sub_self, Nat.le_refl, Nat.le_add_right, List.replicate_one, List.flatten_cons, List.flatten_nil, rep_flat, XX, Nat.reduceBEq, Nat.reduceLT, Nat.reduceAdd, Nat.reduceMul, Nat.reduceSub, Nat.reduceLeDiff, Nat.reduceEqDiff, Int.reduceToNat, Int.reduceLT, Int.reduceLE, Int.reduceAdd, Int.reduceSub, Int.reduceEq, reduceIte, Nat.reduceBNe, Int.reducePow, Nat.reducePow, Int.reduceMul, Int.reduceNeg, isB_i, isB_b, isB_y, isBv_i, isBv_b, eqCells_t, TT]
    refine ⟨by omega, by omega, by omega, by omega, ?_⟩
    refine call_fz [.c (roB x.d x.sp x.c)] (lent_spec x.d x.sp x.c (by omega)) (fun t h' h => by obtain ⟨rfl, rfl⟩ := h; exact ⟨rfl, by simp only [XX, Nat.reduceBEq, Nat.reduceLT, Nat.reduceAdd, Nat.reduceMul, Nat.reduceSub, Nat.reduceLeDiff, Nat.reduceEqDiff, Int.reduceToNat, Int.reduceLT, Int.reduceLE, Int.reduceAdd, Int.reduceSub, Int.reduceEq, reduceIte, Nat.reduceBNe, Int.reducePow, Nat.reducePow, Int.reduceMul, Int.reduceNeg, isB_i, isB_b, isB_y, isBv_i, isBv_b, eqCells_t, TT, ids_bsC, ren_bsC, noRo_bsC, plain_bsC, lt_bsC, ids_byte, ren_byte, noRo_byte, plain_byte, lt_byte]⟩) ⟨.inl ⟨rfl, rfl⟩, trivial⟩ ?_
    rintro _ _ ⟨rfl, rfl⟩
    obtain ⟨m, hm⟩ : ∃ m, xs.length + 2 - i = m + 1 := ⟨xs.length + 1 - i, by omega⟩
    rw [hm] at O hrow lr
    subst hel
    have hput := rowC_put (es := es) (e := ⟨x.k, x.d, H.length, [71, 72], true⟩) (m := m)
    have On := opts_put (k := x.k) (d := x.d) (sp := [71, 72]) O hput
    simp (maxSteps := 4000000) only [Try.results12, hR, hrow, lrow, maskL_nil, unL_nil, e3, ids_bsC, ren_bsC, noRo_bsC, plain_bsC, lt_bsC, ids_byte, ren_byte, noRo_byte, plain_byte, lt_byte, List.append_assoc, List.getElem?_append_left, List.getElem?_append_right, List.length_append, List.length_set, List.set_append_left, gset, List.getElem?_set_ne, Nat.add_sub_cancel_left, Nat.sub_self, Nat.le_refl, Nat.le_add_right, List.replicate_one, List.flatten_cons, List.flatten_nil, rep_flat, XX, Nat.reduceBEq, Nat.reduceLT, Nat.reduceAdd, Nat.reduceMul, Nat.reduceSub, Nat.reduceLeDiff, Nat.reduceEqDiff, Int.reduceToNat, Int.reduceLT, Int.reduceLE, Int.reduceAdd, Int.reduceSub, Int.reduceEq, reduceIte, Nat.reduceBNe, Int.reducePow, Nat.reducePow, Int.reduceMul, Int.reduceNeg, isB_i, isB_b, isB_y, isBv_i, isBv_b, eqCells_t, TT]
    refine ⟨by omega, by rw [flatc_len, rep_len (sz := 2) rfl]; omega, xs.length - (es.length + 1), by omega, _, ⟨es.length + 1, _, es ++ [⟨x.k, x.d, H.length, [71, 72], true⟩], rfl, by omega, by simp, by rw [show xs.length + 2 - (es.length + 1) = m by omega]; exact On, ?_, ?_, rfl⟩, .inl ⟨rfl, rfl, rfl, rfl, rfl, trivial⟩⟩
    · rw [List.map_append, hpi, take_nextO hx]
      simp only [piL, List.map_append, List.map_cons, List.map_nil]
    · intro e he
      rcases List.mem_append.1 he with he | he
      · exact hsp e he
      · obtain rfl := List.mem_singleton.1 he
        exact ⟨rfl, rfl⟩
  obtain rfl : i = xs.length := by omega
  have hd : decide ((xs.length : Int) < (xs.length : Int)) = false := by simp
  have e3 : IntKind.i64.wrap ((xs.length : Int) + 1) = ((xs.length + 1 : Nat) : Int) := by rw [w64] <;> omega
  have e4 : (((xs.length + 1 : Nat) : Int)).toNat = xs.length + 1 := by omega
  rw [show xs.length + 2 - xs.length = 2 by omega] at O hrow lr
  have hml := rowL_of hel
  simp (maxSteps := 4000000) only [Try.results12, hd, hrow, lrow, e3, e4, List.set_set, List.append_assoc, List.getElem?_append_left, List.getElem?_append_right, List.length_append, List.length_set, List.set_append_left, gset, List.getElem?_set_ne, Nat.add_sub_cancel_left, Nat.sub_self, Nat.le_refl, Nat.le_add_right, List.replicate_one, List.flatten_cons, List.flatten_nil, rep_flat, XX, Nat.reduceBEq, Nat.reduceLT, Nat.reduceAdd, Nat.reduceMul, Nat.reduceSub, Nat.reduceLeDiff, Nat.reduceEqDiff, Int.reduceToNat, Int.reduceLT, Int.reduceLE, Int.reduceAdd, Int.reduceSub, Int.reduceEq, reduceIte, Nat.reduceBNe, Int.reducePow, Nat.reducePow, Int.reduceMul, Int.reduceNeg, isB_i, isB_b, isB_y, isBv_i, isBv_b, eqCells_t, TT]
  have lA := flatc_len es
  refine ⟨by omega, by rw [lA, rep_len (sz := 2) rfl]; omega, by omega, ?_, by omega, 0, es, by rw [hel], ⟨?_, fun i e he => ?_, O.ne, hsp⟩, by rw [hpi, List.take_length]⟩
  · rw [List.length_take, List.length_drop, lr]; omega
  · rw [List.getElem?_set_self lrow]
    congr 2
  · rw [List.getElem?_set_ne (O.neR he).symm]
    exact O.at_ i e he
end Go.Proofs.Ytflccffjfnfoiaa.Sx
