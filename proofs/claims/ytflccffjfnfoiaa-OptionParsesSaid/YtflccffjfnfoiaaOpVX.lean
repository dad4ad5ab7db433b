/- The symbolic executor, at work: several texts in one. No condition. -/
import Derived.Test.YtflccffjfnfoiaaOpM
namespace Go.Proofs.Ytflccffjfnfoiaa.Sx
open Go
set_option linter.unusedSimpArgs false
set_option linter.unusedVariables false
set_option maxRecDepth 10000
set_option maxHeartbeats 2000000

/-- An option laid behind a row, its bytes standing in a window of their own. -/
theorem opts_pushd {xn : XN} {dst : Option Tmp} {k : List KI} {nm : NB} {tm : List (Nat × SV)} {Q : XE → St → Prop} {H : List SB} {iO g w : Nat} {o o' : Bool} {es : List PE} {r : Nat} {c : Int} {d sp : List UInt8} {b : SB} (O : Opts H iO o es r) (hg : g = H.length + 1)
    (hw : H[w]? = some (wB o' (d ++ sp))) (ho' : 0 < d.length + sp.length → o' = true) (hne : ∀ e ∈ es, e.w ≠ w)
    (hk : ∀ H' iO' r', Opts H' iO' true (es ++ [⟨c, d, w, sp, o'⟩]) r' → H.length ≤ H'.length → (∀ i, i < H.length → i ≠ iO → H'[i]? = H[i]?) → (iO' = iO ∨ H.length ≤ iO') → xn k ⟨nm, put dst (.c (.sl iO' 0 (es.length + 1) (es.length + 1 + r'))) tm, H'⟩ Q) :
    XApp xn (es.length + 1) (es.length + r) dst k nm tm (.c (.sl iO 0 (es.length + 1) (es.length + r)), H.set iO ⟨o, 58, (rowC es r).take (es.length * 2) ++ i64 c :: slB w d sp :: (rowC es r).drop (es.length * 2 + 2)⟩ ++ [b])
      (fun c' => (.c (.sl g 0 (es.length + 1) c'), H ++ [b, ⟨true, 58, (rowC es r).take (es.length * 2) ++ i64 c :: slB w d sp :: (List.replicate (c' - (es.length + 1)) [SC.v (.int .i64 0), SC.v (.slice none 0 0)]).flatten⟩])) Q := by
  have lO := lt_of O.row
  have hwO : w ≠ iO := ne_of_ty hw O.row (fun h => absurd h (by decide : (5 : Nat) ≠ 58))
  have mk : ∀ (H' : List SB) (iO' r' : Nat), H'[iO']? = some (optB true (rowC (es ++ [⟨c, d, w, sp, o'⟩]) r')) → (∀ i, i < H.length → i ≠ iO → H'[i]? = H[i]?) → Opts H' iO' true (es ++ [⟨c, d, w, sp, o'⟩]) r' := by
    intro H' iO' r' h1 kp
    have old : ∀ (i : Nat) (e : PE), (es ++ [⟨c, d, w, sp, o'⟩])[i]? = some e → es[i]? = some e ∨ (i = es.length ∧ e = ⟨c, d, w, sp, o'⟩) := fun i e he => by
      rcases Nat.lt_or_ge i es.length with hi | hi
      · rw [List.getElem?_append_left hi] at he
        exact .inl he
      · rw [List.getElem?_append_right hi] at he
        have : i - es.length = 0 := by have := (List.getElem?_eq_some_iff.1 he).1; simpa using this
        rw [this] at he
        cases he
        exact .inr ⟨by omega, rfl⟩
    refine ⟨h1, fun _ => rfl, fun i e he => ?_, fun i j e f hij he hf => ?_⟩
    · rcases old i e he with he | ⟨rfl, rfl⟩
      · exact ⟨(kp _ (lt_of (O.at_ i e he).1) (O.neR he)).trans (O.at_ i e he).1, (O.at_ i e he).2⟩
      · exact ⟨(kp _ (lt_of hw) hwO).trans hw, ho'⟩
    · rcases old i e he with he | ⟨rfl, rfl⟩ <;> rcases old j f hf with hf | ⟨rfl, rfl⟩
      · exact O.ne i j e f hij he hf
      · exact hne e (List.mem_of_getElem? he)
      · exact (hne f (List.mem_of_getElem? hf)).symm
      · omega
  refine xapp_P (fun s H' => ∃ iO' r', s = .c (.sl iO' 0 (es.length + 1) (es.length + 1 + r')) ∧ Opts H' iO' true (es ++ [⟨c, d, w, sp, o'⟩]) r' ∧ H.length ≤ H'.length ∧ (∀ i, i < H.length → i ≠ iO → H'[i]? = H[i]?) ∧ (iO' = iO ∨ H.length ≤ iO')) (fun h => ?_) (fun h c' h1 h2 => ?_) ?_
  · obtain ⟨r', rfl⟩ : ∃ r', r = r' + 1 := ⟨r - 1, by omega⟩
    have ho := O.own (by omega)
    subst ho
    have kp : ∀ i, i < H.length → i ≠ iO → (H.set iO ⟨true, 58, (rowC es (r' + 1)).take (es.length * 2) ++ i64 c :: slB w d sp :: (rowC es (r' + 1)).drop (es.length * 2 + 2)⟩ ++ [b])[i]? = H[i]? := fun i hi hne => by
      rw [List.getElem?_append_left (by simpa using hi), List.getElem?_set_ne (Ne.symm hne)]
    refine ⟨iO, r', by rw [Nat.add_assoc, Nat.add_comm 1 r'], mk _ _ _ ?_ kp, by simp, kp, .inl rfl⟩
    rw [List.getElem?_append_left (by simpa using lO), List.getElem?_set_self lO, row_pre, row_post, rowC, flatc_app, List.append_assoc]; rfl
  · obtain ⟨j, rfl⟩ := Nat.exists_eq_add_of_le h1
    have kp : ∀ (X : List SB) i, i < H.length → (H ++ X)[i]? = H[i]? := fun X i hi => List.getElem?_append_left hi
    refine ⟨g, j, rfl, mk _ _ _ ?_ (fun i hi _ => kp _ _ hi), by simp, fun i hi _ => kp _ _ hi, .inr (by omega)⟩
    rw [hg, List.getElem?_append_right (by omega), Nat.add_sub_cancel_left, row_pre, Nat.add_sub_cancel_left, rowC, flatc_app, List.append_assoc]; rfl
  · rintro s H' ⟨iO', r', rfl, h1, h2, h3, h4⟩
    exact hk H' iO' r' h1 h2 h3 h4

/-- A row. -/
def resR (is : List PI) (s : SV) (h' : List SB) : Prop := ∃ o es r, s = .c (.sl 0 0 es.length (es.length + r)) ∧
  h' = optB o (rowC (numF 1 es) r) :: winsC es ∧ (0 < es.length + r → o = true) ∧ (∀ e ∈ es, 0 < e.d.length + e.sp.length → e.o = true) ∧ es.map PE.pi = is
theorem resR_noRo {x : List PI} {t : SV} {h' : List SB} (h : resR x t h') : t.noRo = true ∧ (h'.all fun b => b.cells.all SC.noRo) = true := by
  obtain ⟨o, es, r, rfl, rfl, _⟩ := h
  refine ⟨rfl, ?_⟩
  rw [List.all_cons, Bool.and_eq_true]
  refine ⟨noRo_row _ _, ?_⟩
  rw [List.all_map, List.all_eq_true]
  intro e _
  exact noRo_bsC _
theorem resR_of {P : Program} {f : FuncId} {args : List SV} {x : List PI} (s : Spec P f args [] fun s h' => ∃ iO o es r, s = .c (.sl iO 0 es.length (es.length + r)) ∧ Opts h' iO o es r ∧ es.map PE.pi = x) : Spec P f args [] (resR x) :=
  s.wk fun t h' h => by
    obtain ⟨iO, o, es, r, rfl, O, hp⟩ := h
    have hpi : (some iO :: es.map fun e => some e.w) = (iO :: es.map PE.w).map some := by simp
    refine ⟨.c (.sl 0 0 es.length (es.length + r)), optB o (rowC (numF 1 es) r) :: winsC es, some iO :: es.map fun e => some e.w, ?_, ⟨?_, wkHp_wins O.at_⟩, .inl ⟨rfl, rfl⟩, o, es, r, rfl, rfl, O.own, fun e he => ?_, hp⟩
    · rw [hpi]; exact piBase_all _ _ O.nodup
    · rw [O.row]
      refine ⟨.inl ⟨row_ids _ _ _ _ fun i hi => ?_, (row_ren _ _ _ _ fun i e he => ?_).symm⟩, fun h => ⟨h, rfl⟩⟩
      · unfold isW
        rw [Nat.add_comm, List.getElem?_cons_succ, List.getElem?_map, List.getElem?_eq_getElem hi]; rfl
      · unfold srcW
        rw [Nat.add_comm, List.getElem?_cons_succ, List.getElem?_map, he]; rfl
    · obtain ⟨i, hi⟩ := List.mem_iff_getElem?.1 he
      exact (O.at_ i e hi).2
/-- A call that gives a row. -/
theorem call_row {P : Program} {xn : XN} {f : FuncId} {args : List SV} (args0 : List SV) {dst : Option Tmp} {k : List KI} {nm : NB} {tm : List (Nat × SV)} {hp : List SB} {Q : XE → St → Prop} {x : List PI}
    (s : Spec P f args0 [] (resR x)) (ha : frA true (fun _ => true) (renF [] hp.length) 0 hp args args0)
    (hk : ∀ (t : List SB) (o : Bool) (es : List PE) (r : Nat), Opts (hp ++ t) hp.length o es r → (∀ e ∈ es, hp.length < e.w) → es.map PE.pi = x →
      xn k ⟨nm, put dst (.c (.sl hp.length 0 es.length (es.length + r))) tm, hp ++ t⟩ Q) : CallGoal P xn f args dst k ⟨nm, tm, hp⟩ Q := by
  refine call_fz args0 s (fun t h' => resR_noRo) ha ?_
  rintro _ _ ⟨o, es, r, rfl, rfl, h1, h2, h3⟩
  have e1 : renF [] hp.length 0 = hp.length := rfl
  have e2 : (rowC (numF 1 es) r).map (SC.ren (renF [] hp.length)) = rowC (numF (hp.length + 1) es) r := by
    have a1 := row_ren (renF [] hp.length) r 1 (es := numF (hp.length + 1) es) ?_
    · have : numF 1 (numF (hp.length + 1) es) = numF 1 es := by
        have g : ∀ (k m : Nat) (es : List PE), numF k (numF m es) = numF k es := by
          intro k m es
          induction es generalizing k m with
          | nil => rfl
          | cons e es ih => simp only [numF, ih]
        exact g _ _ _
      rw [this] at a1
      exact a1
    · intro i e he
      obtain ⟨f, hf, rfl⟩ := numF_at he
      show hp.length + (1 + i - 0) = hp.length + 1 + i
      omega
  have e3 : (winsC es).map (SB.ren (renF [] hp.length)) = winsC es := by
    rw [List.map_map]
    refine List.map_congr_left fun e he => ?_
    show SB.mk _ _ (List.map _ (bsC _)) = _
    rw [ren_bsC]
  have := hk (optB o (rowC (numF (hp.length + 1) es) r) :: winsC es) o (numF (hp.length + 1) es) r ⟨?_, by rw [numF_len]; exact h1, fun i e he => ?_, fun i j e f hij he hf => ?_⟩ (fun e he => ?_) (by rw [numF_pi, h3])
  · rw [numF_len] at this
    simp only [List.map_cons, e3]
    show xn k ⟨nm, put dst (.c (SC.sl (renF [] hp.length 0) 0 es.length (es.length + r))) tm, hp ++ (⟨o, _, (rowC (numF 1 es) r).map (SC.ren (renF [] hp.length))⟩ :: winsC es)⟩ Q
    rw [e2, e1]
    exact this
  · rw [List.getElem?_append_right (Nat.le_refl _), Nat.sub_self]; rfl
  · obtain ⟨f, hf, rfl⟩ := numF_at he
    refine ⟨?_, h2 f (List.mem_of_getElem? hf)⟩
    show (hp ++ _)[hp.length + 1 + i]? = _
    rw [List.getElem?_append_right (by omega), show hp.length + 1 + i - hp.length = i + 1 by omega, List.getElem?_cons_succ, List.getElem?_map, hf]; rfl
  · obtain ⟨f1, hf1, rfl⟩ := numF_at he
    obtain ⟨f2, hf2, rfl⟩ := numF_at hf
    show hp.length + 1 + i ≠ hp.length + 1 + j
    omega
  · obtain ⟨i, hi⟩ := List.mem_iff_getElem?.1 he
    obtain ⟨f, hf, rfl⟩ := numF_at hi
    show hp.length < hp.length + 1 + i
    omega

theorem copied_spec (xs sp : List OI) (c : Nat) (hok : ∀ x ∈ xs, x.ok) (hn : xs.length ≤ 4398046511104) : Spec cx.P 44 [.c (roO xs sp c)] [] (resR (piL xs)) := by
  refine resR_of ?_
  refine spec_of_X cx_ok Try.func44 rfl (by kernel_rfl) (by kernel_rfl) (Nat.le_of_ble_eq_true rfl) 400 6 ?_
  simp (maxSteps := 4000000) only [Try.results44, XX, Nat.reduceBEq, Nat.reduceLT, Nat.reduceAdd, Nat.reduceMul, Nat.reduceSub, Nat.reduceLeDiff, Nat.reduceEqDiff, Int.reduceToNat, Int.reduceLT, Int.reduceLE, Int.reduceAdd, Int.reduceSub, Int.reduceEq, reduceIte, Nat.reduceBNe, Int.reducePow, Nat.reducePow, Int.reduceMul, Int.reduceNeg, isB_i, isB_b, isB_y, isBv_i, isBv_b, eqCells_t, TT]
  refine loop_any cx_ok 400 (fun μ σ => ∃ (i : Nat) (H : List SB) (iO : Nat) (o : Bool) (es : List PE) (r : Nat), μ = xs.length - i ∧ i ≤ xs.length ∧ es.length = i ∧ Opts H iO o es r ∧ es.map PE.pi = piL (xs.take i) ∧
      σ = ⟨⟨6, 0⟩, [(0, .c (roO xs sp c)), (3, .c (.sl iO 0 es.length (es.length + r))), (4, .c (i64 i))], H⟩) xs.length
    ⟨⟨6, 0⟩, [(0, .c (roO xs sp c)), (3, .c (.sl 0 0 0 0)), (4, .c (i64 (0 : Nat)))], [optB false []]⟩ ⟨0, [optB false []], 0, false, [], 0, rfl, Nat.zero_le _, rfl, ⟨rfl, fun h => absurd h (by simp), fun i e h => by simp at h, fun i j e f _ h => by simp at h⟩, rfl, rfl⟩ ?_ ?_
  · exact .inr ⟨[none], rfl, rfl, ⟨⟨rfl, rfl⟩, trivial⟩, ⟨.inl ⟨rfl, rfl⟩, .inr (.inr (.inr ⟨_, _, rfl, .inl rfl⟩)), .inl ⟨rfl, rfl⟩, trivial⟩⟩
  rintro μ σ ⟨i, H, iO, o, es, r, rfl, hi, hel, O, hpi, rfl⟩
  have hrow := O.row
  have lrow := lt_of hrow
  by_cases hlt : i < xs.length
  · have hd : decide ((i : Int) < (xs.length : Int)) = true := by simp only [decide_eq_true_eq]; omega
    have e3 : IntKind.i64.wrap ((i : Int) + 1) = ((i + 1 : Nat) : Int) := by rw [w64] <;> omega
    obtain ⟨x, hx⟩ : ∃ x, xs[i]? = some x := ⟨_, List.getElem?_eq_getElem hlt⟩
    obtain ⟨R, hR⟩ := osR_at (sp := sp) hx
    obtain ⟨ox1, ox2, ox3⟩ := hok x (List.mem_of_getElem? hx)
    have tx : (bsR (x.d ++ x.sp)).take x.d.length = bsR x.d := by rw [rs_take, List.take_left' rfl]
    simp (maxSteps := 4000000) only [Try.results44, hd, hR, hrow, lrow, tx, bsR_toSC, rep_flat, XX, Nat.reduceBEq, Nat.reduceLT, Nat.reduceAdd, Nat.reduceMul, Nat.reduceSub, Nat.reduceLeDiff, Nat.reduceEqDiff, Int.reduceToNat, Int.reduceLT, Int.reduceLE, Int.reduceAdd, Int.reduceSub, Int.reduceEq, reduceIte, Nat.reduceBNe, Int.reducePow, Nat.reducePow, Int.reduceMul, Int.reduceNeg, isB_i, isB_b, isB_y, isBv_i, isBv_b, eqCells_t, TT]
    refine ⟨by omega, by omega, ⟨⟨by omega, by unfold maxLen; omega⟩, by simp⟩, ?_⟩
    refine xapp_nilB rfl rfl fun j od hod => ?_
    have O1 := O.app [wB od (x.d ++ List.replicate j 0)]
    have hw : (H ++ [wB od (x.d ++ List.replicate j 0)])[H.length]? = some (wB od (x.d ++ List.replicate j 0)) := by rw [List.getElem?_append_right (Nat.le_refl _), Nat.sub_self]; rfl
    have lE : ∀ e ∈ es, e.w ≠ H.length := fun e he => by
      obtain ⟨i, hi⟩ := List.mem_iff_getElem?.1 he
      have := lt_of (O.at_ i e hi).1
      omega
    have hrow1 := O1.row
    have lrow1 := lt_of hrow1
    generalize H ++ [wB od (x.d ++ List.replicate j 0)] = H1 at *
    simp (maxSteps := 4000000) only [Try.results44, hd, hR, hrow1, lrow1, e3, tx, bsR_toSC, List.append_assoc, List.getElem?_append_left, List.getElem?_append_right, List.length_append, List.length_set, List.set_append_left, gset, List.getElem?_set_ne, Nat.add_sub_cancel_left, Nat.sub_self, Nat.le_refl, Nat.le_add_right, List.replicate_one, List.flatten_cons, List.flatten_nil, rep_flat, XX, Nat.reduceBEq, Nat.reduceLT, Nat.reduceAdd, Nat.reduceMul, Nat.reduceSub, Nat.reduceLeDiff, Nat.reduceEqDiff, Int.reduceToNat, Int.reduceLT, Int.reduceLE, Int.reduceAdd, Int.reduceSub, Int.reduceEq, reduceIte, Nat.reduceBNe, Int.reducePow, Nat.reducePow, Int.reduceMul, Int.reduceNeg, isB_i, isB_b, isB_y, isBv_i, isBv_b, eqCells_t, TT]
    refine ⟨by omega, by omega, ⟨by omega, by unfold maxLen; omega, by rw [flatc_len, rep_len (sz := 2) rfl]; omega, fun h => ⟨O1.own (by omega), by rw [flatc_len, rep_len (sz := 2) rfl]; omega⟩⟩, opts_pushd O1 rfl hw hod lE fun H' iO' r' O' h1 h2 h3 => ?_⟩
    have hp' : (es ++ [(⟨x.k, x.d, H.length, List.replicate j 0, od⟩ : PE)]).map PE.pi = piL (xs.take (i + 1)) := by
      rw [List.map_append, hpi, take_nextO hx]
      simp only [piL, List.map_append, List.map_cons, List.map_nil]
    have le' : (es ++ [(⟨x.k, x.d, H.length, List.replicate j 0, od⟩ : PE)]).length = es.length + 1 := by simp
    generalize es ++ [(⟨x.k, x.d, H.length, List.replicate j 0, od⟩ : PE)] = es' at *
    rw [← le']
    simp (maxSteps := 4000000) only [Try.results44, e3, XX, Nat.reduceBEq, Nat.reduceLT, Nat.reduceAdd, Nat.reduceMul, Nat.reduceSub, Nat.reduceLeDiff, Nat.reduceEqDiff, Int.reduceToNat, Int.reduceLT, Int.reduceLE, Int.reduceAdd, Int.reduceSub, Int.reduceEq, reduceIte, Nat.reduceBNe, Int.reducePow, Nat.reducePow, Int.reduceMul, Int.reduceNeg, isB_i, isB_b, isB_y, isBv_i, isBv_b, eqCells_t, TT]
    exact ⟨xs.length - (i + 1), by omega, _, ⟨i + 1, H', iO', true, es', r', rfl, by omega, by omega, O', hp', rfl⟩, .inl ⟨rfl, rfl, rfl, rfl, rfl, trivial⟩⟩
  obtain rfl : i = xs.length := by omega
  have hd : decide ((xs.length : Int) < (xs.length : Int)) = false := by simp
  rw [List.take_length] at hpi
  simp (maxSteps := 4000000) only [Try.results44, hd, XX, Nat.reduceBEq, Nat.reduceLT, Nat.reduceAdd, Nat.reduceMul, Nat.reduceSub, Nat.reduceLeDiff, Nat.reduceEqDiff, Int.reduceToNat, Int.reduceLT, Int.reduceLE, Int.reduceAdd, Int.reduceSub, Int.reduceEq, reduceIte, Nat.reduceBNe, Int.reducePow, Nat.reducePow, Int.reduceMul, Int.reduceNeg, isB_i, isB_b, isB_y, isBv_i, isBv_b, eqCells_t, TT]
  exact ⟨iO, o, es, r, rfl, O, hpi⟩
end Go.Proofs.Ytflccffjfnfoiaa.Sx
namespace Go.Proofs.Ytflccffjfnfoiaa.Sx.B5
open Go
set_option linter.unusedSimpArgs false
set_option linter.unusedVariables false
set_option maxRecDepth 10000
set_option maxHeartbeats 2000000

abbrev nilC : SC := .v (.slice none 0 0)
abbrev noS : SC := .v (.string ⟨#[]⟩)
abbrev bookB (rx ry a b : SC) : SB := ⟨true, 47, [a, b, rx, ry]⟩
abbrev listsB (l : List SC) : SB := ⟨true, 25, l⟩
abbrev wasB (l : List SC) : SB := ⟨true, 9, l⟩

/-- How a book stands: its lists, and how they read. -/
structure Book (rx ry : SC) (h : List SB) (ib : Nat) (ls : List SC) (ws : List (List UInt8)) (iL cL iW cW : Nat) : Prop where
  b : h[ib]? = some (bookB rx ry (.sl iL 0 ls.length cL) (.sl iW 0 ls.length cW))
  L : h[iL]? = some (listsB (ls ++ List.replicate (cL - ls.length) nilC))
  W : h[iW]? = some (wasB (ws.map strB ++ List.replicate (cW - ls.length) noS))
  n : ws.length = ls.length
  cl : ls.length ≤ cL
  cw : ls.length ≤ cW

/-- All windows but those are as they were. -/
def But (h h' : List SB) (p : Nat → Prop) : Prop := h.length ≤ h'.length ∧ ∀ k, k < h.length → ¬ p k → h'[k]? = h[k]?

theorem take0_spec (rx ry : SC) (h : List SB) (ib ia : Nat) (l sp : List UInt8) (oa : Bool) (c : Nat) (hl : l.length ≤ 140737488355328) (hb : h[ib]? = some (bookB rx ry nilC nilC)) (ha : h[ia]? = some (wB oa (l ++ sp))) :
    Spec cx.P 15 [.c (.ptr ib 0), .c (.sl ia 0 l.length c)] h fun s h' => s = .tup [] ∧ ∃ iL cL iW cW, Book rx ry h' ib [.sl ia 0 l.length c] [l] iL cL iW cW ∧ But h h' (· = ib) ∧ h.length ≤ iL ∧ h.length ≤ iW := by
  have lb := lt_of hb
  have la := lt_of ha
  have ne : ib ≠ ia := ne_of_ty hb ha (fun h => absurd h (by decide : (47 : Nat) ≠ 5))
  have tk : (bsC (l ++ sp)).take l.length = bsC l := by rw [bs_take, List.take_left' rfl]
  have em : (.string ByteArray.empty : Value) = .string ⟨#[]⟩ := rfl
  refine spec_of_X cx_ok Try.func15 rfl (by kernel_rfl) (by kernel_rfl) (Nat.le_of_ble_eq_true rfl) 400 2 ?_
  simp (maxSteps := 4000000) only [Try.results15, XX, Nat.reduceBEq, Nat.reduceLT, Nat.reduceAdd, Nat.reduceMul, Nat.reduceSub, Nat.reduceLeDiff, Nat.reduceEqDiff, Int.reduceToNat, Int.reduceLT, Int.reduceLE, Int.reduceAdd, Int.reduceSub, Int.reduceEq, reduceIte, Nat.reduceBNe, Int.reducePow, Nat.reducePow, Int.reduceMul, Int.reduceNeg, isB_i, isB_b, isB_y, isBv_i, isBv_b, eqCells_t, TT]
  simp (maxSteps := 4000000) only [Try.results15, hb, ha, lb, la, ne, tk, List.append_assoc, List.getElem?_append_left, List.getElem?_append_right, List.length_append, List.length_set, List.set_append_left, gset, List.getElem?_set_ne, Nat.add_sub_cancel_left, Nat.sub_self, Nat.le_refl, Nat.le_add_right, rep_flat, List.replicate_one, List.flatten_cons, List.flatten_nil, maskL_nil, unL_nil, XX, Nat.reduceBEq, Nat.reduceLT, Nat.reduceAdd, Nat.reduceMul, Nat.reduceSub, Nat.reduceLeDiff, Nat.reduceEqDiff, Int.reduceToNat, Int.reduceLT, Int.reduceLE, Int.reduceAdd, Int.reduceSub, Int.reduceEq, reduceIte, Nat.reduceBNe, Int.reducePow, Nat.reducePow, Int.reduceMul, Int.reduceNeg, isB_i, isB_b, isB_y, isBv_i, isBv_b, eqCells_t, TT]
  refine ⟨by unfold maxLen; omega, xapp_grow (by omega) fun cL hL _ => ?_⟩
  simp (maxSteps := 4000000) only [Try.results15, hb, ha, lb, la, ne, tk, List.append_assoc, List.getElem?_append_left, List.getElem?_append_right, List.length_append, List.length_set, List.set_append_left, gset, List.getElem?_set_ne, Nat.add_sub_cancel_left, Nat.sub_self, Nat.le_refl, Nat.le_add_right, rep_flat, List.replicate_one, List.flatten_cons, List.flatten_nil, maskL_nil, unL_nil, XX, Nat.reduceBEq, Nat.reduceLT, Nat.reduceAdd, Nat.reduceMul, Nat.reduceSub, Nat.reduceLeDiff, Nat.reduceEqDiff, Int.reduceToNat, Int.reduceLT, Int.reduceLE, Int.reduceAdd, Int.reduceSub, Int.reduceEq, reduceIte, Nat.reduceBNe, Int.reducePow, Nat.reducePow, Int.reduceMul, Int.reduceNeg, isB_i, isB_b, isB_y, isBv_i, isBv_b, eqCells_t, TT]
  refine draw2_of cx_ok (by kernel_rfl) 400 [] (.pair [(0, true), (1, true), (2, true), (3, true), (5, true)] 4 6 (.done [(6, false), (7, false), (8, false), (9, true), (10, true), (11, false)]) (.pair [] 4 7 (.done [(7, false), (8, false), (9, true), (10, true), (11, false)]) (.done [(4, false), (8, false), (9, true), (10, true), (11, false)]))) (by kernel_rfl) rfl ?_
  simp (maxSteps := 4000000) only [Try.results15, PXT_done, PXT_pair, hb, ha, lb, la, ne, tk, List.append_assoc, List.getElem?_append_left, List.getElem?_append_right, List.length_append, List.length_set, List.set_append_left, gset, List.getElem?_set_ne, Nat.add_sub_cancel_left, Nat.sub_self, Nat.le_refl, Nat.le_add_right, rep_flat, List.replicate_one, List.flatten_cons, List.flatten_nil, maskL_nil, unL_nil, strOf_bsC, XX, Nat.reduceBEq, Nat.reduceLT, Nat.reduceAdd, Nat.reduceMul, Nat.reduceSub, Nat.reduceLeDiff, Nat.reduceEqDiff, Int.reduceToNat, Int.reduceLT, Int.reduceLE, Int.reduceAdd, Int.reduceSub, Int.reduceEq, reduceIte, Nat.reduceBNe, Int.reducePow, Nat.reducePow, Int.reduceMul, Int.reduceNeg, isB_i, isB_b, isB_y, isBv_i, isBv_b, eqCells_t, TT]
  have q1 : l.length ≤ (bsC (l ++ sp)).length := by simp
  have q2 := isByte_bsC l
  have q3 : 1 ≤ maxLen := by unfold maxLen; omega
  refine ⟨⟨⟨q1, q2⟩, q3, ?_⟩, ⟨q1, q2⟩, ⟨q3, ?_⟩, q3, ?_⟩
  all_goals
    refine xapp_grow (by omega) fun cW hW _ => ?_
    simp (maxSteps := 4000000) only [Try.results15, hb, ha, lb, la, ne, tk, List.append_assoc, List.getElem?_append_left, List.getElem?_append_right, List.length_append, List.length_set, List.set_append_left, gset, List.getElem?_set_ne, Nat.add_sub_cancel_left, Nat.sub_self, Nat.le_refl, Nat.le_add_right, rep_flat, List.replicate_one, List.flatten_cons, List.flatten_nil, maskL_nil, unL_nil, em, XX, Nat.reduceBEq, Nat.reduceLT, Nat.reduceAdd, Nat.reduceMul, Nat.reduceSub, Nat.reduceLeDiff, Nat.reduceEqDiff, Int.reduceToNat, Int.reduceLT, Int.reduceLE, Int.reduceAdd, Int.reduceSub, Int.reduceEq, reduceIte, Nat.reduceBNe, Int.reducePow, Nat.reducePow, Int.reduceMul, Int.reduceNeg, isB_i, isB_b, isB_y, isBv_i, isBv_b, eqCells_t, TT]
    refine ⟨h.length + 1, cL, h.length + 3, cW, ⟨?_, ?_, ?_, rfl, hL, hW⟩, ⟨by simp, fun k hk hne => ?_⟩, by omega, by omega⟩
    · simp only [lb, gset, hb, List.getElem?_append_left, List.length_set, Option.map_some]; rfl
    · simp only [List.getElem?_append_right, List.length_set, Nat.le_add_right, Nat.add_sub_cancel_left]; rfl
    · simp only [List.getElem?_append_right, List.length_set, Nat.le_add_right, Nat.add_sub_cancel_left]; rfl
    · rw [List.getElem?_append_left (by simpa using hk), List.getElem?_set_ne (show ib ≠ k from fun h => hne h.symm), List.getElem?_set_ne (show ib ≠ k from fun h => hne h.symm)]

theorem drop_rep (xs : List SC) (x : SC) (c n : Nat) (hn : n = xs.length) : List.drop (n + 1) (xs ++ List.replicate (c - n) x) = List.replicate (c - (n + 1)) x := by
  subst hn
  rw [List.drop_append, List.drop_of_length_le (by omega), List.nil_append, List.drop_replicate]
  congr 1
  omega
theorem take_rep (xs ys : List SC) (n : Nat) (hn : n = xs.length) : List.take n (xs ++ ys) = xs := by
  subst hn; exact List.take_left' rfl

theorem take_spec (rx ry : SC) (h : List SB) (ib ia : Nat) (ls : List SC) (ws : List (List UInt8)) (iL cL0 iW cW0 : Nat) (l sp : List UInt8) (oa : Bool) (c : Nat) (hl : l.length ≤ 140737488355328) (B : Book rx ry h ib ls ws iL cL0 iW cW0) (hn : ls.length ≤ 4398046511104) (ha : h[ia]? = some (wB oa (l ++ sp))) :
    Spec cx.P 15 [.c (.ptr ib 0), .c (.sl ia 0 l.length c)] h fun s h' => s = .tup [] ∧ ∃ iL' cL iW' cW, Book rx ry h' ib (ls ++ [.sl ia 0 l.length c]) (ws ++ [l]) iL' cL iW' cW ∧ But h h' (fun k => k = ib ∨ k = iL ∨ k = iW) ∧ (iL' = iL ∨ h.length ≤ iL') ∧ (iW' = iW ∨ h.length ≤ iW') := by
  obtain ⟨hb, hL, hW, hwn, hcL, hcW⟩ := B
  have lb := lt_of hb
  have la := lt_of ha
  have lL := lt_of hL
  have lW := lt_of hW
  have ne : ib ≠ ia := ne_of_ty hb ha (fun h => absurd h (by decide : (47 : Nat) ≠ 5))
  have ne1 : ib ≠ iL := ne_of_ty hb hL (fun h => absurd h (by decide : (47 : Nat) ≠ 25))
  have ne2 : ib ≠ iW := ne_of_ty hb hW (fun h => absurd h (by decide : (47 : Nat) ≠ 9))
  have ne3 : iL ≠ iW := ne_of_ty hL hW (fun h => absurd h (by decide : (25 : Nat) ≠ 9))
  have ne4 : iL ≠ ia := ne_of_ty hL ha (fun h => absurd h (by decide : (25 : Nat) ≠ 5))
  have ne5 : iW ≠ ia := ne_of_ty hW ha (fun h => absurd h (by decide : (9 : Nat) ≠ 5))
  have tk : (bsC (l ++ sp)).take l.length = bsC l := by rw [bs_take, List.take_left' rfl]
  have em : (.string ByteArray.empty : Value) = .string ⟨#[]⟩ := rfl
  have tL : ∀ ys, List.take ls.length (ls ++ ys) = ls := fun ys => take_rep ls ys _ rfl
  have tW : ∀ ys, List.take ls.length (ws.map strB ++ ys) = ws.map strB := fun ys => take_rep _ ys _ (by simp [hwn])
  have dL : List.drop (ls.length + 1) (ls ++ List.replicate (cL0 - ls.length) nilC) = List.replicate (cL0 - (ls.length + 1)) nilC := drop_rep _ _ _ _ rfl
  have dW : List.drop (ls.length + 1) (ws.map strB ++ List.replicate (cW0 - ls.length) noS) = List.replicate (cW0 - (ls.length + 1)) noS := drop_rep _ _ _ _ (by simp [hwn])
  have q1 : l.length ≤ (bsC (l ++ sp)).length := by simp
  have q2 := isByte_bsC l
  have q3 : (ls.length + 1) * 16 ≤ 190000000000000 ∧ ls.length + 1 ≤ maxLen ∧ ls.length ≤ (ws.map strB).length + (List.replicate (cW0 - ls.length) noS).length ∧ (ls.length + 1 ≤ cW0 → ls.length + 1 ≤ (ws.map strB).length + (List.replicate (cW0 - ls.length) noS).length) := by
    refine ⟨by omega, by unfold maxLen; omega, by simp [hwn], fun h => by simp [hwn]; omega⟩
  have fin : ∀ a b c d : List (List UInt8), True := fun _ _ _ _ => trivial
  refine spec_of_X cx_ok Try.func15 rfl (by kernel_rfl) (by kernel_rfl) (Nat.le_of_ble_eq_true rfl) 400 2 ?_
  simp (maxSteps := 4000000) only [Try.results15, XX, Nat.reduceBEq, Nat.reduceLT, Nat.reduceAdd, Nat.reduceMul, Nat.reduceSub, Nat.reduceLeDiff, Nat.reduceEqDiff, Int.reduceToNat, Int.reduceLT, Int.reduceLE, Int.reduceAdd, Int.reduceSub, Int.reduceEq, reduceIte, Nat.reduceBNe, Int.reducePow, Nat.reducePow, Int.reduceMul, Int.reduceNeg, isB_i, isB_b, isB_y, isBv_i, isBv_b, eqCells_t, TT]
  simp (maxSteps := 4000000) only [Try.results15, hb, ha, hL, hW, lb, la, lL, lW, ne, ne1, ne2, ne3, ne4, ne5, ne.symm, ne1.symm, ne2.symm, ne3.symm, ne4.symm, ne5.symm, tk, tL, tW, dL, dW, List.append_assoc, List.getElem?_append_left, List.getElem?_append_right, List.length_append, List.length_set, List.set_append_left, gset, List.getElem?_set_ne, Nat.add_sub_cancel_left, Nat.sub_self, Nat.le_refl, Nat.le_add_right, rep_flat, List.replicate_one, List.flatten_cons, List.flatten_nil, maskL_nil, unL_nil, XX, Nat.reduceBEq, Nat.reduceLT, Nat.reduceAdd, Nat.reduceMul, Nat.reduceSub, Nat.reduceLeDiff, Nat.reduceEqDiff, Int.reduceToNat, Int.reduceLT, Int.reduceLE, Int.reduceAdd, Int.reduceSub, Int.reduceEq, reduceIte, Nat.reduceBNe, Int.reducePow, Nat.reducePow, Int.reduceMul, Int.reduceNeg, isB_i, isB_b, isB_y, isBv_i, isBv_b, eqCells_t, TT]
  refine ⟨⟨by omega, by unfold maxLen; omega, fun h => by simp; omega⟩, xapp_both (fun hr => ?_) (fun hg cL hcL' _ => ?_)⟩
  · simp (maxSteps := 4000000) only [Try.results15, hb, ha, hL, hW, lb, la, lL, lW, ne, ne1, ne2, ne3, ne4, ne5, ne.symm, ne1.symm, ne2.symm, ne3.symm, ne4.symm, ne5.symm, tk, tL, tW, dL, dW, List.append_assoc, List.getElem?_append_left, List.getElem?_append_right, List.length_append, List.length_set, List.set_append_left, gset, List.getElem?_set_ne, Nat.add_sub_cancel_left, Nat.sub_self, Nat.le_refl, Nat.le_add_right, rep_flat, List.replicate_one, List.flatten_cons, List.flatten_nil, maskL_nil, unL_nil, XX, Nat.reduceBEq, Nat.reduceLT, Nat.reduceAdd, Nat.reduceMul, Nat.reduceSub, Nat.reduceLeDiff, Nat.reduceEqDiff, Int.reduceToNat, Int.reduceLT, Int.reduceLE, Int.reduceAdd, Int.reduceSub, Int.reduceEq, reduceIte, Nat.reduceBNe, Int.reducePow, Nat.reducePow, Int.reduceMul, Int.reduceNeg, isB_i, isB_b, isB_y, isBv_i, isBv_b, eqCells_t, TT]
    refine draw2_of cx_ok (by kernel_rfl) 400 [] (.pair [(0, true), (1, true), (2, true), (3, true), (5, true)] 4 6 (.done [(6, false), (7, false), (8, false), (9, true), (10, true), (11, false)]) (.pair [] 4 7 (.done [(7, false), (8, false), (9, true), (10, true), (11, false)]) (.done [(4, false), (8, false), (9, true), (10, true), (11, false)]))) (by kernel_rfl) rfl ?_
    simp (maxSteps := 4000000) only [Try.results15, PXT_done, PXT_pair, hb, ha, hL, hW, lb, la, lL, lW, ne, ne1, ne2, ne3, ne4, ne5, ne.symm, ne1.symm, ne2.symm, ne3.symm, ne4.symm, ne5.symm, tk, tL, tW, dL, dW, List.append_assoc, List.getElem?_append_left, List.getElem?_append_right, List.length_append, List.length_set, List.set_append_left, gset, List.getElem?_set_ne, Nat.add_sub_cancel_left, Nat.sub_self, Nat.le_refl, Nat.le_add_right, rep_flat, List.replicate_one, List.flatten_cons, List.flatten_nil, maskL_nil, unL_nil, strOf_bsC, XX, Nat.reduceBEq, Nat.reduceLT, Nat.reduceAdd, Nat.reduceMul, Nat.reduceSub, Nat.reduceLeDiff, Nat.reduceEqDiff, Int.reduceToNat, Int.reduceLT, Int.reduceLE, Int.reduceAdd, Int.reduceSub, Int.reduceEq, reduceIte, Nat.reduceBNe, Int.reducePow, Nat.reducePow, Int.reduceMul, Int.reduceNeg, isB_i, isB_b, isB_y, isBv_i, isBv_b, eqCells_t, TT]
    refine ⟨⟨⟨q1, q2⟩, q3, ?_⟩, ⟨q1, q2⟩, ⟨q3, ?_⟩, q3, ?_⟩
    all_goals
      refine xapp_both (fun hr2 => ?_) (fun hg2 cW hcW' _ => ?_)
      · simp (maxSteps := 4000000) only [Try.results15, hb, ha, hL, hW, lb, la, lL, lW, ne, ne1, ne2, ne3, ne4, ne5, ne.symm, ne1.symm, ne2.symm, ne3.symm, ne4.symm, ne5.symm, tk, tL, tW, dL, dW, List.append_assoc, List.getElem?_append_left, List.getElem?_append_right, List.length_append, List.length_set, List.set_append_left, gset, List.getElem?_set_ne, Nat.add_sub_cancel_left, Nat.sub_self, Nat.le_refl, Nat.le_add_right, rep_flat, List.replicate_one, List.flatten_cons, List.flatten_nil, maskL_nil, unL_nil, em, XX, Nat.reduceBEq, Nat.reduceLT, Nat.reduceAdd, Nat.reduceMul, Nat.reduceSub, Nat.reduceLeDiff, Nat.reduceEqDiff, Int.reduceToNat, Int.reduceLT, Int.reduceLE, Int.reduceAdd, Int.reduceSub, Int.reduceEq, reduceIte, Nat.reduceBNe, Int.reducePow, Nat.reducePow, Int.reduceMul, Int.reduceNeg, isB_i, isB_b, isB_y, isBv_i, isBv_b, eqCells_t, TT]
        refine ⟨iL, cL0, iW, cW0, ⟨?_, ?_, ?_, by simp [hwn], by simp; omega, by simp; omega⟩, ⟨by simp, fun k hk hne => ?_⟩, .inl rfl, .inl rfl⟩
        · simp only [hb, ha, hL, hW, lb, la, lL, lW, ne, ne1, ne2, ne3, ne4, ne5, ne.symm, ne1.symm, ne2.symm, ne3.symm, ne4.symm, ne5.symm, tk, tL, tW, dL, dW, List.append_assoc, List.getElem?_append_left, List.getElem?_append_right, List.length_append, List.length_set, List.set_append_left, gset, List.getElem?_set_ne, Nat.add_sub_cancel_left, Nat.sub_self, Nat.le_refl, Nat.le_add_right, rep_flat, List.replicate_one, List.flatten_cons, List.flatten_nil, maskL_nil, unL_nil, Option.map_some, List.length_cons, List.length_nil, Nat.zero_add, ne_eq, not_false_eq_true]
        · simp only [hb, ha, hL, hW, lb, la, lL, lW, ne, ne1, ne2, ne3, ne4, ne5, ne.symm, ne1.symm, ne2.symm, ne3.symm, ne4.symm, ne5.symm, tk, tL, tW, dL, dW, List.append_assoc, List.getElem?_append_left, List.getElem?_append_right, List.length_append, List.length_set, List.set_append_left, gset, List.getElem?_set_ne, Nat.add_sub_cancel_left, Nat.sub_self, Nat.le_refl, Nat.le_add_right, rep_flat, List.replicate_one, List.flatten_cons, List.flatten_nil, maskL_nil, unL_nil, Option.map_some, List.length_cons, List.length_nil, Nat.zero_add, ne_eq, not_false_eq_true, List.map_append, List.map_cons, List.map_nil, List.getElem?_cons_zero, List.getElem?_cons_succ, List.cons_append, List.nil_append]
        · simp only [hb, ha, hL, hW, lb, la, lL, lW, ne, ne1, ne2, ne3, ne4, ne5, ne.symm, ne1.symm, ne2.symm, ne3.symm, ne4.symm, ne5.symm, tk, tL, tW, dL, dW, List.append_assoc, List.getElem?_append_left, List.getElem?_append_right, List.length_append, List.length_set, List.set_append_left, gset, List.getElem?_set_ne, Nat.add_sub_cancel_left, Nat.sub_self, Nat.le_refl, Nat.le_add_right, rep_flat, List.replicate_one, List.flatten_cons, List.flatten_nil, maskL_nil, unL_nil, Option.map_some, List.length_cons, List.length_nil, Nat.zero_add, ne_eq, not_false_eq_true, List.map_append, List.map_cons, List.map_nil, List.getElem?_cons_zero, List.getElem?_cons_succ, List.cons_append, List.nil_append]
        · rw [List.getElem?_append_left (by simpa using hk)]
          simp only [not_or] at hne
          simp only [ne_eq, Ne.symm hne.1, Ne.symm hne.2.1, Ne.symm hne.2.2, not_false_eq_true, List.getElem?_set_ne]
      · simp (maxSteps := 4000000) only [Try.results15, hb, ha, hL, hW, lb, la, lL, lW, ne, ne1, ne2, ne3, ne4, ne5, ne.symm, ne1.symm, ne2.symm, ne3.symm, ne4.symm, ne5.symm, tk, tL, tW, dL, dW, List.append_assoc, List.getElem?_append_left, List.getElem?_append_right, List.length_append, List.length_set, List.set_append_left, gset, List.getElem?_set_ne, Nat.add_sub_cancel_left, Nat.sub_self, Nat.le_refl, Nat.le_add_right, rep_flat, List.replicate_one, List.flatten_cons, List.flatten_nil, maskL_nil, unL_nil, em, XX, Nat.reduceBEq, Nat.reduceLT, Nat.reduceAdd, Nat.reduceMul, Nat.reduceSub, Nat.reduceLeDiff, Nat.reduceEqDiff, Int.reduceToNat, Int.reduceLT, Int.reduceLE, Int.reduceAdd, Int.reduceSub, Int.reduceEq, reduceIte, Nat.reduceBNe, Int.reducePow, Nat.reducePow, Int.reduceMul, Int.reduceNeg, isB_i, isB_b, isB_y, isBv_i, isBv_b, eqCells_t, TT]
        refine ⟨iL, cL0, (h.length + 2), cW, ⟨?_, ?_, ?_, by simp [hwn], by simp; omega, by simp; omega⟩, ⟨by simp, fun k hk hne => ?_⟩, .inl rfl, .inr (by omega)⟩
        · simp only [hb, ha, hL, hW, lb, la, lL, lW, ne, ne1, ne2, ne3, ne4, ne5, ne.symm, ne1.symm, ne2.symm, ne3.symm, ne4.symm, ne5.symm, tk, tL, tW, dL, dW, List.append_assoc, List.getElem?_append_left, List.getElem?_append_right, List.length_append, List.length_set, List.set_append_left, gset, List.getElem?_set_ne, Nat.add_sub_cancel_left, Nat.sub_self, Nat.le_refl, Nat.le_add_right, rep_flat, List.replicate_one, List.flatten_cons, List.flatten_nil, maskL_nil, unL_nil, Option.map_some, List.length_cons, List.length_nil, Nat.zero_add, ne_eq, not_false_eq_true]
        · simp only [hb, ha, hL, hW, lb, la, lL, lW, ne, ne1, ne2, ne3, ne4, ne5, ne.symm, ne1.symm, ne2.symm, ne3.symm, ne4.symm, ne5.symm, tk, tL, tW, dL, dW, List.append_assoc, List.getElem?_append_left, List.getElem?_append_right, List.length_append, List.length_set, List.set_append_left, gset, List.getElem?_set_ne, Nat.add_sub_cancel_left, Nat.sub_self, Nat.le_refl, Nat.le_add_right, rep_flat, List.replicate_one, List.flatten_cons, List.flatten_nil, maskL_nil, unL_nil, Option.map_some, List.length_cons, List.length_nil, Nat.zero_add, ne_eq, not_false_eq_true, List.map_append, List.map_cons, List.map_nil, List.getElem?_cons_zero, List.getElem?_cons_succ, List.cons_append, List.nil_append]
        · simp only [hb, ha, hL, hW, lb, la, lL, lW, ne, ne1, ne2, ne3, ne4, ne5, ne.symm, ne1.symm, ne2.symm, ne3.symm, ne4.symm, ne5.symm, tk, tL, tW, dL, dW, List.append_assoc, List.getElem?_append_left, List.getElem?_append_right, List.length_append, List.length_set, List.set_append_left, gset, List.getElem?_set_ne, Nat.add_sub_cancel_left, Nat.sub_self, Nat.le_refl, Nat.le_add_right, rep_flat, List.replicate_one, List.flatten_cons, List.flatten_nil, maskL_nil, unL_nil, Option.map_some, List.length_cons, List.length_nil, Nat.zero_add, ne_eq, not_false_eq_true, List.map_append, List.map_cons, List.map_nil, List.getElem?_cons_zero, List.getElem?_cons_succ, List.cons_append, List.nil_append]
        · rw [List.getElem?_append_left (by simpa using hk)]
          simp only [not_or] at hne
          simp only [ne_eq, Ne.symm hne.1, Ne.symm hne.2.1, Ne.symm hne.2.2, not_false_eq_true, List.getElem?_set_ne]
  · simp (maxSteps := 4000000) only [Try.results15, hb, ha, hL, hW, lb, la, lL, lW, ne, ne1, ne2, ne3, ne4, ne5, ne.symm, ne1.symm, ne2.symm, ne3.symm, ne4.symm, ne5.symm, tk, tL, tW, dL, dW, List.append_assoc, List.getElem?_append_left, List.getElem?_append_right, List.length_append, List.length_set, List.set_append_left, gset, List.getElem?_set_ne, Nat.add_sub_cancel_left, Nat.sub_self, Nat.le_refl, Nat.le_add_right, rep_flat, List.replicate_one, List.flatten_cons, List.flatten_nil, maskL_nil, unL_nil, XX, Nat.reduceBEq, Nat.reduceLT, Nat.reduceAdd, Nat.reduceMul, Nat.reduceSub, Nat.reduceLeDiff, Nat.reduceEqDiff, Int.reduceToNat, Int.reduceLT, Int.reduceLE, Int.reduceAdd, Int.reduceSub, Int.reduceEq, reduceIte, Nat.reduceBNe, Int.reducePow, Nat.reducePow, Int.reduceMul, Int.reduceNeg, isB_i, isB_b, isB_y, isBv_i, isBv_b, eqCells_t, TT]
    refine draw2_of cx_ok (by kernel_rfl) 400 [] (.pair [(0, true), (1, true), (2, true), (3, true), (5, true)] 4 6 (.done [(6, false), (7, false), (8, false), (9, true), (10, true), (11, false)]) (.pair [] 4 7 (.done [(7, false), (8, false), (9, true), (10, true), (11, false)]) (.done [(4, false), (8, false), (9, true), (10, true), (11, false)]))) (by kernel_rfl) rfl ?_
    simp (maxSteps := 4000000) only [Try.results15, PXT_done, PXT_pair, hb, ha, hL, hW, lb, la, lL, lW, ne, ne1, ne2, ne3, ne4, ne5, ne.symm, ne1.symm, ne2.symm, ne3.symm, ne4.symm, ne5.symm, tk, tL, tW, dL, dW, List.append_assoc, List.getElem?_append_left, List.getElem?_append_right, List.length_append, List.length_set, List.set_append_left, gset, List.getElem?_set_ne, Nat.add_sub_cancel_left, Nat.sub_self, Nat.le_refl, Nat.le_add_right, rep_flat, List.replicate_one, List.flatten_cons, List.flatten_nil, maskL_nil, unL_nil, strOf_bsC, XX, Nat.reduceBEq, Nat.reduceLT, Nat.reduceAdd, Nat.reduceMul, Nat.reduceSub, Nat.reduceLeDiff, Nat.reduceEqDiff, Int.reduceToNat, Int.reduceLT, Int.reduceLE, Int.reduceAdd, Int.reduceSub, Int.reduceEq, reduceIte, Nat.reduceBNe, Int.reducePow, Nat.reducePow, Int.reduceMul, Int.reduceNeg, isB_i, isB_b, isB_y, isBv_i, isBv_b, eqCells_t, TT]
    refine ⟨⟨⟨q1, q2⟩, q3, ?_⟩, ⟨q1, q2⟩, ⟨q3, ?_⟩, q3, ?_⟩
    all_goals
      refine xapp_both (fun hr2 => ?_) (fun hg2 cW hcW' _ => ?_)
      · simp (maxSteps := 4000000) only [Try.results15, hb, ha, hL, hW, lb, la, lL, lW, ne, ne1, ne2, ne3, ne4, ne5, ne.symm, ne1.symm, ne2.symm, ne3.symm, ne4.symm, ne5.symm, tk, tL, tW, dL, dW, List.append_assoc, List.getElem?_append_left, List.getElem?_append_right, List.length_append, List.length_set, List.set_append_left, gset, List.getElem?_set_ne, Nat.add_sub_cancel_left, Nat.sub_self, Nat.le_refl, Nat.le_add_right, rep_flat, List.replicate_one, List.flatten_cons, List.flatten_nil, maskL_nil, unL_nil, em, XX, Nat.reduceBEq, Nat.reduceLT, Nat.reduceAdd, Nat.reduceMul, Nat.reduceSub, Nat.reduceLeDiff, Nat.reduceEqDiff, Int.reduceToNat, Int.reduceLT, Int.reduceLE, Int.reduceAdd, Int.reduceSub, Int.reduceEq, reduceIte, Nat.reduceBNe, Int.reducePow, Nat.reducePow, Int.reduceMul, Int.reduceNeg, isB_i, isB_b, isB_y, isBv_i, isBv_b, eqCells_t, TT]
        refine ⟨(h.length + 1), cL, iW, cW0, ⟨?_, ?_, ?_, by simp [hwn], by simp; omega, by simp; omega⟩, ⟨by simp, fun k hk hne => ?_⟩, .inr (by omega), .inl rfl⟩
        · simp only [hb, ha, hL, hW, lb, la, lL, lW, ne, ne1, ne2, ne3, ne4, ne5, ne.symm, ne1.symm, ne2.symm, ne3.symm, ne4.symm, ne5.symm, tk, tL, tW, dL, dW, List.append_assoc, List.getElem?_append_left, List.getElem?_append_right, List.length_append, List.length_set, List.set_append_left, gset, List.getElem?_set_ne, Nat.add_sub_cancel_left, Nat.sub_self, Nat.le_refl, Nat.le_add_right, rep_flat, List.replicate_one, List.flatten_cons, List.flatten_nil, maskL_nil, unL_nil, Option.map_some, List.length_cons, List.length_nil, Nat.zero_add, ne_eq, not_false_eq_true]
        · simp only [hb, ha, hL, hW, lb, la, lL, lW, ne, ne1, ne2, ne3, ne4, ne5, ne.symm, ne1.symm, ne2.symm, ne3.symm, ne4.symm, ne5.symm, tk, tL, tW, dL, dW, List.append_assoc, List.getElem?_append_left, List.getElem?_append_right, List.length_append, List.length_set, List.set_append_left, gset, List.getElem?_set_ne, Nat.add_sub_cancel_left, Nat.sub_self, Nat.le_refl, Nat.le_add_right, rep_flat, List.replicate_one, List.flatten_cons, List.flatten_nil, maskL_nil, unL_nil, Option.map_some, List.length_cons, List.length_nil, Nat.zero_add, ne_eq, not_false_eq_true, List.map_append, List.map_cons, List.map_nil, List.getElem?_cons_zero, List.getElem?_cons_succ, List.cons_append, List.nil_append]
        · simp only [hb, ha, hL, hW, lb, la, lL, lW, ne, ne1, ne2, ne3, ne4, ne5, ne.symm, ne1.symm, ne2.symm, ne3.symm, ne4.symm, ne5.symm, tk, tL, tW, dL, dW, List.append_assoc, List.getElem?_append_left, List.getElem?_append_right, List.length_append, List.length_set, List.set_append_left, gset, List.getElem?_set_ne, Nat.add_sub_cancel_left, Nat.sub_self, Nat.le_refl, Nat.le_add_right, rep_flat, List.replicate_one, List.flatten_cons, List.flatten_nil, maskL_nil, unL_nil, Option.map_some, List.length_cons, List.length_nil, Nat.zero_add, ne_eq, not_false_eq_true, List.map_append, List.map_cons, List.map_nil, List.getElem?_cons_zero, List.getElem?_cons_succ, List.cons_append, List.nil_append]
        · rw [List.getElem?_append_left (by simpa using hk)]
          simp only [not_or] at hne
          simp only [ne_eq, Ne.symm hne.1, Ne.symm hne.2.1, Ne.symm hne.2.2, not_false_eq_true, List.getElem?_set_ne]
      · simp (maxSteps := 4000000) only [Try.results15, hb, ha, hL, hW, lb, la, lL, lW, ne, ne1, ne2, ne3, ne4, ne5, ne.symm, ne1.symm, ne2.symm, ne3.symm, ne4.symm, ne5.symm, tk, tL, tW, dL, dW, List.append_assoc, List.getElem?_append_left, List.getElem?_append_right, List.length_append, List.length_set, List.set_append_left, gset, List.getElem?_set_ne, Nat.add_sub_cancel_left, Nat.sub_self, Nat.le_refl, Nat.le_add_right, rep_flat, List.replicate_one, List.flatten_cons, List.flatten_nil, maskL_nil, unL_nil, em, XX, Nat.reduceBEq, Nat.reduceLT, Nat.reduceAdd, Nat.reduceMul, Nat.reduceSub, Nat.reduceLeDiff, Nat.reduceEqDiff, Int.reduceToNat, Int.reduceLT, Int.reduceLE, Int.reduceAdd, Int.reduceSub, Int.reduceEq, reduceIte, Nat.reduceBNe, Int.reducePow, Nat.reducePow, Int.reduceMul, Int.reduceNeg, isB_i, isB_b, isB_y, isBv_i, isBv_b, eqCells_t, TT]
        refine ⟨(h.length + 1), cL, (h.length + 3), cW, ⟨?_, ?_, ?_, by simp [hwn], by simp; omega, by simp; omega⟩, ⟨by simp, fun k hk hne => ?_⟩, .inr (by omega), .inr (by omega)⟩
        · simp only [hb, ha, hL, hW, lb, la, lL, lW, ne, ne1, ne2, ne3, ne4, ne5, ne.symm, ne1.symm, ne2.symm, ne3.symm, ne4.symm, ne5.symm, tk, tL, tW, dL, dW, List.append_assoc, List.getElem?_append_left, List.getElem?_append_right, List.length_append, List.length_set, List.set_append_left, gset, List.getElem?_set_ne, Nat.add_sub_cancel_left, Nat.sub_self, Nat.le_refl, Nat.le_add_right, rep_flat, List.replicate_one, List.flatten_cons, List.flatten_nil, maskL_nil, unL_nil, Option.map_some, List.length_cons, List.length_nil, Nat.zero_add, ne_eq, not_false_eq_true]
        · simp only [hb, ha, hL, hW, lb, la, lL, lW, ne, ne1, ne2, ne3, ne4, ne5, ne.symm, ne1.symm, ne2.symm, ne3.symm, ne4.symm, ne5.symm, tk, tL, tW, dL, dW, List.append_assoc, List.getElem?_append_left, List.getElem?_append_right, List.length_append, List.length_set, List.set_append_left, gset, List.getElem?_set_ne, Nat.add_sub_cancel_left, Nat.sub_self, Nat.le_refl, Nat.le_add_right, rep_flat, List.replicate_one, List.flatten_cons, List.flatten_nil, maskL_nil, unL_nil, Option.map_some, List.length_cons, List.length_nil, Nat.zero_add, ne_eq, not_false_eq_true, List.map_append, List.map_cons, List.map_nil, List.getElem?_cons_zero, List.getElem?_cons_succ, List.cons_append, List.nil_append]
        · simp only [hb, ha, hL, hW, lb, la, lL, lW, ne, ne1, ne2, ne3, ne4, ne5, ne.symm, ne1.symm, ne2.symm, ne3.symm, ne4.symm, ne5.symm, tk, tL, tW, dL, dW, List.append_assoc, List.getElem?_append_left, List.getElem?_append_right, List.length_append, List.length_set, List.set_append_left, gset, List.getElem?_set_ne, Nat.add_sub_cancel_left, Nat.sub_self, Nat.le_refl, Nat.le_add_right, rep_flat, List.replicate_one, List.flatten_cons, List.flatten_nil, maskL_nil, unL_nil, Option.map_some, List.length_cons, List.length_nil, Nat.zero_add, ne_eq, not_false_eq_true, List.map_append, List.map_cons, List.map_nil, List.getElem?_cons_zero, List.getElem?_cons_succ, List.cons_append, List.nil_append]
        · rw [List.getElem?_append_left (by simpa using hk)]
          simp only [not_or] at hne
          simp only [ne_eq, Ne.symm hne.1, Ne.symm hne.2.1, Ne.symm hne.2.2, not_false_eq_true, List.getElem?_set_ne]

end Go.Proofs.Ytflccffjfnfoiaa.Sx.B5
namespace Go.Proofs.Ytflccffjfnfoiaa.Sx.B5
open Go
set_option linter.unusedSimpArgs false
set_option linter.unusedVariables false
set_option maxRecDepth 10000
set_option maxHeartbeats 2000000

/-- The mark of a place. -/
def mkB (i n : Nat) : UInt8 := UInt8.ofNat (i * 7 + n * 13 + i / 256 + 1)
theorem mark_spec (i n : Nat) (hi : i < 4398046511104) (hn : n < 281474976710656) : Spec cx.P 40 [.c (i64 i), .c (i64 n)] [] fun s _ => s.plain = true ∧ s = .c (byteC (mkB i n)) := by
  refine spec_of_X cx_ok Try.func40 rfl (by kernel_rfl) (by kernel_rfl) (Nat.le_of_ble_eq_true rfl) 400 5 ?_
  simp (maxSteps := 4000000) only [Try.results40, XX, Nat.reduceBEq, Nat.reduceLT, Nat.reduceAdd, Nat.reduceMul, Nat.reduceSub, Nat.reduceLeDiff, Nat.reduceEqDiff, Int.reduceToNat, Int.reduceLT, Int.reduceLE, Int.reduceAdd, Int.reduceSub, Int.reduceEq, reduceIte, Nat.reduceBNe, Int.reducePow, Nat.reducePow, Int.reduceMul, Int.reduceNeg, isB_i, isB_b, isB_y, isBv_i, isBv_b, eqCells_t, TT]
  simp (disch := omega) only [tdiv256, w64]
  exact congrArg _ (byteC_nat _ (by omega))

/-- The marks of a list. -/
def mk (j m : Nat) : List UInt8 := (List.range m).map fun p => mkB j p
theorem mk_len (j m : Nat) : (mk j m).length = m := by simp [mk]
theorem mk_zero (j : Nat) : mk j 0 = [] := rfl
theorem mk_succ (j m : Nat) : mk j (m + 1) = mk j m ++ [mkB j m] := by simp [mk, List.range_succ]
/-- Further marks. -/
def mkTail (j n m : Nat) : List UInt8 := (List.range m).map fun p => mkB j (n + p)
theorem mk_split (j n m : Nat) : mk j (n + m) = mk j n ++ mkTail j n m := by
  induction m with
  | zero => simp [mkTail]
  | succ m ih => rw [← Nat.add_assoc, mk_succ, ih, List.append_assoc]; simp [mkTail, List.range_succ]
theorem mk_at {j m i : Nat} (h : i < m) : (mk j m)[i]? = some (mkB j i) := by simp [mk, h]
/-- One more is marked. -/
theorem mk_step (j i : Nat) (l : List UInt8) (hi : i < l.length) : (mk j i ++ l.drop i).take i ++ [mkB j i] ++ (mk j i ++ l.drop i).drop (i + 1) = mk j (i + 1) ++ l.drop (i + 1) := by
  rw [List.take_left' (mk_len j i), ← mk_succ]
  congr 1
  rw [List.drop_append, List.drop_of_length_le (by rw [mk_len]; omega), mk_len, List.nil_append, List.drop_drop]
  congr 1
  omega

/-- A list that came out, where it lies. -/
structure OE where
  w : Nat
  l : List UInt8
  p : List UInt8
  o : Bool
def OE.sc (e : OE) : SC := .sl e.w 0 e.l.length (e.l.length + e.p.length)

/-- The lists of a book, where they lie. -/
structure Owns (h : List SB) (es : List OE) : Prop where
  at_ : ∀ (i : Nat) (e : OE), es[i]? = some e → h[e.w]? = some (wB e.o (e.l ++ e.p))
  own : ∀ (i : Nat) (e : OE), es[i]? = some e → 0 < e.l.length + e.p.length → e.o = true
  lt : ∀ (i : Nat) (e : OE), es[i]? = some e → e.l.length < 140737488351233
  ne : ∀ (i j : Nat) (e f : OE), i ≠ j → es[i]? = some e → es[j]? = some f → e.w ≠ f.w

theorem getD_map {α : Type} {f : α → SC} {es : List α} {i : Nat} {e : α} {r : List SC} {d : SC} (h : es[i]? = some e) : (es.map f ++ r).getD i d = f e := by
  have hi : i < es.length := (List.getElem?_eq_some_iff.1 h).1
  rw [List.getD_eq_getElem?_getD, List.getElem?_append_left (by simpa using hi), List.getElem?_map, h]
  rfl

theorem set_same {h : List SB} {k : Nat} {x : SB} (hk : h[k]? = some x) : h.set k x = h := by
  apply List.ext_getElem?
  intro j
  by_cases hj : k = j
  · subst hj; rw [gset, hk]; rfl
  · rw [List.getElem?_set_ne hj]

/-- How the lists stand while they are written over and grown: 'i' of them are. -/
structure Gr (h0 : List SB) (es : List OE) (i : Nat) (H : List SB) (sG : SC) (iG r : Nat) (gs : List (Nat × Nat × Nat)) : Prop where
  len : h0.length ≤ H.length
  keep : ∀ (k : Nat), k < h0.length → (∀ (j : Nat) (e : OE), j < i → es[j]? = some e → k ≠ e.w) → H[k]? = h0[k]?
  gl : gs.length = i
  sG : (i = 0 ∧ sG = nilC) ∨ (0 < i ∧ sG = .sl iG 0 i (i + r) ∧ H[iG]? = some (listsB (gs.map (fun g => SC.sl g.1 0 (g.2.2 + 9) g.2.1) ++ List.replicate r nilC)) ∧ h0.length ≤ iG)
  at_ : ∀ (j : Nat) (e : OE) (g : Nat × Nat × Nat), es[j]? = some e → gs[j]? = some g → (∃ o q, H[g.1]? = some (wB o (mk j (e.l.length + 9) ++ q))) ∧ (∃ q, H[e.w]? = some (wB e.o (mk j e.l.length ++ q))) ∧ (g.1 = e.w ∨ h0.length ≤ g.1) ∧ g.2.2 = e.l.length ∧ (0 < i → g.1 ≠ iG)

/-- How a list stands while it is grown: 'm' places of nine are there. -/
structure Ap (H1 : List SB) (i : Nat) (e : OE) (m : Nat) (H : List SB) (w c : Nat) (o : Bool) (q : List UInt8) : Prop where
  len : H1.length ≤ H.length
  at_ : H[w]? = some (wB o (mk i (e.l.length + m) ++ q))
  own : 0 < c → o = true
  cap : c = e.l.length + m + q.length
  old : ∃ q, H[e.w]? = some (wB e.o (mk i e.l.length ++ q))
  wh : w = e.w ∨ H1.length ≤ w
  keep : ∀ (k : Nat), k < H1.length → k ≠ e.w → H[k]? = H1[k]?

theorem owned_spec (rx ry : SC) (h : List SB) (ib : Nat) (es : List OE) (iL cL iW cW : Nat) (B : Book rx ry h ib (es.map OE.sc) (es.map OE.l) iL cL iW cW) (O : Owns h es) (hn : es.length < 4398046511104) :
    Spec cx.P 16 [.c (.ptr ib 0)] h fun s H => s = .c (bC true) ∧ h.length ≤ H.length ∧ ∀ k, k < h.length → (∀ (j : Nat) (e : OE), es[j]? = some e → k ≠ e.w) → H[k]? = h[k]? := by
  obtain ⟨hb, hL, hW, _, hcL, hcW⟩ := B
  rw [List.length_map] at hb hL hW hcL hcW
  have lb := lt_of hb
  have lL := lt_of hL
  have lW := lt_of hW
  have ne1 : ib ≠ iL := ne_of_ty hb hL (fun h => absurd h (by decide : (47 : Nat) ≠ 25))
  have ne2 : ib ≠ iW := ne_of_ty hb hW (fun h => absurd h (by decide : (47 : Nat) ≠ 9))
  have ne3 : iL ≠ iW := ne_of_ty hL hW (fun h => absurd h (by decide : (25 : Nat) ≠ 9))
  refine spec_of_X cx_ok Try.func16 rfl (by kernel_rfl) (by kernel_rfl) (Nat.le_of_ble_eq_true rfl) 400 15 ?_
  simp (maxSteps := 4000000) only [Try.results16, XX, Nat.reduceBEq, Nat.reduceLT, Nat.reduceAdd, Nat.reduceMul, Nat.reduceSub, Nat.reduceLeDiff, Nat.reduceEqDiff, Int.reduceToNat, Int.reduceLT, Int.reduceLE, Int.reduceAdd, Int.reduceSub, Int.reduceEq, reduceIte, Nat.reduceBNe, Int.reducePow, Nat.reducePow, Int.reduceMul, Int.reduceNeg, isB_i, isB_b, isB_y, isBv_i, isBv_b, eqCells_t, TT]
  refine loop_at cx_ok 400 (fun μ σ => ∃ i : Nat, μ = es.length - i ∧ i ≤ es.length ∧ σ = ⟨⟨15, h.length⟩, [(0, .c (.ptr ib 0)), (2, .c (bC false)), (3, .c (i64 i))], h⟩) es.length
    ⟨⟨15, h.length⟩, [(0, .c (.ptr ib 0)), (2, .c (bC false)), (3, .c (i64 (0 : Nat)))], h⟩ ⟨0, rfl, Nat.zero_le _, rfl⟩ ⟨rfl, rfl, rfl, rfl, rfl, trivial⟩ ?_
  rintro μ σ ⟨i, rfl, hi, rfl⟩
  by_cases hlt : i < es.length
  · have hd : decide ((i : Int) < (es.length : Int)) = true := by simp only [decide_eq_true_eq]; omega
    simp (maxSteps := 4000000) only [Try.results16, hb, hd, XX, Nat.reduceBEq, Nat.reduceLT, Nat.reduceAdd, Nat.reduceMul, Nat.reduceSub, Nat.reduceLeDiff, Nat.reduceEqDiff, Int.reduceToNat, Int.reduceLT, Int.reduceLE, Int.reduceAdd, Int.reduceSub, Int.reduceEq, reduceIte, Nat.reduceBNe, Int.reducePow, Nat.reducePow, Int.reduceMul, Int.reduceNeg, isB_i, isB_b, isB_y, isBv_i, isBv_b, eqCells_t, TT]
    obtain ⟨e, he⟩ : ∃ e, es[i]? = some e := ⟨_, List.getElem?_eq_getElem hlt⟩
    have g1 : (es.map OE.sc ++ List.replicate (cL - es.length) nilC).getD i .any = .sl e.w 0 e.l.length (e.l.length + e.p.length) := getD_map he
    have g2 : ((es.map OE.l).map strB ++ List.replicate (cW - es.length) noS).getD i .any = strB e.l := by rw [List.map_map]; exact getD_map he
    have tk : (bsC (e.l ++ e.p)).take e.l.length = bsC e.l := by rw [bs_take, List.take_left' rfl]
    have e3 : IntKind.i64.wrap ((i : Int) + 1) = ((i + 1 : Nat) : Int) := by rw [w64] <;> omega
    by_cases hv : (wB e.o (e.l ++ e.p)).void = true
    · obtain ⟨w, l, p, o⟩ := e
      simp only [SB.void, Bool.and_eq_true, Bool.not_eq_true', List.isEmpty_iff, List.map_eq_nil_iff, List.append_eq_nil_iff] at hv
      obtain ⟨rfl, rfl, rfl⟩ := hv
      have tk : strOf [] = ⟨([] : List UInt8).toArray⟩ := rfl
      obtain ⟨o1, m1⟩ : ∃ o, (maskL [ib, iL, iW] 0 h)[ib]? = some ⟨o, 47, [.sl iL 0 es.length cL, .sl iW 0 es.length cW, rx, ry]⟩ := maskL_at hb
      obtain ⟨o2, m2⟩ : ∃ o, (maskL [ib, iL, iW] 0 h)[iL]? = some ⟨o, 25, es.map OE.sc ++ List.replicate (cL - es.length) nilC⟩ := maskL_at hL
      obtain ⟨o3, m3⟩ : ∃ o, (maskL [ib, iL, iW] 0 h)[iW]? = some ⟨o, 9, (es.map OE.l).map strB ++ List.replicate (cW - es.length) noS⟩ := maskL_at hW
      have m4 := O.at_ i _ he
      obtain ⟨o4, m5⟩ : ∃ o, (maskL [ib, iL, iW] 0 h)[w]? = some ⟨o, 5, []⟩ := maskL_at m4
      have hok := kept_cons hb rfl (kept_cons hL rfl (kept_cons hW rfl kept_nil))
      refine draw_of cx_ok (by kernel_rfl) 400 [ib, iL, iW] [(0, true), (1, true), (2, true), (3, true), (4, true), (5, true), (6, true), (7, true), (8, true), (9, true), (10, true), (11, true), (12, true), (13, true), (14, true), (15, true)] (by kernel_rfl) (by first | exact hok | simp [*]) ?_
      simp (maxSteps := 4000000) only [Try.results16, m1, m2, m3, m5, g1, g2, tk, str_eq, List.not_mem_nil, unL_maskL, e3, XX, Nat.reduceBEq, Nat.reduceLT, Nat.reduceAdd, Nat.reduceMul, Nat.reduceSub, Nat.reduceLeDiff, Nat.reduceEqDiff, Int.reduceToNat, Int.reduceLT, Int.reduceLE, Int.reduceAdd, Int.reduceSub, Int.reduceEq, reduceIte, Nat.reduceBNe, Int.reducePow, Nat.reducePow, Int.reduceMul, Int.reduceNeg, isB_i, isB_b, isB_y, isBv_i, isBv_b, eqCells_t, TT]
      exact ⟨by omega, by simp; omega, by omega, by simp; omega, es.length - (i + 1), by omega, _, ⟨i + 1, rfl, by omega, rfl⟩, rfl, rfl, rfl, rfl, rfl, trivial⟩
    · have hv : (wB e.o (e.l ++ e.p)).void = false := by simpa using hv
      have m4 := O.at_ i _ he
      obtain ⟨o1, m1⟩ : ∃ o, (maskL [ib, iL, iW, e.w] 0 h)[ib]? = some ⟨o, 47, [.sl iL 0 es.length cL, .sl iW 0 es.length cW, rx, ry]⟩ := maskL_at hb
      obtain ⟨o2, m2⟩ : ∃ o, (maskL [ib, iL, iW, e.w] 0 h)[iL]? = some ⟨o, 25, es.map OE.sc ++ List.replicate (cL - es.length) nilC⟩ := maskL_at hL
      obtain ⟨o3, m3⟩ : ∃ o, (maskL [ib, iL, iW, e.w] 0 h)[iW]? = some ⟨o, 9, (es.map OE.l).map strB ++ List.replicate (cW - es.length) noS⟩ := maskL_at hW
      obtain ⟨o4, m5⟩ : ∃ o, (maskL [ib, iL, iW, e.w] 0 h)[e.w]? = some ⟨o, 5, bsC (e.l ++ e.p)⟩ := maskL_at m4
      have hok := kept_cons hb rfl (kept_cons hL rfl (kept_cons hW rfl (kept_cons m4 hv kept_nil)))
      refine draw_of cx_ok (by kernel_rfl) 400 [ib, iL, iW, e.w] [(0, true), (1, true), (2, true), (3, true), (4, true), (5, true), (6, true), (7, true), (8, true), (9, true), (10, true), (11, true), (12, true), (13, true), (14, true), (15, true)] (by kernel_rfl) (by first | exact hok | simp [*]) ?_
      simp (maxSteps := 4000000) only [Try.results16, m1, m2, m3, m5, g1, g2, tk, strOf_bsC, str_eq, unL_maskL, e3, XX, Nat.reduceBEq, Nat.reduceLT, Nat.reduceAdd, Nat.reduceMul, Nat.reduceSub, Nat.reduceLeDiff, Nat.reduceEqDiff, Int.reduceToNat, Int.reduceLT, Int.reduceLE, Int.reduceAdd, Int.reduceSub, Int.reduceEq, reduceIte, Nat.reduceBNe, Int.reducePow, Nat.reducePow, Int.reduceMul, Int.reduceNeg, isB_i, isB_b, isB_y, isBv_i, isBv_b, eqCells_t, TT]
      exact ⟨by omega, by simp; omega, ⟨by simp, isByte_bsC e.l⟩, by omega, by simp; omega, es.length - (i + 1), by omega, _, ⟨i + 1, rfl, by omega, rfl⟩, rfl, rfl, rfl, rfl, rfl, trivial⟩
  have hi' : i = es.length := by omega
  subst hi'
  have hd : decide ((es.length : Int) < (es.length : Int)) = false := by simp
  simp (maxSteps := 4000000) only [Try.results16, hb, hd, XX, Nat.reduceBEq, Nat.reduceLT, Nat.reduceAdd, Nat.reduceMul, Nat.reduceSub, Nat.reduceLeDiff, Nat.reduceEqDiff, Int.reduceToNat, Int.reduceLT, Int.reduceLE, Int.reduceAdd, Int.reduceSub, Int.reduceEq, reduceIte, Nat.reduceBNe, Int.reducePow, Nat.reducePow, Int.reduceMul, Int.reduceNeg, isB_i, isB_b, isB_y, isBv_i, isBv_b, eqCells_t, TT]
  refine loop_at cx_ok 400 (fun μ σ => ∃ (i : Nat) (H : List SB) (sG : SC) (iG r : Nat) (gs : List (Nat × Nat × Nat)), μ = es.length - i ∧ i ≤ es.length ∧ Gr h es i H sG iG r gs ∧
      σ = ⟨⟨15, h.length⟩, [(0, .c (.ptr ib 0)), (2, .c (bC false)), (4, .c sG), (5, .c (i64 i))], H⟩) es.length
    ⟨⟨15, h.length⟩, [(0, .c (.ptr ib 0)), (2, .c (bC false)), (4, .c nilC), (5, .c (i64 (0 : Nat)))], h⟩
    ⟨0, h, nilC, 0, 0, [], rfl, Nat.zero_le _, ⟨Nat.le_refl _, fun _ _ _ => rfl, rfl, .inl ⟨rfl, rfl⟩, fun j e g _ hg => by simp at hg⟩, rfl⟩ ⟨rfl, rfl, rfl, rfl, rfl, rfl, trivial⟩ ?_
  rintro μ σ ⟨i, H, sG, iG, r, gs, rfl, hi, G, rfl⟩
  have kb : H[ib]? = some (bookB rx ry (.sl iL 0 es.length cL) (.sl iW 0 es.length cW)) := (G.keep ib lb fun j e _ he => ne_of_ty hb (O.at_ j e he) (fun h => absurd h (by decide : (47 : Nat) ≠ 5))).trans hb
  have kL : H[iL]? = some (listsB (es.map OE.sc ++ List.replicate (cL - es.length) nilC)) := (G.keep iL lL fun j e _ he => ne_of_ty hL (O.at_ j e he) (fun h => absurd h (by decide : (25 : Nat) ≠ 5))).trans hL
  by_cases hlt : i < es.length
  · have hd : decide ((i : Int) < (es.length : Int)) = true := by simp only [decide_eq_true_eq]; omega
    obtain ⟨e, he⟩ : ∃ e, es[i]? = some e := ⟨_, List.getElem?_eq_getElem hlt⟩
    have g1 : (es.map OE.sc ++ List.replicate (cL - es.length) nilC).getD i .any = .sl e.w 0 e.l.length (e.l.length + e.p.length) := getD_map he
    have ke : H[e.w]? = some (wB e.o (e.l ++ e.p)) := (G.keep e.w (lt_of (O.at_ i e he)) fun j f hj hf => O.ne i j e f (by omega) he hf).trans (O.at_ i e he)
    have hlen := O.lt i e he
    simp (maxSteps := 4000000) only [Try.results16, kb, kL, hd, g1, XX, Nat.reduceBEq, Nat.reduceLT, Nat.reduceAdd, Nat.reduceMul, Nat.reduceSub, Nat.reduceLeDiff, Nat.reduceEqDiff, Int.reduceToNat, Int.reduceLT, Int.reduceLE, Int.reduceAdd, Int.reduceSub, Int.reduceEq, reduceIte, Nat.reduceBNe, Int.reducePow, Nat.reducePow, Int.reduceMul, Int.reduceNeg, isB_i, isB_b, isB_y, isBv_i, isBv_b, eqCells_t, TT]
    refine ⟨⟨by omega, by omega⟩, by simp; omega, ?_⟩
    -- the marks
    refine loop_at cx_ok 400 (fun μ σ => ∃ m : Nat, μ = e.l.length - m ∧ m ≤ e.l.length ∧ σ = ⟨⟨15, h.length⟩, [(0, .c (.ptr ib 0)), (2, .c (bC false)), (4, .c sG), (5, .c (i64 i)), (6, .c (.sl e.w 0 e.l.length (e.l.length + e.p.length))), (7, .c (i64 m))],
        H.set e.w (wB e.o (mk i m ++ (e.l ++ e.p).drop m))⟩) e.l.length
      ⟨⟨15, h.length⟩, [(0, .c (.ptr ib 0)), (2, .c (bC false)), (4, .c sG), (5, .c (i64 i)), (6, .c (.sl e.w 0 e.l.length (e.l.length + e.p.length))), (7, .c (i64 (0 : Nat)))], H.set e.w (wB e.o (mk i 0 ++ (e.l ++ e.p).drop 0))⟩
      ⟨0, rfl, Nat.zero_le _, rfl⟩ ⟨rfl, (set_same ke).symm, rfl, rfl, rfl, rfl, rfl, rfl, trivial⟩ ?_
    rintro μ σ ⟨m, rfl, hm, rfl⟩
    by_cases hlt2 : m < e.l.length
    · have hd2 : decide ((m : Int) < (e.l.length : Int)) = true := by simp only [decide_eq_true_eq]; omega
      have e3 : IntKind.i64.wrap ((m : Int) + 1) = ((m + 1 : Nat) : Int) := by rw [w64] <;> omega
      have ho : e.o = true := O.own i e he (by omega)
      simp (maxSteps := 4000000) only [Try.results16, hd2, XX, Nat.reduceBEq, Nat.reduceLT, Nat.reduceAdd, Nat.reduceMul, Nat.reduceSub, Nat.reduceLeDiff, Nat.reduceEqDiff, Int.reduceToNat, Int.reduceLT, Int.reduceLE, Int.reduceAdd, Int.reduceSub, Int.reduceEq, reduceIte, Nat.reduceBNe, Int.reducePow, Nat.reducePow, Int.reduceMul, Int.reduceNeg, isB_i, isB_b, isB_y, isBv_i, isBv_b, eqCells_t, TT]
      refine call_plain (mark_spec i m (by omega) (by omega)) rfl ?_
      rintro _ rfl
      simp (maxSteps := 4000000) only [Try.results16, e3, gset, ke, ho, List.set_set, XX, Nat.reduceBEq, Nat.reduceLT, Nat.reduceAdd, Nat.reduceMul, Nat.reduceSub, Nat.reduceLeDiff, Nat.reduceEqDiff, Int.reduceToNat, Int.reduceLT, Int.reduceLE, Int.reduceAdd, Int.reduceSub, Int.reduceEq, reduceIte, Nat.reduceBNe, Int.reducePow, Nat.reducePow, Int.reduceMul, Int.reduceNeg, isB_i, isB_b, isB_y, isBv_i, isBv_b, eqCells_t, TT]
      refine ⟨by omega, by simp [mk_len]; omega, e.l.length - (m + 1), by omega, _, ⟨m + 1, rfl, by omega, rfl⟩, rfl, ?_, rfl, rfl, rfl, rfl, rfl, rfl, trivial⟩
      simp only [bs_take, bs_drop, bs_one, bs_app, mk_step i m (e.l ++ e.p) (by simp; omega)]
    have hm' : m = e.l.length := by omega
    subst hm'
    have hd2 : decide ((e.l.length : Int) < (e.l.length : Int)) = false := by simp
    simp (maxSteps := 4000000) only [Try.results16, hd2, XX, Nat.reduceBEq, Nat.reduceLT, Nat.reduceAdd, Nat.reduceMul, Nat.reduceSub, Nat.reduceLeDiff, Nat.reduceEqDiff, Int.reduceToNat, Int.reduceLT, Int.reduceLE, Int.reduceAdd, Int.reduceSub, Int.reduceEq, reduceIte, Nat.reduceBNe, Int.reducePow, Nat.reducePow, Int.reduceMul, Int.reduceNeg, isB_i, isB_b, isB_y, isBv_i, isBv_b, eqCells_t, TT]
    rw [List.drop_left' rfl]
    have H1l : (H.set e.w (wB e.o (mk i e.l.length ++ e.p))).length = H.length := List.length_set
    have H1e : (H.set e.w (wB e.o (mk i e.l.length ++ e.p)))[e.w]? = some (wB e.o (mk i e.l.length ++ e.p)) := by rw [gset, ke]; rfl
    have H1k : ∀ k, k ≠ e.w → (H.set e.w (wB e.o (mk i e.l.length ++ e.p)))[k]? = H[k]? := fun k hk => List.getElem?_set_ne (fun h => hk h.symm)
    generalize H.set e.w (wB e.o (mk i e.l.length ++ e.p)) = H1 at H1l H1e H1k ⊢
    -- nine more
    refine loop_at cx_ok 400 (fun μ σ => ∃ (m : Nat) (H : List SB) (w c : Nat) (o : Bool) (q : List UInt8), μ = 9 - m ∧ m ≤ 9 ∧ Ap H1 i e m H w c o q ∧
        σ = ⟨⟨15, h.length⟩, [(0, .c (.ptr ib 0)), (2, .c (bC false)), (4, .c sG), (5, .c (i64 i)), (6, .c (.sl e.w 0 e.l.length (e.l.length + e.p.length))), (8, .c (.sl w 0 (e.l.length + m) c)), (9, .c (i64 m))], H⟩) 9
      ⟨⟨15, h.length⟩, [(0, .c (.ptr ib 0)), (2, .c (bC false)), (4, .c sG), (5, .c (i64 i)), (6, .c (.sl e.w 0 e.l.length (e.l.length + e.p.length))), (8, .c (.sl e.w 0 (e.l.length + 0) (e.l.length + e.p.length))), (9, .c (i64 (0 : Nat)))], H1⟩
      ⟨0, H1, e.w, e.l.length + e.p.length, e.o, e.p, rfl, by omega, ⟨Nat.le_refl _, H1e, O.own i e he, rfl, ⟨_, H1e⟩, .inl rfl, fun _ _ _ => rfl⟩, rfl⟩ ⟨rfl, rfl, rfl, rfl, rfl, rfl, rfl, rfl, rfl, trivial⟩ ?_
    rintro μ σ ⟨m, H2, w, c, o, q, rfl, hm, A, rfl⟩
    by_cases hlt2 : m < 9
    · have hd2 : decide ((m : Int) < 9) = true := by simp only [decide_eq_true_eq]; omega
      have e3 : IntKind.i64.wrap ((m : Int) + 1) = ((m + 1 : Nat) : Int) := by rw [w64] <;> omega
      have e4 : IntKind.i64.wrap ((e.l.length : Int) + (m : Int)) = ((e.l.length + m : Nat) : Int) := by rw [w64] <;> omega
      simp (maxSteps := 4000000) only [Try.results16, hd2, e4, XX, Nat.reduceBEq, Nat.reduceLT, Nat.reduceAdd, Nat.reduceMul, Nat.reduceSub, Nat.reduceLeDiff, Nat.reduceEqDiff, Int.reduceToNat, Int.reduceLT, Int.reduceLE, Int.reduceAdd, Int.reduceSub, Int.reduceEq, reduceIte, Nat.reduceBNe, Int.reducePow, Nat.reducePow, Int.reduceMul, Int.reduceNeg, isB_i, isB_b, isB_y, isBv_i, isBv_b, eqCells_t, TT]
      refine call_plain (mark_spec i (e.l.length + m) (by omega) (by omega)) rfl ?_
      rintro _ rfl
      have lw := lt_of A.at_
      simp (maxSteps := 4000000) only [Try.results16, A.at_, lw, List.append_assoc, List.getElem?_append_left, List.getElem?_append_right, List.length_append, List.length_set, List.set_append_left, gset, List.getElem?_set_ne, Nat.add_sub_cancel_left, Nat.sub_self, Nat.le_refl, Nat.le_add_right, rep_flat, List.replicate_one, List.flatten_cons, List.flatten_nil, XX, Nat.reduceBEq, Nat.reduceLT, Nat.reduceAdd, Nat.reduceMul, Nat.reduceSub, Nat.reduceLeDiff, Nat.reduceEqDiff, Int.reduceToNat, Int.reduceLT, Int.reduceLE, Int.reduceAdd, Int.reduceSub, Int.reduceEq, reduceIte, Nat.reduceBNe, Int.reducePow, Nat.reducePow, Int.reduceMul, Int.reduceNeg, isB_i, isB_b, isB_y, isBv_i, isBv_b, eqCells_t, TT]
      have tk : (bsC (mk i (e.l.length + m) ++ q)).take (e.l.length + m) = bsC (mk i (e.l.length + m)) := by rw [bs_take, List.take_left' (mk_len _ _)]
      refine ⟨⟨by omega, by unfold maxLen; omega, by simp [mk_len], fun h => ⟨A.own (by omega), by simp [mk_len]; have := A.cap; omega⟩⟩, xapp_both (fun hr => ?_) (fun hg c' hc' _ => ?_)⟩
      · obtain rfl := A.own (by omega)
        obtain ⟨x, q1, rfl⟩ : ∃ x q1, q = x :: q1 := by
          cases q with
          | nil => have := A.cap; simp at this; omega
          | cons x q1 => exact ⟨x, q1, rfl⟩
        have tl : (bsC (mk i (e.l.length + m) ++ x :: q1)).drop (e.l.length + m + 1) = bsC q1 := by
          rw [bs_drop, List.drop_append, List.drop_of_length_le (by rw [mk_len]; omega), mk_len, show e.l.length + m + 1 - (e.l.length + m) = 1 by omega]; rfl
        have mm : bsC (mk i (e.l.length + m)) ++ byteC (mkB i (e.l.length + m)) :: bsC q1 = bsC (mk i (e.l.length + (m + 1)) ++ q1) := by
          rw [show e.l.length + (m + 1) = e.l.length + m + 1 by omega, mk_succ, bs_cons, bs_app, List.append_assoc]; rfl
        simp (maxSteps := 4000000) only [Try.results16, e3, tk, tl, mm, A.at_, lw, List.append_assoc, List.getElem?_append_left, List.getElem?_append_right, List.length_append, List.length_set, List.set_append_left, gset, List.getElem?_set_ne, Nat.add_sub_cancel_left, Nat.sub_self, Nat.le_refl, Nat.le_add_right, rep_flat, List.replicate_one, List.flatten_cons, List.flatten_nil, XX, Nat.reduceBEq, Nat.reduceLT, Nat.reduceAdd, Nat.reduceMul, Nat.reduceSub, Nat.reduceLeDiff, Nat.reduceEqDiff, Int.reduceToNat, Int.reduceLT, Int.reduceLE, Int.reduceAdd, Int.reduceSub, Int.reduceEq, reduceIte, Nat.reduceBNe, Int.reducePow, Nat.reducePow, Int.reduceMul, Int.reduceNeg, isB_i, isB_b, isB_y, isBv_i, isBv_b, eqCells_t, TT]
        refine ⟨9 - (m + 1), by omega, _, ⟨m + 1, _, w, c, true, q1, rfl, by omega, ⟨?_, ?_, fun _ => rfl, ?_, ?_, A.wh, ?_⟩, rfl⟩, rfl, rfl, rfl, rfl, rfl, rfl, rfl, rfl, rfl, trivial⟩
        · have := A.len; simp; omega
        · rw [List.getElem?_append_left (by simpa using lw), gset, A.at_]; rfl
        · have := A.cap; simp at this ⊢; omega
        · obtain ⟨q', hq'⟩ := A.old
          by_cases hw : w = e.w
          · subst hw
            refine ⟨mkTail i e.l.length (m + 1) ++ q1, ?_⟩
            have ho : e.o = true := by
              have h9 := hq'.symm.trans A.at_
              simp only [Option.some.injEq, SB.mk.injEq] at h9
              exact h9.1
            rw [List.getElem?_append_left (by simpa using lw), gset, A.at_, ← List.append_assoc, ← mk_split, ho]; rfl
          · exact ⟨q', by rw [List.getElem?_append_left (by simpa using lt_of hq'), List.getElem?_set_ne hw]; exact hq'⟩
        · intro k hk hne
          have hkw : w ≠ k := by rcases A.wh with h | h <;> omega
          rw [List.getElem?_append_left (by have := A.len; simp; omega), List.getElem?_set_ne hkw]
          exact A.keep k hk hne
      · have mm : bsC (mk i (e.l.length + m)) ++ byteC (mkB i (e.l.length + m)) :: bsC (List.replicate (c' - (e.l.length + m + 1)) 0) = bsC (mk i (e.l.length + (m + 1)) ++ List.replicate (c' - (e.l.length + m + 1)) 0) := by
          rw [show e.l.length + (m + 1) = e.l.length + m + 1 by omega, mk_succ, bs_cons, bs_app, List.append_assoc]; rfl
        simp (maxSteps := 4000000) only [Try.results16, e3, tk, bsC_zeros, mm, A.at_, lw, List.append_assoc, List.getElem?_append_left, List.getElem?_append_right, List.length_append, List.length_set, List.set_append_left, gset, List.getElem?_set_ne, Nat.add_sub_cancel_left, Nat.sub_self, Nat.le_refl, Nat.le_add_right, rep_flat, List.replicate_one, List.flatten_cons, List.flatten_nil, XX, Nat.reduceBEq, Nat.reduceLT, Nat.reduceAdd, Nat.reduceMul, Nat.reduceSub, Nat.reduceLeDiff, Nat.reduceEqDiff, Int.reduceToNat, Int.reduceLT, Int.reduceLE, Int.reduceAdd, Int.reduceSub, Int.reduceEq, reduceIte, Nat.reduceBNe, Int.reducePow, Nat.reducePow, Int.reduceMul, Int.reduceNeg, isB_i, isB_b, isB_y, isBv_i, isBv_b, eqCells_t, TT]
        refine ⟨9 - (m + 1), by omega, _, ⟨m + 1, _, H2.length + 1, c', true, List.replicate (c' - (e.l.length + m + 1)) 0, rfl, by omega, ⟨?_, ?_, fun _ => rfl, ?_, ?_, ?_, ?_⟩, rfl⟩, rfl, rfl, rfl, rfl, rfl, rfl, rfl, rfl, rfl, trivial⟩
        · have := A.len; simp; omega
        · rw [List.getElem?_append_right (by omega), Nat.add_sub_cancel_left]; rfl
        · simp; omega
        · obtain ⟨q', hq'⟩ := A.old
          exact ⟨q', by rw [List.getElem?_append_left (lt_of hq')]; exact hq'⟩
        · right; have := A.len; omega
        · intro k hk hne
          rw [List.getElem?_append_left (by have := A.len; omega)]
          exact A.keep k hk hne
    have hm' : m = 9 := by omega
    subst hm'
    have lw := lt_of A.at_
    have e3 : IntKind.i64.wrap ((i : Int) + 1) = ((i + 1 : Nat) : Int) := by rw [w64] <;> omega
    -- what is known of the windows behind it
    have hwG : h.length ≤ H.length := G.len
    have leH : H1.length ≤ H2.length := A.len
    have kp : ∀ k, k < H.length → k ≠ e.w → H2[k]? = H[k]? := fun k hk hne => (A.keep k (by omega) hne).trans (H1k k hne)
    have lew : e.w < h.length := lt_of (O.at_ i e he)
    have oldA : ∀ (j : Nat) (f : OE) (g : Nat × Nat × Nat), es[j]? = some f → gs[j]? = some g → (∃ o q, H2[g.1]? = some (wB o (mk j (f.l.length + 9) ++ q))) ∧ (∃ q, H2[f.w]? = some (wB f.o (mk j f.l.length ++ q))) ∧ (g.1 = f.w ∨ h.length ≤ g.1) ∧ g.2.2 = f.l.length ∧ (0 < i → g.1 ≠ iG) := by
      intro j f g hf hg
      obtain ⟨⟨o1, q1, a1⟩, ⟨q2, a2⟩, a3, a4, a5⟩ := G.at_ j f g hf hg
      have hj : j < i := by rw [← G.gl]; exact (List.getElem?_eq_some_iff.1 hg).1
      have hne : f.w ≠ e.w := O.ne j i f e (by omega) hf he
      have hne2 : g.1 ≠ e.w := by rcases a3 with h | h <;> omega
      exact ⟨⟨o1, q1, by rw [kp _ (lt_of a1) hne2]; exact a1⟩, ⟨q2, by rw [kp _ (lt_of a2) hne]; exact a2⟩, a3, a4, a5⟩
    have newA : (∃ o q, H2[w]? = some (wB o (mk i (e.l.length + 9) ++ q))) ∧ (∃ q, H2[e.w]? = some (wB e.o (mk i e.l.length ++ q))) ∧ (w = e.w ∨ h.length ≤ w) :=
      ⟨⟨_, _, A.at_⟩, A.old, by rcases A.wh with h | h <;> omega⟩
    have newG : 0 < i → w ≠ iG := by
      intro h0
      rcases G.sG with ⟨h1, _⟩ | ⟨_, _, hG, hiG⟩
      · omega
      · have := lt_of hG
        rcases A.wh with h | h <;> omega
    have allA : ∀ (j : Nat) (f : OE) (g : Nat × Nat × Nat), es[j]? = some f → (gs ++ [(w, c, e.l.length)])[j]? = some g → (∃ o q, H2[g.1]? = some (wB o (mk j (f.l.length + 9) ++ q))) ∧ (∃ q, H2[f.w]? = some (wB f.o (mk j f.l.length ++ q))) ∧ (g.1 = f.w ∨ h.length ≤ g.1) ∧ g.2.2 = f.l.length ∧ (0 < i → g.1 ≠ iG) := by
      intro j f g hf hg
      have hj : j < (gs ++ [(w, c, e.l.length)]).length := (List.getElem?_eq_some_iff.1 hg).1
      rw [List.length_append, List.length_singleton, G.gl] at hj
      by_cases hji : j < i
      · rw [List.getElem?_append_left (by rw [G.gl]; exact hji)] at hg
        exact oldA j f g hf hg
      · obtain rfl : j = i := by omega
        rw [List.getElem?_append_right (by rw [G.gl]; exact Nat.le_refl _), G.gl, Nat.sub_self] at hg
        rw [he] at hf
        cases hf
        cases hg
        exact ⟨newA.1, newA.2.1, newA.2.2, rfl, newG⟩
    have keepA : ∀ (k : Nat), k < h.length → (∀ (j : Nat) (f : OE), j < i + 1 → es[j]? = some f → k ≠ f.w) → H2[k]? = h[k]? := fun k hk hne =>
      (kp k (by omega) (hne i e (by omega) he)).trans (G.keep k hk fun j f hj hf => hne j f (by omega) hf)
    rcases G.sG with ⟨rfl, rfl⟩ | ⟨hi0, rfl, hG, hiG⟩
    · have hgs := List.eq_nil_of_length_eq_zero G.gl
      subst hgs
      simp (maxSteps := 4000000) only [Try.results16, Int.cast_ofNat_Int, A.at_, lw, List.append_assoc, List.getElem?_append_left, List.getElem?_append_right, List.length_append, List.length_set, List.set_append_left, gset, List.getElem?_set_ne, Nat.add_sub_cancel_left, Nat.sub_self, Nat.le_refl, Nat.le_add_right, rep_flat, List.replicate_one, List.flatten_cons, List.flatten_nil, XX, Nat.reduceBEq, Nat.reduceLT, Nat.reduceAdd, Nat.reduceMul, Nat.reduceSub, Nat.reduceLeDiff, Nat.reduceEqDiff, Int.reduceToNat, Int.reduceLT, Int.reduceLE, Int.reduceAdd, Int.reduceSub, Int.reduceEq, reduceIte, Nat.reduceBNe, Int.reducePow, Nat.reducePow, Int.reduceMul, Int.reduceNeg, isB_i, isB_b, isB_y, isBv_i, isBv_b, eqCells_t, TT]
      refine ⟨by unfold maxLen; omega, xapp_grow (by omega) fun cG hcG _ => ?_⟩
      simp (maxSteps := 4000000) only [Try.results16, e3, A.at_, lw, List.append_assoc, List.getElem?_append_left, List.getElem?_append_right, List.length_append, List.length_set, List.set_append_left, gset, List.getElem?_set_ne, Nat.add_sub_cancel_left, Nat.sub_self, Nat.le_refl, Nat.le_add_right, rep_flat, List.replicate_one, List.flatten_cons, List.flatten_nil, XX, Nat.reduceBEq, Nat.reduceLT, Nat.reduceAdd, Nat.reduceMul, Nat.reduceSub, Nat.reduceLeDiff, Nat.reduceEqDiff, Int.reduceToNat, Int.reduceLT, Int.reduceLE, Int.reduceAdd, Int.reduceSub, Int.reduceEq, reduceIte, Nat.reduceBNe, Int.reducePow, Nat.reducePow, Int.reduceMul, Int.reduceNeg, isB_i, isB_b, isB_y, isBv_i, isBv_b, eqCells_t, TT]
      refine ⟨es.length - 1, by omega, _, ⟨1, _, _, H2.length + 1, cG - 1, [(w, c, e.l.length)], rfl, by omega, ⟨by simp; omega, fun k hk hne => ?_, rfl, .inr ⟨by omega, rfl, ?_, by omega⟩, ?_⟩, rfl⟩, rfl, rfl, rfl, rfl, ?_, rfl, trivial⟩
      · rw [List.getElem?_append_left (by omega)]; exact keepA k hk hne
      · rw [List.getElem?_append_right (by omega), Nat.add_sub_cancel_left]; rfl
      · intro j f g hf hg
        obtain ⟨⟨o1, q1, a1⟩, ⟨q2, a2⟩, a3, a4, a5⟩ := allA j f g hf hg
        have l1 := lt_of a1
        refine ⟨⟨o1, q1, by rw [List.getElem?_append_left l1]; exact a1⟩, ⟨q2, by rw [List.getElem?_append_left (lt_of a2)]; exact a2⟩, a3, a4, fun _ => by omega⟩
      · rw [show 1 + (cG - 1) = cG by omega]; rfl
    · have lG := lt_of hG
      have neG : iG ≠ e.w := by omega
      have hG2 : H2[iG]? = _ := (kp iG lG neG).trans hG
      have lG2 := lt_of hG2
      have tG : List.take i (gs.map (fun g => SC.sl g.1 0 (g.2.2 + 9) g.2.1) ++ List.replicate r nilC) = gs.map (fun g => SC.sl g.1 0 (g.2.2 + 9) g.2.1) := take_rep _ _ _ (by simp [G.gl])
      have dG : List.drop (i + 1) (gs.map (fun g => SC.sl g.1 0 (g.2.2 + 9) g.2.1) ++ List.replicate r nilC) = List.replicate (r - 1) nilC := by
        have := drop_rep (gs.map (fun g => SC.sl g.1 0 (g.2.2 + 9) g.2.1)) nilC (i + r) i (by simp [G.gl])
        rw [show i + r - i = r by omega, show i + r - (i + 1) = r - 1 by omega] at this
        exact this
      simp (maxSteps := 4000000) only [Try.results16, Int.cast_ofNat_Int, hG2, lG2, A.at_, lw, List.append_assoc, List.getElem?_append_left, List.getElem?_append_right, List.length_append, List.length_set, List.set_append_left, gset, List.getElem?_set_ne, Nat.add_sub_cancel_left, Nat.sub_self, Nat.le_refl, Nat.le_add_right, rep_flat, List.replicate_one, List.flatten_cons, List.flatten_nil, XX, Nat.reduceBEq, Nat.reduceLT, Nat.reduceAdd, Nat.reduceMul, Nat.reduceSub, Nat.reduceLeDiff, Nat.reduceEqDiff, Int.reduceToNat, Int.reduceLT, Int.reduceLE, Int.reduceAdd, Int.reduceSub, Int.reduceEq, reduceIte, Nat.reduceBNe, Int.reducePow, Nat.reducePow, Int.reduceMul, Int.reduceNeg, isB_i, isB_b, isB_y, isBv_i, isBv_b, eqCells_t, TT]
      refine ⟨⟨by omega, by unfold maxLen; omega, by simp [G.gl], fun h => by simp [G.gl]; omega⟩, xapp_both (fun hr => ?_) (fun hg cG hcG _ => ?_)⟩
      · simp (maxSteps := 4000000) only [Try.results16, e3, tG, dG, hG2, lG2, A.at_, lw, List.append_assoc, List.getElem?_append_left, List.getElem?_append_right, List.length_append, List.length_set, List.set_append_left, gset, List.getElem?_set_ne, Nat.add_sub_cancel_left, Nat.sub_self, Nat.le_refl, Nat.le_add_right, rep_flat, List.replicate_one, List.flatten_cons, List.flatten_nil, XX, Nat.reduceBEq, Nat.reduceLT, Nat.reduceAdd, Nat.reduceMul, Nat.reduceSub, Nat.reduceLeDiff, Nat.reduceEqDiff, Int.reduceToNat, Int.reduceLT, Int.reduceLE, Int.reduceAdd, Int.reduceSub, Int.reduceEq, reduceIte, Nat.reduceBNe, Int.reducePow, Nat.reducePow, Int.reduceMul, Int.reduceNeg, isB_i, isB_b, isB_y, isBv_i, isBv_b, eqCells_t, TT]
        refine ⟨es.length - (i + 1), by omega, _, ⟨i + 1, _, _, iG, r - 1, gs ++ [(w, c, e.l.length)], rfl, by omega, ⟨by simp; omega, fun k hk hne => ?_, by simp [G.gl], .inr ⟨by omega, rfl, ?_, hiG⟩, ?_⟩, rfl⟩, rfl, rfl, rfl, rfl, ?_, rfl, trivial⟩
        · rw [List.getElem?_append_left (by simp; omega), List.getElem?_set_ne (by omega)]; exact keepA k hk hne
        · rw [List.getElem?_append_left (by simpa using lG2), gset, hG2, List.map_append, List.append_assoc]; rfl
        · intro j f g hf hg
          obtain ⟨⟨o1, q1, a1⟩, ⟨q2, a2⟩, a3, a4, a5⟩ := allA j f g hf hg
          have l2 : f.w < h.length := lt_of (O.at_ j f hf)
          refine ⟨⟨o1, q1, by rw [List.getElem?_append_left (by simpa using lt_of a1), List.getElem?_set_ne (a5 hi0).symm]; exact a1⟩, ⟨q2, by rw [List.getElem?_append_left (by simpa using lt_of a2), List.getElem?_set_ne (by omega)]; exact a2⟩, a3, a4, fun _ => a5 hi0⟩
        · rw [show i + 1 + (r - 1) = i + r by omega]; rfl
      · simp (maxSteps := 4000000) only [Try.results16, e3, tG, dG, hG2, lG2, A.at_, lw, List.append_assoc, List.getElem?_append_left, List.getElem?_append_right, List.length_append, List.length_set, List.set_append_left, gset, List.getElem?_set_ne, Nat.add_sub_cancel_left, Nat.sub_self, Nat.le_refl, Nat.le_add_right, rep_flat, List.replicate_one, List.flatten_cons, List.flatten_nil, XX, Nat.reduceBEq, Nat.reduceLT, Nat.reduceAdd, Nat.reduceMul, Nat.reduceSub, Nat.reduceLeDiff, Nat.reduceEqDiff, Int.reduceToNat, Int.reduceLT, Int.reduceLE, Int.reduceAdd, Int.reduceSub, Int.reduceEq, reduceIte, Nat.reduceBNe, Int.reducePow, Nat.reducePow, Int.reduceMul, Int.reduceNeg, isB_i, isB_b, isB_y, isBv_i, isBv_b, eqCells_t, TT]
        refine ⟨es.length - (i + 1), by omega, _, ⟨i + 1, _, _, H2.length + 1, cG - (i + 1), gs ++ [(w, c, e.l.length)], rfl, by omega, ⟨by simp; omega, fun k hk hne => ?_, by simp [G.gl], .inr ⟨by omega, rfl, ?_, by omega⟩, ?_⟩, rfl⟩, rfl, rfl, rfl, rfl, ?_, rfl, trivial⟩
        · rw [List.getElem?_append_left (by omega)]; exact keepA k hk hne
        · rw [List.getElem?_append_right (by omega), Nat.add_sub_cancel_left, List.map_append, List.append_assoc]; rfl
        · intro j f g hf hg
          obtain ⟨⟨o1, q1, a1⟩, ⟨q2, a2⟩, a3, a4, a5⟩ := allA j f g hf hg
          have l1 := lt_of a1
          refine ⟨⟨o1, q1, by rw [List.getElem?_append_left l1]; exact a1⟩, ⟨q2, by rw [List.getElem?_append_left (lt_of a2)]; exact a2⟩, a3, a4, fun _ => by omega⟩
        · rw [show i + 1 + (cG - (i + 1)) = cG by omega]; rfl
  have hi' : i = es.length := by omega
  subst hi'
  have hd : decide ((es.length : Int) < (es.length : Int)) = false := by simp
  simp (maxSteps := 4000000) only [Try.results16, kb, hd, XX, Nat.reduceBEq, Nat.reduceLT, Nat.reduceAdd, Nat.reduceMul, Nat.reduceSub, Nat.reduceLeDiff, Nat.reduceEqDiff, Int.reduceToNat, Int.reduceLT, Int.reduceLE, Int.reduceAdd, Int.reduceSub, Int.reduceEq, reduceIte, Nat.reduceBNe, Int.reducePow, Nat.reducePow, Int.reduceMul, Int.reduceNeg, isB_i, isB_b, isB_y, isBv_i, isBv_b, eqCells_t, TT]
  rcases Nat.eq_zero_or_pos es.length with hn0 | hn0
  · -- no lists
    rcases G.sG with ⟨_, rfl⟩ | ⟨h1, _⟩
    · rw [hn0]
      refine loop_rounds cx_ok 400 1 ?_
      simp (maxSteps := 4000000) only [Try.results16, XX, Nat.reduceBEq, Nat.reduceLT, Nat.reduceAdd, Nat.reduceMul, Nat.reduceSub, Nat.reduceLeDiff, Nat.reduceEqDiff, Int.reduceToNat, Int.reduceLT, Int.reduceLE, Int.reduceAdd, Int.reduceSub, Int.reduceEq, reduceIte, Nat.reduceBNe, Int.reducePow, Nat.reducePow, Int.reduceMul, Int.reduceNeg, isB_i, isB_b, isB_y, isBv_i, isBv_b, eqCells_t, TT]
      exact ⟨G.len, fun k hk hne => G.keep k hk fun j e _ he => hne j e he⟩
    · omega
  obtain ⟨rfl, hG, hiG⟩ : sG = .sl iG 0 es.length (es.length + r) ∧ H[iG]? = some (listsB (gs.map (fun g => SC.sl g.1 0 (g.2.2 + 9) g.2.1) ++ List.replicate r nilC)) ∧ h.length ≤ iG := by
    rcases G.sG with ⟨h1, _⟩ | ⟨_, h1, h2, h3⟩
    · omega
    · exact ⟨h1, h2, h3⟩
  refine loop_at cx_ok 400 (fun μ σ => ∃ i : Nat, μ = es.length - i ∧ i ≤ es.length ∧ σ = ⟨⟨15, h.length⟩, [(0, .c (.ptr ib 0)), (2, .c (bC false)), (4, .c (.sl iG 0 es.length (es.length + r))), (11, .c (i64 i))], H⟩) es.length
    ⟨⟨15, h.length⟩, [(0, .c (.ptr ib 0)), (2, .c (bC false)), (4, .c (.sl iG 0 es.length (es.length + r))), (11, .c (i64 (0 : Nat)))], H⟩ ⟨0, rfl, Nat.zero_le _, rfl⟩ ⟨rfl, rfl, rfl, rfl, rfl, rfl, trivial⟩ ?_
  rintro μ σ ⟨i, rfl, hi, rfl⟩
  by_cases hlt : i < es.length
  · have hd : decide ((i : Int) < (es.length : Int)) = true := by simp only [decide_eq_true_eq]; omega
    obtain ⟨e, he⟩ : ∃ e, es[i]? = some e := ⟨_, List.getElem?_eq_getElem hlt⟩
    obtain ⟨g, hg⟩ : ∃ g, gs[i]? = some g := ⟨_, List.getElem?_eq_getElem (by rw [G.gl]; exact hlt)⟩
    have g1 : (es.map OE.sc ++ List.replicate (cL - es.length) nilC).getD i .any = .sl e.w 0 e.l.length (e.l.length + e.p.length) := getD_map he
    have g2 : (gs.map (fun g => SC.sl g.1 0 (g.2.2 + 9) g.2.1) ++ List.replicate r nilC).getD i .any = .sl g.1 0 (g.2.2 + 9) g.2.1 := getD_map hg
    obtain ⟨⟨o1, q1, a1⟩, ⟨q2, a2⟩, a3, a4, a5⟩ := G.at_ i e g he hg
    rw [a4] at g2
    have hlen := O.lt i e he
    have e3 : IntKind.i64.wrap ((i : Int) + 1) = ((i + 1 : Nat) : Int) := by rw [w64] <;> omega
    simp (maxSteps := 4000000) only [Try.results16, kb, kL, hd, g1, XX, Nat.reduceBEq, Nat.reduceLT, Nat.reduceAdd, Nat.reduceMul, Nat.reduceSub, Nat.reduceLeDiff, Nat.reduceEqDiff, Int.reduceToNat, Int.reduceLT, Int.reduceLE, Int.reduceAdd, Int.reduceSub, Int.reduceEq, reduceIte, Nat.reduceBNe, Int.reducePow, Nat.reducePow, Int.reduceMul, Int.reduceNeg, isB_i, isB_b, isB_y, isBv_i, isBv_b, eqCells_t, TT]
    refine ⟨⟨by omega, by omega⟩, by simp; omega, ?_⟩
    refine loop_at cx_ok 400 (fun μ σ => ∃ m : Nat, μ = e.l.length + 9 - m ∧ m ≤ e.l.length + 9 ∧ σ = ⟨⟨15, h.length⟩, [(0, .c (.ptr ib 0)), (2, .c (bC false)), (4, .c (.sl iG 0 es.length (es.length + r))), (11, .c (i64 i)), (12, .c (.sl e.w 0 e.l.length (e.l.length + e.p.length))), (13, .c (i64 m))], H⟩) (e.l.length + 9)
      ⟨⟨15, h.length⟩, [(0, .c (.ptr ib 0)), (2, .c (bC false)), (4, .c (.sl iG 0 es.length (es.length + r))), (11, .c (i64 i)), (12, .c (.sl e.w 0 e.l.length (e.l.length + e.p.length))), (13, .c (i64 (0 : Nat)))], H⟩ ⟨0, rfl, Nat.zero_le _, rfl⟩ ⟨rfl, rfl, rfl, rfl, rfl, rfl, rfl, rfl, trivial⟩ ?_
    rintro μ σ ⟨m, rfl, hm, rfl⟩
    have p1 : (0 : Int) ≤ (i : Int) ∧ (i : Int) < (es.length : Int) := ⟨by omega, by omega⟩
    have p2 : i < (gs.map (fun g => SC.sl g.1 0 (g.2.2 + 9) g.2.1) ++ List.replicate r nilC).length := by simp [G.gl]; omega
    have f1 : (bsC (mk i (e.l.length + 9) ++ q1)).getD m .any = if m < e.l.length + 9 then SC.v (.int .u8 (mkB i m).toNat) else (bsC (mk i (e.l.length + 9) ++ q1)).getD m .any := by
      split
      · rename_i hm
        rw [List.getD_eq_getElem?_getD, List.getElem?_map, List.getElem?_append_left (by rw [mk_len]; exact hm), mk_at hm]; rfl
      · rfl
    have e4 : IntKind.i64.wrap ((m : Int) + 1) = ((m + 1 : Nat) : Int) := by rw [w64] <;> omega
    by_cases hlt2 : m < e.l.length + 9
    · have hd2 : decide ((m : Int) < ((e.l.length + 9 : Nat) : Int)) = true := by simp only [decide_eq_true_eq]; omega
      rw [if_pos hlt2] at f1
      simp (maxSteps := 4000000) only [Try.results16, hG, g2, hd2, p1, p2, XX, Nat.reduceBEq, Nat.reduceLT, Nat.reduceAdd, Nat.reduceMul, Nat.reduceSub, Nat.reduceLeDiff, Nat.reduceEqDiff, Int.reduceToNat, Int.reduceLT, Int.reduceLE, Int.reduceAdd, Int.reduceSub, Int.reduceEq, reduceIte, Nat.reduceBNe, Int.reducePow, Nat.reducePow, Int.reduceMul, Int.reduceNeg, isB_i, isB_b, isB_y, isBv_i, isBv_b, eqCells_t, TT]
      refine call_plain (mark_spec i m (by omega) (by omega)) rfl ?_
      rintro _ rfl
      by_cases hlt3 : m < e.l.length
      · have hd3 : decide ((m : Int) < (e.l.length : Int)) = true := by simp only [decide_eq_true_eq]; omega
        have f2 : (bsC (mk i e.l.length ++ q2)).getD m .any = SC.v (.int .u8 (mkB i m).toNat) := by
          rw [List.getD_eq_getElem?_getD, List.getElem?_map, List.getElem?_append_left (by rw [mk_len]; exact hlt3), mk_at hlt3]; rfl
        simp (maxSteps := 4000000) only [Try.results16, hG, g2, a1, a2, f1, f2, hd3, byteC, e4, XX, Nat.reduceBEq, Nat.reduceLT, Nat.reduceAdd, Nat.reduceMul, Nat.reduceSub, Nat.reduceLeDiff, Nat.reduceEqDiff, Int.reduceToNat, Int.reduceLT, Int.reduceLE, Int.reduceAdd, Int.reduceSub, Int.reduceEq, reduceIte, Nat.reduceBNe, Int.reducePow, Nat.reducePow, Int.reduceMul, Int.reduceNeg, isB_i, isB_b, isB_y, isBv_i, isBv_b, eqCells_t, TT]
        exact ⟨by omega, p2, ⟨by omega, by omega⟩, by simp [mk_len]; omega, ⟨by omega, by omega⟩, by simp [mk_len]; omega, e.l.length + 9 - (m + 1), by omega, _, ⟨m + 1, rfl, by omega, rfl⟩, rfl, rfl, rfl, rfl, rfl, rfl, rfl, rfl, trivial⟩
      · have hd3 : decide ((m : Int) < (e.l.length : Int)) = false := by simp only [decide_eq_false_iff_not]; omega
        have f2 : (∃ x : UInt8, (bsC (mk i e.l.length ++ q2)).getD m .any = SC.v (.int .u8 x.toNat)) ∨ (bsC (mk i e.l.length ++ q2)).getD m .any = .any := by
          rw [List.getD_eq_getElem?_getD, List.getElem?_map]
          cases (mk i e.l.length ++ q2)[m]? with
          | none => exact .inr rfl
          | some x => exact .inl ⟨x, rfl⟩
        have bad : ∀ {d : TD} {sz : List Bool} {fl : Bool} {op : BinOp} {y : SC}, binS d sz fl op (.c .any) (.c y) = .bad := by intros; rfl
        rcases f2 with ⟨x, f2⟩ | f2
        all_goals
          simp (maxSteps := 4000000) only [Try.results16, hG, g2, a1, a2, f1, f2, hd3, byteC, e4, bad, XX, Nat.reduceBEq, Nat.reduceLT, Nat.reduceAdd, Nat.reduceMul, Nat.reduceSub, Nat.reduceLeDiff, Nat.reduceEqDiff, Int.reduceToNat, Int.reduceLT, Int.reduceLE, Int.reduceAdd, Int.reduceSub, Int.reduceEq, reduceIte, Nat.reduceBNe, Int.reducePow, Nat.reducePow, Int.reduceMul, Int.reduceNeg, isB_i, isB_b, isB_y, isBv_i, isBv_b, eqCells_t, TT]
          exact ⟨by omega, p2, ⟨by omega, by omega⟩, by simp [mk_len]; omega, e.l.length + 9 - (m + 1), by omega, _, ⟨m + 1, rfl, by omega, rfl⟩, rfl, rfl, rfl, rfl, rfl, rfl, rfl, rfl, trivial⟩
    · have hm' : m = e.l.length + 9 := by omega
      subst hm'
      have hd2 : decide (((e.l.length + 9 : Nat) : Int) < ((e.l.length + 9 : Nat) : Int)) = false := by simp
      simp (maxSteps := 4000000) only [Try.results16, hG, g2, hd2, p1, p2, e3, XX, Nat.reduceBEq, Nat.reduceLT, Nat.reduceAdd, Nat.reduceMul, Nat.reduceSub, Nat.reduceLeDiff, Nat.reduceEqDiff, Int.reduceToNat, Int.reduceLT, Int.reduceLE, Int.reduceAdd, Int.reduceSub, Int.reduceEq, reduceIte, Nat.reduceBNe, Int.reducePow, Nat.reducePow, Int.reduceMul, Int.reduceNeg, isB_i, isB_b, isB_y, isBv_i, isBv_b, eqCells_t, TT]
      exact ⟨es.length - (i + 1), by omega, _, ⟨i + 1, rfl, by omega, rfl⟩, rfl, rfl, rfl, rfl, rfl, rfl, trivial⟩
  · have hi' : i = es.length := by omega
    subst hi'
    have hd : decide ((es.length : Int) < (es.length : Int)) = false := by simp
    simp (maxSteps := 4000000) only [Try.results16, hd, XX, Nat.reduceBEq, Nat.reduceLT, Nat.reduceAdd, Nat.reduceMul, Nat.reduceSub, Nat.reduceLeDiff, Nat.reduceEqDiff, Int.reduceToNat, Int.reduceLT, Int.reduceLE, Int.reduceAdd, Int.reduceSub, Int.reduceEq, reduceIte, Nat.reduceBNe, Int.reducePow, Nat.reducePow, Int.reduceMul, Int.reduceNeg, isB_i, isB_b, isB_y, isBv_i, isBv_b, eqCells_t, TT]
    exact ⟨G.len, fun k hk hne => G.keep k hk fun j e _ he => hne j e he⟩

theorem owns3' {h h1 h2 h3 : List SB} {ib iL1 iW1 iL2 iW2 : Nat} {e1 e2 e3 : OE} (hb : ib < h.length) (b1 : But h h1 (· = ib)) (l1 : h.length ≤ iL1) (w1 : h.length ≤ iW1) (b2 : But h1 h2 (fun k => k = ib ∨ k = iL1 ∨ k = iW1)) (l2 : iL2 = iL1 ∨ h1.length ≤ iL2) (w2 : iW2 = iW1 ∨ h1.length ≤ iW2)
    (b3 : But h2 h3 (fun k => k = ib ∨ k = iL2 ∨ k = iW2))
    (a1 : h[e1.w]? = some (wB e1.o (e1.l ++ e1.p))) (a2 : h[e2.w]? = some (wB e2.o (e2.l ++ e2.p))) (a3 : h[e3.w]? = some (wB e3.o (e3.l ++ e3.p))) (n1 : e1.w ≠ ib) (n2 : e2.w ≠ ib) (n3 : e3.w ≠ ib)
    (o1 : 0 < e1.l.length + e1.p.length → e1.o = true) (o2 : 0 < e2.l.length + e2.p.length → e2.o = true) (o3 : 0 < e3.l.length + e3.p.length → e3.o = true)
    (s1 : e1.l.length < 140737488351233) (s2 : e2.l.length < 140737488351233) (s3 : e3.l.length < 140737488351233)
    (d12 : e1.w ≠ e2.w) (d13 : e1.w ≠ e3.w) (d23 : e2.w ≠ e3.w) : Owns h3 [e1, e2, e3] := by
  have key : ∀ e : OE, h[e.w]? = some (wB e.o (e.l ++ e.p)) → e.w ≠ ib → h3[e.w]? = some (wB e.o (e.l ++ e.p)) := by
    intro e a n
    have lt := lt_of a
    have q1 := b1.2 e.w lt n
    have q2 := b2.2 e.w (by have := b1.1; omega) (by rintro (h | h | h) <;> omega)
    have q3 := b3.2 e.w (by have := b1.1; have := b2.1; omega) (by have := b1.1; rintro (h | h | h) <;> rcases l2 with l2 | l2 <;> rcases w2 with w2 | w2 <;> omega)
    rw [q3, q2, q1, a]
  have m : ∀ {i : Nat} {e : OE} {p : Nat → OE → Prop}, p 0 e1 → p 1 e2 → p 2 e3 → [e1, e2, e3][i]? = some e → p i e := by
    intro i e p h1 h2 h3 h
    match i, h with
    | 0, h => cases h; exact h1
    | 1, h => cases h; exact h2
    | 2, h => cases h; exact h3
  exact ⟨fun i e => m (p := fun _ e => h3[e.w]? = some (wB e.o (e.l ++ e.p))) (key _ a1 n1) (key _ a2 n2) (key _ a3 n3),
    fun i e => m (p := fun _ e => 0 < e.l.length + e.p.length → e.o = true) o1 o2 o3,
    fun i e => m (p := fun _ e => e.l.length < 140737488351233) s1 s2 s3,
    fun i j e f hij he hf => by
      match i, j, he, hf with
      | 0, 0, _, _ => omega
      | 1, 1, _, _ => omega
      | 2, 2, _, _ => omega
      | 0, 1, he, hf => cases he; cases hf; exact d12
      | 1, 0, he, hf => cases he; cases hf; exact d12.symm
      | 0, 2, he, hf => cases he; cases hf; exact d13
      | 2, 0, he, hf => cases he; cases hf; exact d13.symm
      | 1, 2, he, hf => cases he; cases hf; exact d23
      | 2, 1, he, hf => cases he; cases hf; exact d23.symm⟩

/-- Three lists that were taken, one behind the other. -/
theorem owns3 {h h1 h2 h3 : List SB} {ib iL1 iW1 iL2 iW2 v1 v2 v3 : Nat} {x1 x2 x3 y1 y2 y3 : List UInt8} {c1 c2 c3 : Bool} (hb : ib < h.length) (b1 : But h h1 (· = ib)) (l1 : h.length ≤ iL1) (w1 : h.length ≤ iW1) (b2 : But h1 h2 (fun k => k = ib ∨ k = iL1 ∨ k = iW1)) (l2 : iL2 = iL1 ∨ h1.length ≤ iL2) (w2 : iW2 = iW1 ∨ h1.length ≤ iW2)
    (b3 : But h2 h3 (fun k => k = ib ∨ k = iL2 ∨ k = iW2))
    (a1 : h[v1]? = some (wB c1 (x1 ++ y1))) (a2 : h[v2]? = some (wB c2 (x2 ++ y2))) (a3 : h[v3]? = some (wB c3 (x3 ++ y3))) (n1 : v1 ≠ ib) (n2 : v2 ≠ ib) (n3 : v3 ≠ ib)
    (o1 : 0 < x1.length + y1.length → c1 = true) (o2 : 0 < x2.length + y2.length → c2 = true) (o3 : 0 < x3.length + y3.length → c3 = true)
    (s1 : x1.length < 140737488351233) (s2 : x2.length < 140737488351233) (s3 : x3.length < 140737488351233)
    (d12 : v1 ≠ v2) (d13 : v1 ≠ v3) (d23 : v2 ≠ v3) : Owns h3 [⟨v1, x1, y1, c1⟩, ⟨v2, x2, y2, c2⟩, ⟨v3, x3, y3, c3⟩] :=
  owns3' (e1 := ⟨v1, x1, y1, c1⟩) (e2 := ⟨v2, x2, y2, c2⟩) (e3 := ⟨v3, x3, y3, c3⟩) hb b1 l1 w1 b2 l2 w2 b3 a1 a2 a3 n1 n2 n3 o1 o2 o3 s1 s2 s3 d12 d13 d23

end Go.Proofs.Ytflccffjfnfoiaa.Sx.B5
namespace Go.Proofs.Ytflccffjfnfoiaa.Sx
open Go
set_option linter.unusedSimpArgs false
set_option linter.unusedVariables false
set_option maxRecDepth 10000
set_option maxHeartbeats 2000000

/-- Windows that a book doesn't own. -/
abbrev tyO (t : Nat) : Prop := t = 58 ∨ t = 5
abbrev tyR (t : Nat) : Prop := tyO t ∨ t = 24
def KeepB (p : Nat → Prop) (h h' : List SB) : Prop := h.length ≤ h'.length ∧ ∀ (k : Nat) (b : SB), h[k]? = some b → p b.ty → h'[k]? = some b
theorem KeepB.rfl {p : Nat → Prop} {h : List SB} : KeepB p h h := ⟨Nat.le_refl _, fun _ _ h _ => h⟩
theorem KeepB.trans {p : Nat → Prop} {a b c : List SB} (x : KeepB p a b) (y : KeepB p b c) : KeepB p a c := ⟨Nat.le_trans x.1 y.1, fun k b h q => y.2 k b (x.2 k b h q) q⟩
theorem KeepB.le {p q : Nat → Prop} {a b : List SB} (x : KeepB p a b) (h : ∀ t, q t → p t) : KeepB q a b := ⟨x.1, fun k b h1 h2 => x.2 k b h1 (h _ h2)⟩
theorem KeepB.app {p : Nat → Prop} {h : List SB} (t : List SB) : KeepB p h (h ++ t) := ⟨by simp, fun k b hk _ => by rw [List.getElem?_append_left (lt_of hk)]; exact hk⟩
theorem Opts.keepB {p : Nat → Prop} (hp : ∀ t, tyO t → p t) {H H' : List SB} {iO : Nat} {o : Bool} {es : List PE} {r : Nat} (O : Opts H iO o es r) (h : KeepB p H H') : Opts H' iO o es r :=
  ⟨h.2 _ _ O.row (hp _ (.inl (Eq.refl _))), O.own, fun i e he => ⟨h.2 _ _ (O.at_ i e he).1 (hp _ (.inr (Eq.refl _))), (O.at_ i e he).2⟩, O.ne⟩

/-- A row, where it lies. -/
structure RE where
  iO : Nat
  o : Bool
  es : List PE
  r : Nat
abbrev RE.sc (x : RE) : SC := .sl x.iO 0 x.es.length (x.es.length + x.r)
abbrev RE.at_ (x : RE) (h : List SB) : Prop := Opts h x.iO x.o x.es x.r
abbrev rowsB (l : List SC) : SB := ⟨true, 24, l⟩
/-- A list of rows. -/
def RowS (h : List SB) (rx : SC) (rows : List RE) : Prop := (rows = [] ∧ rx = nilS) ∨ (0 < rows.length ∧ ∃ i r, rx = .sl i 0 rows.length (rows.length + r) ∧ h[i]? = some (rowsB (rows.map RE.sc ++ List.replicate r nilS)))
theorem RowS.keepB {p : Nat → Prop} (hp : p 24) {h h' : List SB} {rx : SC} {rows : List RE} (R : RowS h rx rows) (k : KeepB p h h') : RowS h' rx rows := by
  rcases R with R | ⟨h0, i, r, h1, h2⟩
  · exact .inl R
  · exact .inr ⟨h0, i, r, h1, k.2 _ _ h2 hp⟩

theorem gen_call {P' : Program} {xn : XN} {f : FuncId} {args : List SV} {dst : Option Tmp} {k : List KI} {nm : NB} {tm : List (Nat × SV)} {hp : List SB} {Q : XE → St → Prop} (P : List SB → Prop) (h0 : P hp) (h : ∀ H, P H → CallGoal P' xn f args dst k ⟨nm, tm, H⟩ Q) : CallGoal P' xn f args dst k ⟨nm, tm, hp⟩ Q := h hp h0

theorem rows_push {xn : XN} {dst : Option Tmp} {k : List KI} {nm : NB} {tm : List (Nat × SV)} {Q : XE → St → Prop} {H : List SB} {iR g r : Nat} {b : SB} {L : List SC} {x : SC} (hR : H[iR]? = some (rowsB (L ++ List.replicate r nilS))) (hg : g = H.length + 1)
    (hk : ∀ H' i' r', H'[i']? = some (rowsB (L ++ [x] ++ List.replicate r' nilS)) → H.length ≤ H'.length → (∀ k, k < H.length → k ≠ iR → H'[k]? = H[k]?) → (i' = iR ∨ H.length ≤ i') → xn k ⟨nm, put dst (.c (.sl i' 0 (L.length + 1) (L.length + 1 + r'))) tm, H'⟩ Q) :
    XApp xn (L.length + 1) (L.length + r) dst k nm tm (.c (.sl iR 0 (L.length + 1) (L.length + r)), H.set iR ⟨true, 24, (L ++ List.replicate r nilS).take L.length ++ x :: (L ++ List.replicate r nilS).drop (L.length + 1)⟩ ++ [b])
      (fun c' => (.c (.sl g 0 (L.length + 1) c'), H ++ [b, ⟨true, 24, (L ++ List.replicate r nilS).take L.length ++ x :: List.replicate (c' - (L.length + 1)) nilS⟩])) Q := by
  have lR := lt_of hR
  refine xapp_P (fun s H' => ∃ i' r', s = .c (.sl i' 0 (L.length + 1) (L.length + 1 + r')) ∧ H'[i']? = some (rowsB (L ++ [x] ++ List.replicate r' nilS)) ∧ H.length ≤ H'.length ∧ (∀ k, k < H.length → k ≠ iR → H'[k]? = H[k]?) ∧ (i' = iR ∨ H.length ≤ i')) (fun h => ?_) (fun h c' h1 h2 => ?_) ?_
  · obtain ⟨r', rfl⟩ : ∃ r', r = r' + 1 := ⟨r - 1, by omega⟩
    refine ⟨iR, r', by rw [Nat.add_assoc, Nat.add_comm 1 r'], ?_, by simp, fun k hk hne => by rw [List.getElem?_append_left (by simpa using hk), List.getElem?_set_ne (Ne.symm hne)], .inl rfl⟩
    rw [List.getElem?_append_left (by simpa using lR), List.getElem?_set_self lR, List.take_left' rfl, List.drop_append, List.drop_of_length_le (by omega), show L.length + 1 - L.length = 1 by omega, List.replicate_succ, List.append_assoc]; rfl
  · obtain ⟨j, rfl⟩ := Nat.exists_eq_add_of_le h1
    refine ⟨g, j, rfl, ?_, by simp, fun k hk _ => List.getElem?_append_left hk, .inr (by omega)⟩
    rw [hg, List.getElem?_append_right (by omega), Nat.add_sub_cancel_left, List.take_left' rfl, Nat.add_sub_cancel_left, List.append_assoc]; rfl
  · rintro s H' ⟨i', r', rfl, h1, h2, h3, h4⟩
    exact hk H' i' r' h1 h2 h3 h4
theorem rows_push0 {xn : XN} {dst : Option Tmp} {k : List KI} {nm : NB} {tm : List (Nat × SV)} {Q : XE → St → Prop} {H : List SB} {g : Nat} {b : SB} {x : SC} {room : SV × List SB} (hg : g = H.length + 1)
    (hk : ∀ H' i' r', H'[i']? = some (rowsB ([x] ++ List.replicate r' nilS)) → H.length ≤ H'.length → (∀ k, k < H.length → H'[k]? = H[k]?) → H.length ≤ i' → xn k ⟨nm, put dst (.c (.sl i' 0 1 (1 + r'))) tm, H'⟩ Q) :
    XApp xn 1 0 dst k nm tm room (fun c' => (.c (.sl g 0 1 c'), H ++ [b, ⟨true, 24, x :: List.replicate (c' - 1) nilS⟩])) Q := by
  refine xapp_grow (by omega) fun c' h1 _ => ?_
  obtain ⟨j, rfl⟩ := Nat.exists_eq_add_of_le h1
  refine hk _ g j ?_ (by simp) (fun k hk => List.getElem?_append_left hk) (by omega)
  rw [hg, List.getElem?_append_right (by omega), Nat.add_sub_cancel_left, Nat.add_sub_cancel_left]; rfl

namespace B5
/-- A book's lists of bytes, none or some. -/
def Bk (rx ry : SC) (h : List SB) (ib : Nat) (ls : List SC) (ws : List (List UInt8)) : Prop := (ls = [] ∧ ws = [] ∧ h[ib]? = some (bookB rx ry nilC nilC)) ∨ ∃ iL cL iW cW, Book rx ry h ib ls ws iL cL iW cW
theorem Bk.b {rx ry : SC} {h : List SB} {ib : Nat} {ls : List SC} {ws : List (List UInt8)} (B : Bk rx ry h ib ls ws) : ∃ a b, h[ib]? = some (bookB rx ry a b) := by
  rcases B with ⟨_, _, h⟩ | ⟨iL, cL, iW, cW, B⟩
  · exact ⟨_, _, h⟩
  · exact ⟨_, _, B.b⟩
theorem takeN_spec (rx ry : SC) (h : List SB) (ib ia : Nat) (ls : List SC) (ws : List (List UInt8)) (l sp : List UInt8) (oa : Bool) (c : Nat) (hl : l.length ≤ 140737488355328) (B : Bk rx ry h ib ls ws) (hn : ls.length ≤ 4398046511104) (ha : h[ia]? = some (wB oa (l ++ sp))) :
    Spec cx.P 15 [.c (.ptr ib 0), .c (.sl ia 0 l.length c)] h fun s h' => s = .tup [] ∧ Bk rx ry h' ib (ls ++ [.sl ia 0 l.length c]) (ws ++ [l]) ∧ KeepB tyR h h' := by
  have q : ∀ {k : Nat} {b b' : SB}, h[k]? = some b → h[k]? = some b' → b.ty = b'.ty := fun h1 h2 => by rw [h1] at h2; cases h2; exact Eq.refl _
  rcases B with ⟨rfl, rfl, hb⟩ | ⟨iL, cL, iW, cW, B⟩
  · refine (take0_spec rx ry h ib ia l sp oa c hl hb ha).mono fun s h' ⟨h1, iL, cL, iW, cW, h2, h3, _⟩ => ⟨h1, .inr ⟨iL, cL, iW, cW, h2⟩, h3.1, fun k b hk ht => ?_⟩
    rw [h3.2 k (lt_of hk) fun e => ?_]; exact hk
    subst e
    have ht' : tyR 47 := by rw [q hk hb] at ht; exact ht
    exact absurd ht' (by decide)
  · refine (take_spec rx ry h ib ia ls ws iL cL iW cW l sp oa c hl B hn ha).mono fun s h' ⟨h1, iL', cL', iW', cW', h2, h3, _⟩ => ⟨h1, .inr ⟨iL', cL', iW', cW', h2⟩, h3.1, fun k b hk ht => ?_⟩
    rw [h3.2 k (lt_of hk) fun e => ?_]; exact hk
    rcases e with e | e | e <;> subst e
    · have ht' : tyR 47 := by rw [q hk B.b] at ht; exact ht
      exact absurd ht' (by decide)
    · have ht' : tyR 25 := by rw [q hk B.L] at ht; exact ht
      exact absurd ht' (by decide)
    · have ht' : tyR 9 := by rw [q hk B.W] at ht; exact ht
      exact absurd ht' (by decide)
end B5

/-- The data of rows. -/
def dataE (rows : List RE) : List B5.OE := (rows.map fun x => x.es.map fun e => (⟨e.w, e.d, e.sp, e.o⟩ : B5.OE)).flatten
/-- A book of rows. -/
def B15 (h : List SB) (ib : Nat) (rows copies : List RE) : Prop := ∃ rx ry, B5.Bk rx ry h ib ((dataE rows).map B5.OE.sc) ((dataE rows).map B5.OE.l) ∧ RowS h rx rows ∧ RowS h ry copies ∧ copies.length = rows.length ∧ ∀ i j n m c d, rx = .sl i 0 n c → ry = .sl j 0 m d → i ≠ j

end Go.Proofs.Ytflccffjfnfoiaa.Sx
namespace Go.Proofs.Ytflccffjfnfoiaa.Sx
open Go
set_option linter.unusedSimpArgs false
set_option linter.unusedVariables false
set_option maxRecDepth 10000
set_option maxHeartbeats 4000000

/-- All windows but the book's own and its lists of rows. -/
abbrev tyK (t : Nat) : Prop := t ≠ 47 ∧ t ≠ 24
theorem tyK_O (t : Nat) (h : tyO t) : tyK t := by rcases h with rfl | rfl <;> exact ⟨by decide, by decide⟩
theorem B5.Bk.set {rx ry rx' ry' : SC} {h H : List SB} {ib : Nat} {ls : List SC} {ws : List (List UInt8)} {a b : SC} (B : B5.Bk rx ry h ib ls ws) (h0 : h[ib]? = some (B5.bookB rx ry a b)) (h1 : H[ib]? = some (B5.bookB rx' ry' a b)) (k : KeepB tyK h H) : B5.Bk rx' ry' H ib ls ws := by
  rcases B with ⟨q1, q2, hb⟩ | ⟨iL, cL, iW, cW, B⟩
  · rw [hb] at h0
    simp only [Option.some.injEq, SB.mk.injEq, List.cons.injEq, true_and, and_true] at h0
    obtain ⟨rfl, rfl⟩ := h0
    exact .inl ⟨q1, q2, h1⟩
  · have hb := B.b
    rw [hb] at h0
    simp only [Option.some.injEq, SB.mk.injEq, List.cons.injEq, true_and, and_true] at h0
    obtain ⟨rfl, rfl⟩ := h0
    exact .inr ⟨iL, cL, iW, cW, h1, k.2 _ _ B.L ⟨by show (25 : Nat) ≠ _; decide, by show (25 : Nat) ≠ _; decide⟩, k.2 _ _ B.W ⟨by show (9 : Nat) ≠ _; decide, by show (9 : Nat) ≠ _; decide⟩, B.n, B.cl, B.cw⟩
theorem keepK {h H1 : List SB} {ib iR : Nat} {x b0 : SB} (hb : h[ib]? = some b0) (hbt : b0.ty = 47) (hl : h.length ≤ H1.length) (hR : ∀ z, h[iR]? = some z → z.ty = 24) (k1 : ∀ k, k < h.length → k ≠ iR → H1[k]? = h[k]?) : KeepB tyK h (H1.set ib x) := by
  refine ⟨by simpa using hl, fun k b hk ht => ?_⟩
  have n1 : ib ≠ k := fun e => by subst e; rw [hb] at hk; cases hk; exact ht.1 hbt
  have n2 : k ≠ iR := fun e => by subst e; exact ht.2 (hR _ hk)
  rw [List.getElem?_set_ne n1, k1 k (lt_of hk) n2]; exact hk
theorem dataE_app (rows : List RE) (x : RE) : dataE (rows ++ [x]) = dataE rows ++ x.es.map fun e => (⟨e.w, e.d, e.sp, e.o⟩ : B5.OE) := by simp [dataE]

theorem take15_spec (h : List SB) (ib : Nat) (rows copies : List RE) (x : RE) (B : B15 h ib rows copies) (O : x.at_ h) (hx : ∀ e ∈ x.es, e.d.length ≤ 140737488351232 ∧ -9223372036854775808 ≤ e.k ∧ e.k < 9223372036854775808) (hn : x.es.length ≤ 1048576) (hr : rows.length ≤ 1048576) (hd : (dataE rows).length ≤ 1048576) :
    Spec cx.P 23 [.c (.ptr ib 0), .c x.sc] h fun s h' => s = .tup [] ∧ ∃ y : RE, B15 h' ib (rows ++ [x]) (copies ++ [y]) ∧ y.at_ h' ∧ y.es.map PE.pi = x.es.map PE.pi ∧ KeepB tyO h h' := by
  obtain ⟨rx, ry, Bb, R1, R2, hlen, hne⟩ := B
  obtain ⟨a, b, hb⟩ := Bb.b
  have lb := lt_of hb
  refine spec_of_X cx_ok Try.func23 rfl (by kernel_rfl) (by kernel_rfl) (Nat.le_of_ble_eq_true rfl) 400 6 ?_
  simp (maxSteps := 4000000) only [Try.results23, XX, Nat.reduceBEq, Nat.reduceLT, Nat.reduceAdd, Nat.reduceMul, Nat.reduceSub, Nat.reduceLeDiff, Nat.reduceEqDiff, Int.reduceToNat, Int.reduceLT, Int.reduceLE, Int.reduceAdd, Int.reduceSub, Int.reduceEq, reduceIte, Nat.reduceBNe, Int.reducePow, Nat.reducePow, Int.reduceMul, Int.reduceNeg, isB_i, isB_b, isB_y, isBv_i, isBv_b, eqCells_t, TT]
  rcases R1 with ⟨rfl, rfl⟩ | ⟨r0, iR, r, rfl, hR⟩
  · obtain rfl : copies = [] := List.eq_nil_of_length_eq_zero hlen
    obtain rfl : ry = nilS := by
      rcases R2 with ⟨_, h⟩ | ⟨r1, _⟩
      · exact h
      · simp at r1
    simp (maxSteps := 4000000) only [Try.results23, hb, lb, List.append_assoc, List.getElem?_append_left, List.getElem?_append_right, List.length_append, List.length_set, List.set_append_left, gset, List.getElem?_set_ne, Nat.add_sub_cancel_left, Nat.sub_self, Nat.le_refl, Nat.le_add_right, List.replicate_one, List.flatten_cons, List.flatten_nil, rep_flat, XX, Nat.reduceBEq, Nat.reduceLT, Nat.reduceAdd, Nat.reduceMul, Nat.reduceSub, Nat.reduceLeDiff, Nat.reduceEqDiff, Int.reduceToNat, Int.reduceLT, Int.reduceLE, Int.reduceAdd, Int.reduceSub, Int.reduceEq, reduceIte, Nat.reduceBNe, Int.reducePow, Nat.reducePow, Int.reduceMul, Int.reduceNeg, isB_i, isB_b, isB_y, isBv_i, isBv_b, eqCells_t, TT]
    refine ⟨by unfold maxLen; omega, rows_push0 rfl fun H1 iR1 rR hR1 l1 k1 g1 => ?_⟩
    have hb1 : H1[ib]? = some (B5.bookB nilS nilS a b) := (k1 ib lb).trans hb
    have kk : KeepB tyK h (H1.set ib (B5.bookB (.sl iR1 0 1 (1 + rR)) nilS a b)) := keepK (iR := h.length) hb rfl l1 (fun z hz => absurd (lt_of hz) (by omega)) fun k hk _ => k1 k hk
    have nR : iR1 ≠ ib := by omega
    have lb1 := lt_of hb1
    simp (maxSteps := 4000000) only [Try.results23, hb1, lb1, List.append_assoc, List.getElem?_append_left, List.getElem?_append_right, List.length_append, List.length_set, List.set_append_left, gset, List.getElem?_set_ne, Nat.add_sub_cancel_left, Nat.sub_self, Nat.le_refl, Nat.le_add_right, List.replicate_one, List.flatten_cons, List.flatten_nil, rep_flat, XX, Nat.reduceBEq, Nat.reduceLT, Nat.reduceAdd, Nat.reduceMul, Nat.reduceSub, Nat.reduceLeDiff, Nat.reduceEqDiff, Int.reduceToNat, Int.reduceLT, Int.reduceLE, Int.reduceAdd, Int.reduceSub, Int.reduceEq, reduceIte, Nat.reduceBNe, Int.reducePow, Nat.reducePow, Int.reduceMul, Int.reduceNeg, isB_i, isB_b, isB_y, isBv_i, isBv_b, eqCells_t, TT]
    refine gen_call (fun H => H[ib]? = some (B5.bookB (.sl iR1 0 1 (1 + rR)) nilS a b) ∧ H[iR1]? = some (rowsB ([x.sc] ++ List.replicate rR nilS)) ∧ KeepB tyK h H) ⟨by rw [gset, hb1]; rfl, by rw [List.getElem?_set_ne (Ne.symm nR)]; exact hR1, kk⟩ ?_
    clear hb1 hR1 kk k1 l1 lb1 H1
    rintro H ⟨hb1, hR1, K1⟩
    have O1 := O.keepB tyK_O K1
    refine call_row [.c (roO (x.es.map PE.oi) [] (x.es.length + x.r))] (copied_spec (x.es.map PE.oi) [] (x.es.length + x.r) (O1.oks hx) (by rw [List.length_map]; omega)) ⟨O1.fz, trivial⟩ ?_
    rintro t o es r' O2 hw hpi
    have lbH := lt_of hb1
    have lRH := lt_of hR1
    refine gen_hp (fun G => G[ib]? = some (B5.bookB (.sl iR1 0 1 (1 + rR)) nilS a b) ∧ G[iR1]? = some (rowsB ([x.sc] ++ List.replicate rR nilS)) ∧ KeepB tyK h G ∧ Opts G H.length o es r' ∧ H.length < G.length) ⟨by rw [List.getElem?_append_left lbH]; exact hb1, by rw [List.getElem?_append_left lRH]; exact hR1, K1.trans (KeepB.app t), O2, lt_of O2.row⟩ ?_
    clear O2 hw
    rintro G ⟨hb2, hR2, K2, O2, lG⟩
    have lb2 := lt_of hb2
    simp (maxSteps := 4000000) only [Try.results23, hb2, lb2, List.append_assoc, List.getElem?_append_left, List.getElem?_append_right, List.length_append, List.length_set, List.set_append_left, gset, List.getElem?_set_ne, Nat.add_sub_cancel_left, Nat.sub_self, Nat.le_refl, Nat.le_add_right, List.replicate_one, List.flatten_cons, List.flatten_nil, rep_flat, XX, Nat.reduceBEq, Nat.reduceLT, Nat.reduceAdd, Nat.reduceMul, Nat.reduceSub, Nat.reduceLeDiff, Nat.reduceEqDiff, Int.reduceToNat, Int.reduceLT, Int.reduceLE, Int.reduceAdd, Int.reduceSub, Int.reduceEq, reduceIte, Nat.reduceBNe, Int.reducePow, Nat.reducePow, Int.reduceMul, Int.reduceNeg, isB_i, isB_b, isB_y, isBv_i, isBv_b, eqCells_t, TT]
    refine ⟨by unfold maxLen; omega, rows_push0 rfl fun H2 iY1 rY hY2 l2 k2 g2 => ?_⟩
    have hb3 : H2[ib]? = some (B5.bookB (.sl iR1 0 1 (1 + rR)) nilS a b) := (k2 ib lb2).trans hb2
    have lb3 := lt_of hb3
    have lR2 := lt_of hR2
    have kk : KeepB tyK h (H2.set ib (B5.bookB (.sl iR1 0 1 (1 + rR)) (.sl iY1 0 1 (1 + rY)) a b)) := K2.trans (keepK (iR := G.length) hb2 rfl l2 (fun z hz => absurd (lt_of hz) (by omega)) fun k hk _ => k2 k hk)
    have nY : iY1 ≠ ib := by omega
    have nR2 : iR1 ≠ ib := by omega
    have nRY : iR1 ≠ iY1 := by omega
    have O3 := O2.keepB tyK_O (keepK (x := B5.bookB (.sl iR1 0 1 (1 + rR)) (.sl iY1 0 1 (1 + rY)) a b) (iR := G.length) hb2 rfl l2 (fun z hz => absurd (lt_of hz) (by omega)) fun k hk _ => k2 k hk)
    have hR3 : H2[iR1]? = some (rowsB ([x.sc] ++ List.replicate rR nilS)) := (k2 iR1 lR2).trans hR2
    simp (maxSteps := 4000000) only [Try.results23, hb3, lb3, List.append_assoc, List.getElem?_append_left, List.getElem?_append_right, List.length_append, List.length_set, List.set_append_left, gset, List.getElem?_set_ne, Nat.add_sub_cancel_left, Nat.sub_self, Nat.le_refl, Nat.le_add_right, List.replicate_one, List.flatten_cons, List.flatten_nil, rep_flat, XX, Nat.reduceBEq, Nat.reduceLT, Nat.reduceAdd, Nat.reduceMul, Nat.reduceSub, Nat.reduceLeDiff, Nat.reduceEqDiff, Int.reduceToNat, Int.reduceLT, Int.reduceLE, Int.reduceAdd, Int.reduceSub, Int.reduceEq, reduceIte, Nat.reduceBNe, Int.reducePow, Nat.reducePow, Int.reduceMul, Int.reduceNeg, isB_i, isB_b, isB_y, isBv_i, isBv_b, eqCells_t, TT]
    obtain ⟨Z, hZ⟩ : ∃ Z, Z = H2.set ib (B5.bookB (.sl iR1 0 1 (1 + rR)) (.sl iY1 0 1 (1 + rY)) a b) := ⟨_, rfl⟩
    have zb : Z[ib]? = some (B5.bookB (.sl iR1 0 1 (1 + rR)) (.sl iY1 0 1 (1 + rY)) a b) := by rw [hZ, gset, hb3]; rfl
    have zR : RowS Z (.sl iR1 0 1 (1 + rR)) ([] ++ [x]) := .inr ⟨by simp, iR1, rR, rfl, by rw [hZ, List.getElem?_set_ne (Ne.symm nR2)]; exact hR3⟩
    have zY : RowS Z (.sl iY1 0 1 (1 + rY)) ([] ++ [⟨H.length, o, es, r'⟩]) := .inr ⟨by simp, iY1, rY, rfl, by rw [hZ, List.getElem?_set_ne (Ne.symm nY)]; exact hY2⟩
    rw [← hZ] at kk O3 ⊢
    have zne : ∀ i j n m c d, (SC.sl iR1 0 1 (1 + rR)) = .sl i 0 n c → (SC.sl iY1 0 1 (1 + rY)) = .sl j 0 m d → i ≠ j := fun i j n m c d e1 e2 => by cases e1; cases e2; exact nRY
    generalize (SC.sl iR1 0 1 (1 + rR)) = rx' at *
    generalize (SC.sl iY1 0 1 (1 + rY)) = ry' at *
    have zl : ([] ++ [(⟨H.length, o, es, r'⟩ : RE)]).length = ([] ++ [x]).length := by simp
    have zB : B5.Bk rx' ry' Z ib ((dataE ([] : List RE)).map B5.OE.sc) ((dataE ([] : List RE)).map B5.OE.l) := Bb.set hb zb kk
    have Ox := O.keepB tyK_O kk
    have hpi' : es.map PE.pi = x.es.map PE.pi := by rw [hpi, piL, List.map_map]; rfl
    have Orow := Ox.row
    refine loop_any cx_ok 400 (fun μ σ => ∃ (i : Nat) (F : List SB), μ = x.es.length - i ∧ i ≤ x.es.length ∧ B5.Bk rx' ry' F ib ((dataE ([] : List RE) ++ (x.es.take i).map fun e => (⟨e.w, e.d, e.sp, e.o⟩ : B5.OE)).map B5.OE.sc) ((dataE ([] : List RE) ++ (x.es.take i).map fun e => (⟨e.w, e.d, e.sp, e.o⟩ : B5.OE)).map B5.OE.l) ∧ KeepB tyR Z F ∧
        σ = ⟨⟨6, h.length⟩, [(0, .c (.ptr ib 0)), (1, .c x.sc), (5, .c (i64 i))], F⟩) x.es.length
      ⟨⟨6, h.length⟩, [(0, .c (.ptr ib 0)), (1, .c x.sc), (5, .c (i64 (0 : Nat)))], Z⟩ ⟨0, Z, rfl, Nat.zero_le _, by simpa using zB, KeepB.rfl, rfl⟩ (.inl ⟨rfl, rfl, rfl, rfl, rfl, trivial⟩) ?_
    rintro μ σ ⟨i, F, rfl, hi, BF, KF, rfl⟩
    have OF := Ox.keepB (fun t h => .inl h) KF
    have hrow := OF.row
    have lrow := lt_of hrow
    obtain ⟨a', b', hbF⟩ := BF.b
    have lbF := lt_of hbF
    by_cases hlt : i < x.es.length
    · have hdd : decide ((i : Int) < (x.es.length : Int)) = true := by simp only [decide_eq_true_eq]; omega
      have e3 : IntKind.i64.wrap ((i : Int) + 1) = ((i + 1 : Nat) : Int) := by rw [w64] <;> omega
      obtain ⟨e, he⟩ : ∃ e, x.es[i]? = some e := ⟨_, List.getElem?_eq_getElem hlt⟩
      have gk := (row_get (r := x.r) he).2
      have hew := OF.at_ i e he
      have hde := hx e (List.mem_of_getElem? he)
      simp (maxSteps := 4000000) only [Try.results23, hdd, hrow, lrow, hbF, lbF, XX, Nat.reduceBEq, Nat.reduceLT, Nat.reduceAdd, Nat.reduceMul, Nat.reduceSub, Nat.reduceLeDiff, Nat.reduceEqDiff, Int.reduceToNat, Int.reduceLT, Int.reduceLE, Int.reduceAdd, Int.reduceSub, Int.reduceEq, reduceIte, Nat.reduceBNe, Int.reducePow, Nat.reducePow, Int.reduceMul, Int.reduceNeg, isB_i, isB_b, isB_y, isBv_i, isBv_b, eqCells_t, TT]
      refine draw_of cx_ok (by kernel_rfl) 400 [] [(0, true), (1, true), (2, true), (3, true), (4, true), (5, true), (6, true), (7, false), (8, false)] (by kernel_rfl) (by first | exact hok | simp [*]) ?_
      simp (maxSteps := 4000000) only [Try.results23, hrow, lrow, gk, hbF, lbF, maskL_nil, unL_nil, List.append_assoc, List.getElem?_append_left, List.getElem?_append_right, List.length_append, List.length_set, List.set_append_left, gset, List.getElem?_set_ne, Nat.add_sub_cancel_left, Nat.sub_self, Nat.le_refl, Nat.le_add_right, List.replicate_one, List.flatten_cons, List.flatten_nil, rep_flat, XX, Nat.reduceBEq, Nat.reduceLT, Nat.reduceAdd, Nat.reduceMul, Nat.reduceSub, Nat.reduceLeDiff, Nat.reduceEqDiff, Int.reduceToNat, Int.reduceLT, Int.reduceLE, Int.reduceAdd, Int.reduceSub, Int.reduceEq, reduceIte, Nat.reduceBNe, Int.reducePow, Nat.reducePow, Int.reduceMul, Int.reduceNeg, isB_i, isB_b, isB_y, isBv_i, isBv_b, eqCells_t, TT]
      refine ⟨by omega, by rw [flatc_len, rep_len (sz := 2) rfl]; omega, ?_⟩
      refine call_is (B5.takeN_spec rx' ry' F ib e.w _ _ e.d e.sp e.o _ (by omega) BF (by rw [List.length_map, List.length_append, List.length_map, List.length_take]; omega) hew.1) ?_
      rintro _ F' ⟨rfl, BF', KF'⟩
      have tk : ((x.es.take (i + 1)).map fun e => (⟨e.w, e.d, e.sp, e.o⟩ : B5.OE)) = ((x.es.take i).map fun e => (⟨e.w, e.d, e.sp, e.o⟩ : B5.OE)) ++ [⟨e.w, e.d, e.sp, e.o⟩] := by rw [List.take_add_one, he, List.map_append]; rfl
      simp (maxSteps := 4000000) only [Try.results23, unL_nil, e3, List.append_assoc, List.getElem?_append_left, List.getElem?_append_right, List.length_append, List.length_set, List.set_append_left, gset, List.getElem?_set_ne, Nat.add_sub_cancel_left, Nat.sub_self, Nat.le_refl, Nat.le_add_right, List.replicate_one, List.flatten_cons, List.flatten_nil, rep_flat, XX, Nat.reduceBEq, Nat.reduceLT, Nat.reduceAdd, Nat.reduceMul, Nat.reduceSub, Nat.reduceLeDiff, Nat.reduceEqDiff, Int.reduceToNat, Int.reduceLT, Int.reduceLE, Int.reduceAdd, Int.reduceSub, Int.reduceEq, reduceIte, Nat.reduceBNe, Int.reducePow, Nat.reducePow, Int.reduceMul, Int.reduceNeg, isB_i, isB_b, isB_y, isBv_i, isBv_b, eqCells_t, TT]
      exact ⟨x.es.length - (i + 1), by omega, _, ⟨i + 1, F', rfl, by omega, by rw [tk, ← List.append_assoc, List.map_append, List.map_append (f := B5.OE.l)]; exact BF', KF.trans KF', rfl⟩, .inl ⟨rfl, rfl, rfl, rfl, rfl, trivial⟩⟩
    obtain rfl : i = x.es.length := by omega
    have hdd : decide ((x.es.length : Int) < (x.es.length : Int)) = false := by simp
    simp (maxSteps := 4000000) only [Try.results23, hdd, XX, Nat.reduceBEq, Nat.reduceLT, Nat.reduceAdd, Nat.reduceMul, Nat.reduceSub, Nat.reduceLeDiff, Nat.reduceEqDiff, Int.reduceToNat, Int.reduceLT, Int.reduceLE, Int.reduceAdd, Int.reduceSub, Int.reduceEq, reduceIte, Nat.reduceBNe, Int.reducePow, Nat.reducePow, Int.reduceMul, Int.reduceNeg, isB_i, isB_b, isB_y, isBv_i, isBv_b, eqCells_t, TT]
    rw [List.take_length] at BF
    exact ⟨⟨H.length, o, es, r'⟩, ⟨rx', ry', by have := BF; rw [← dataE_app] at this; exact this, zR.keepB (.inr rfl) KF, zY.keepB (.inr rfl) KF, zl, zne⟩, O3.keepB (fun t h => .inl h) KF, hpi', kk.le tyK_O |>.trans (KF.le fun t h => .inl h)⟩
  · obtain ⟨iY, rYo, rfl, hY⟩ : ∃ i r, ry = .sl i 0 copies.length (copies.length + r) ∧ h[i]? = some (rowsB (copies.map RE.sc ++ List.replicate r nilS)) := by
      rcases R2 with ⟨e0, _⟩ | ⟨_, h⟩
      · exact absurd hlen (by rw [e0]; simp; omega)
      · exact h
    have neRY : iR ≠ iY := hne _ _ _ _ _ _ rfl rfl
    have lR := lt_of hR
    have lY := lt_of hY
    have lmR : (rows.map RE.sc).length = rows.length := List.length_map ..
    have lmY : (copies.map RE.sc).length = rows.length := by rw [List.length_map, hlen]
    have nbR : ib ≠ iR := ne_of_ty hb hR (fun h => absurd h (by decide : (47 : Nat) ≠ 24))
    have nbY : ib ≠ iY := ne_of_ty hb hY (fun h => absurd h (by decide : (47 : Nat) ≠ 24))
    have hb0 : h[ib]? = some (B5.bookB (.sl iR 0 (rows.map RE.sc).length ((rows.map RE.sc).length + r)) (.sl iY 0 (copies.map RE.sc).length ((copies.map RE.sc).length + rYo)) a b) := by rw [lmR, lmY]; rw [hlen] at hb; exact hb
    generalize hLR : rows.map RE.sc = LR at *
    generalize hLY : copies.map RE.sc = LY at *
    simp (maxSteps := 4000000) only [Try.results23, hb0, lb, hR, lR, List.append_assoc, List.getElem?_append_left, List.getElem?_append_right, List.length_append, List.length_set, List.set_append_left, gset, List.getElem?_set_ne, Nat.add_sub_cancel_left, Nat.sub_self, Nat.le_refl, Nat.le_add_right, List.replicate_one, List.flatten_cons, List.flatten_nil, rep_flat, XX, Nat.reduceBEq, Nat.reduceLT, Nat.reduceAdd, Nat.reduceMul, Nat.reduceSub, Nat.reduceLeDiff, Nat.reduceEqDiff, Int.reduceToNat, Int.reduceLT, Int.reduceLE, Int.reduceAdd, Int.reduceSub, Int.reduceEq, reduceIte, Nat.reduceBNe, Int.reducePow, Nat.reducePow, Int.reduceMul, Int.reduceNeg, isB_i, isB_b, isB_y, isBv_i, isBv_b, eqCells_t, TT]
    refine ⟨⟨by omega, by unfold maxLen; omega, fun h => by simp; omega⟩, rows_push hR rfl fun H1 iR1 rR hR1 l1 k1 g1 => ?_⟩
    have hb1 : H1[ib]? = some (B5.bookB (.sl iR 0 LR.length (LR.length + r)) (.sl iY 0 LY.length (LY.length + rYo)) a b) := (k1 ib lb nbR).trans hb0
    have kk : KeepB tyK h (H1.set ib (B5.bookB (.sl iR1 0 (LR.length + 1) (LR.length + 1 + rR)) (.sl iY 0 LY.length (LY.length + rYo)) a b)) := keepK (iR := iR) hb rfl l1 (fun z hz => by rw [hR] at hz; cases hz; rfl) k1
    have nR : iR1 ≠ ib := by
      rcases g1 with g | g
      · rw [g]; exact nbR.symm
      · omega
    have hY1 : H1[iY]? = some (rowsB (LY ++ List.replicate rYo nilS)) := (k1 iY lY neRY.symm).trans hY
    have nRY1 : iR1 ≠ iY := by
      rcases g1 with g | g
      · rw [g]; exact neRY
      · omega
    have lb1 := lt_of hb1
    simp (maxSteps := 4000000) only [Try.results23, hb1, lb1, List.append_assoc, List.getElem?_append_left, List.getElem?_append_right, List.length_append, List.length_set, List.set_append_left, gset, List.getElem?_set_ne, Nat.add_sub_cancel_left, Nat.sub_self, Nat.le_refl, Nat.le_add_right, List.replicate_one, List.flatten_cons, List.flatten_nil, rep_flat, XX, Nat.reduceBEq, Nat.reduceLT, Nat.reduceAdd, Nat.reduceMul, Nat.reduceSub, Nat.reduceLeDiff, Nat.reduceEqDiff, Int.reduceToNat, Int.reduceLT, Int.reduceLE, Int.reduceAdd, Int.reduceSub, Int.reduceEq, reduceIte, Nat.reduceBNe, Int.reducePow, Nat.reducePow, Int.reduceMul, Int.reduceNeg, isB_i, isB_b, isB_y, isBv_i, isBv_b, eqCells_t, TT]
    refine gen_call (fun H => H[ib]? = some (B5.bookB (.sl iR1 0 (LR.length + 1) (LR.length + 1 + rR)) (.sl iY 0 LY.length (LY.length + rYo)) a b) ∧ H[iR1]? = some (rowsB (LR ++ [x.sc] ++ List.replicate rR nilS)) ∧ H[iY]? = some (rowsB (LY ++ List.replicate rYo nilS)) ∧ KeepB tyK h H) ⟨by rw [gset, hb1]; rfl, by rw [List.getElem?_set_ne (Ne.symm nR)]; exact hR1, by rw [List.getElem?_set_ne nbY]; exact hY1, kk⟩ ?_
    clear hb1 hR1 kk k1 l1 lb1 hY1 g1 H1
    rintro H ⟨hb1, hR1, hY1, K1⟩
    have O1 := O.keepB tyK_O K1
    refine call_row [.c (roO (x.es.map PE.oi) [] (x.es.length + x.r))] (copied_spec (x.es.map PE.oi) [] (x.es.length + x.r) (O1.oks hx) (by rw [List.length_map]; omega)) ⟨O1.fz, trivial⟩ ?_
    rintro t o es r' O2 hw hpi
    have lbH := lt_of hb1
    have lRH := lt_of hR1
    refine gen_hp (fun G => G[ib]? = some (B5.bookB (.sl iR1 0 (LR.length + 1) (LR.length + 1 + rR)) (.sl iY 0 LY.length (LY.length + rYo)) a b) ∧ G[iR1]? = some (rowsB (LR ++ [x.sc] ++ List.replicate rR nilS)) ∧ G[iY]? = some (rowsB (LY ++ List.replicate rYo nilS)) ∧ KeepB tyK h G ∧ Opts G H.length o es r' ∧ H.length < G.length) ⟨by rw [List.getElem?_append_left lbH]; exact hb1, by rw [List.getElem?_append_left lRH]; exact hR1, by rw [List.getElem?_append_left (lt_of hY1)]; exact hY1, K1.trans (KeepB.app t), O2, lt_of O2.row⟩ ?_
    clear O2 hw
    rintro G ⟨hb2, hR2, hY2', K2, O2, lG⟩
    have lb2 := lt_of hb2
    have lY2 := lt_of hY2'
    simp (maxSteps := 4000000) only [Try.results23, hb2, lb2, hY2', lY2, List.append_assoc, List.getElem?_append_left, List.getElem?_append_right, List.length_append, List.length_set, List.set_append_left, gset, List.getElem?_set_ne, Nat.add_sub_cancel_left, Nat.sub_self, Nat.le_refl, Nat.le_add_right, List.replicate_one, List.flatten_cons, List.flatten_nil, rep_flat, XX, Nat.reduceBEq, Nat.reduceLT, Nat.reduceAdd, Nat.reduceMul, Nat.reduceSub, Nat.reduceLeDiff, Nat.reduceEqDiff, Int.reduceToNat, Int.reduceLT, Int.reduceLE, Int.reduceAdd, Int.reduceSub, Int.reduceEq, reduceIte, Nat.reduceBNe, Int.reducePow, Nat.reducePow, Int.reduceMul, Int.reduceNeg, isB_i, isB_b, isB_y, isBv_i, isBv_b, eqCells_t, TT]
    refine ⟨⟨by omega, by unfold maxLen; omega, fun h => by simp; omega⟩, rows_push hY2' rfl fun H2 iY1 rY hY2 l2 k2 g2 => ?_⟩
    have hb3 : H2[ib]? = some (B5.bookB (.sl iR1 0 (LR.length + 1) (LR.length + 1 + rR)) (.sl iY 0 LY.length (LY.length + rYo)) a b) := (k2 ib lb2 nbY).trans hb2
    have lb3 := lt_of hb3
    have lR2 := lt_of hR2
    have hYt : ∀ z, G[iY]? = some z → z.ty = 24 := fun z hz => by rw [hY2'] at hz; cases hz; rfl
    have kk : KeepB tyK h (H2.set ib (B5.bookB (.sl iR1 0 (LR.length + 1) (LR.length + 1 + rR)) (.sl iY1 0 (LY.length + 1) (LY.length + 1 + rY)) a b)) := K2.trans (keepK (iR := iY) hb2 rfl l2 hYt k2)
    have nY : iY1 ≠ ib := by
      rcases g2 with g | g
      · rw [g]; exact nbY.symm
      · omega
    have nRY : iR1 ≠ iY1 := by
      rcases g2 with g | g
      · rw [g]; exact nRY1
      · omega
    have O3 := O2.keepB tyK_O (keepK (x := B5.bookB (.sl iR1 0 (LR.length + 1) (LR.length + 1 + rR)) (.sl iY1 0 (LY.length + 1) (LY.length + 1 + rY)) a b) (iR := iY) hb2 rfl l2 hYt k2)
    have hR3 : H2[iR1]? = some (rowsB (LR ++ [x.sc] ++ List.replicate rR nilS)) := (k2 iR1 lR2 nRY1).trans hR2
    simp (maxSteps := 4000000) only [Try.results23, hb3, lb3, List.append_assoc, List.getElem?_append_left, List.getElem?_append_right, List.length_append, List.length_set, List.set_append_left, gset, List.getElem?_set_ne, Nat.add_sub_cancel_left, Nat.sub_self, Nat.le_refl, Nat.le_add_right, List.replicate_one, List.flatten_cons, List.flatten_nil, rep_flat, XX, Nat.reduceBEq, Nat.reduceLT, Nat.reduceAdd, Nat.reduceMul, Nat.reduceSub, Nat.reduceLeDiff, Nat.reduceEqDiff, Int.reduceToNat, Int.reduceLT, Int.reduceLE, Int.reduceAdd, Int.reduceSub, Int.reduceEq, reduceIte, Nat.reduceBNe, Int.reducePow, Nat.reducePow, Int.reduceMul, Int.reduceNeg, isB_i, isB_b, isB_y, isBv_i, isBv_b, eqCells_t, TT]
    obtain ⟨Z, hZ⟩ : ∃ Z, Z = H2.set ib (B5.bookB (.sl iR1 0 (LR.length + 1) (LR.length + 1 + rR)) (.sl iY1 0 (LY.length + 1) (LY.length + 1 + rY)) a b) := ⟨_, rfl⟩
    have zb : Z[ib]? = some (B5.bookB (.sl iR1 0 (LR.length + 1) (LR.length + 1 + rR)) (.sl iY1 0 (LY.length + 1) (LY.length + 1 + rY)) a b) := by rw [hZ, gset, hb3]; rfl
    have zR : RowS Z (.sl iR1 0 (LR.length + 1) (LR.length + 1 + rR)) (rows ++ [x]) := .inr ⟨by simp, iR1, rR, by rw [List.length_append, List.length_singleton, lmR], by rw [hZ, List.getElem?_set_ne (Ne.symm nR), List.map_append, hLR]; exact hR3⟩
    have zY : RowS Z (.sl iY1 0 (LY.length + 1) (LY.length + 1 + rY)) (copies ++ [⟨H.length, o, es, r'⟩]) := .inr ⟨by simp, iY1, rY, by rw [List.length_append, List.length_singleton, lmY, hlen], by rw [hZ, List.getElem?_set_ne (Ne.symm nY), List.map_append, hLY]; exact hY2⟩
    rw [← hZ] at kk O3 ⊢
    have zne : ∀ i j n m c d, (SC.sl iR1 0 (LR.length + 1) (LR.length + 1 + rR)) = .sl i 0 n c → (SC.sl iY1 0 (LY.length + 1) (LY.length + 1 + rY)) = .sl j 0 m d → i ≠ j := fun i j n m c d e1 e2 => by cases e1; cases e2; exact nRY
    generalize (SC.sl iR1 0 (LR.length + 1) (LR.length + 1 + rR)) = rx' at *
    generalize (SC.sl iY1 0 (LY.length + 1) (LY.length + 1 + rY)) = ry' at *
    have zl : (copies ++ [(⟨H.length, o, es, r'⟩ : RE)]).length = (rows ++ [x]).length := by simp [hlen]
    have zB : B5.Bk rx' ry' Z ib ((dataE rows).map B5.OE.sc) ((dataE rows).map B5.OE.l) := Bb.set hb zb kk
    have Ox := O.keepB tyK_O kk
    have hpi' : es.map PE.pi = x.es.map PE.pi := by rw [hpi, piL, List.map_map]; rfl
    have Orow := Ox.row
    refine loop_any cx_ok 400 (fun μ σ => ∃ (i : Nat) (F : List SB), μ = x.es.length - i ∧ i ≤ x.es.length ∧ B5.Bk rx' ry' F ib ((dataE rows ++ (x.es.take i).map fun e => (⟨e.w, e.d, e.sp, e.o⟩ : B5.OE)).map B5.OE.sc) ((dataE rows ++ (x.es.take i).map fun e => (⟨e.w, e.d, e.sp, e.o⟩ : B5.OE)).map B5.OE.l) ∧ KeepB tyR Z F ∧
        σ = ⟨⟨6, h.length⟩, [(0, .c (.ptr ib 0)), (1, .c x.sc), (5, .c (i64 i))], F⟩) x.es.length
      ⟨⟨6, h.length⟩, [(0, .c (.ptr ib 0)), (1, .c x.sc), (5, .c (i64 (0 : Nat)))], Z⟩ ⟨0, Z, rfl, Nat.zero_le _, by simpa using zB, KeepB.rfl, rfl⟩ (.inl ⟨rfl, rfl, rfl, rfl, rfl, trivial⟩) ?_
    rintro μ σ ⟨i, F, rfl, hi, BF, KF, rfl⟩
    have OF := Ox.keepB (fun t h => .inl h) KF
    have hrow := OF.row
    have lrow := lt_of hrow
    obtain ⟨a', b', hbF⟩ := BF.b
    have lbF := lt_of hbF
    by_cases hlt : i < x.es.length
    · have hdd : decide ((i : Int) < (x.es.length : Int)) = true := by simp only [decide_eq_true_eq]; omega
      have e3 : IntKind.i64.wrap ((i : Int) + 1) = ((i + 1 : Nat) : Int) := by rw [w64] <;> omega
      obtain ⟨e, he⟩ : ∃ e, x.es[i]? = some e := ⟨_, List.getElem?_eq_getElem hlt⟩
      have gk := (row_get (r := x.r) he).2
      have hew := OF.at_ i e he
      have hde := hx e (List.mem_of_getElem? he)
      simp (maxSteps := 4000000) only [Try.results23, hdd, hrow, lrow, hbF, lbF, XX, Nat.reduceBEq, Nat.reduceLT, Nat.reduceAdd, Nat.reduceMul, Nat.reduceSub, Nat.reduceLeDiff, Nat.reduceEqDiff, Int.reduceToNat, Int.reduceLT, Int.reduceLE, Int.reduceAdd, Int.reduceSub, Int.reduceEq, reduceIte, Nat.reduceBNe, Int.reducePow, Nat.reducePow, Int.reduceMul, Int.reduceNeg, isB_i, isB_b, isB_y, isBv_i, isBv_b, eqCells_t, TT]
      refine draw_of cx_ok (by kernel_rfl) 400 [] [(0, true), (1, true), (2, true), (3, true), (4, true), (5, true), (6, true), (7, false), (8, false)] (by kernel_rfl) (by first | exact hok | simp [*]) ?_
      simp (maxSteps := 4000000) only [Try.results23, hrow, lrow, gk, hbF, lbF, maskL_nil, unL_nil, List.append_assoc, List.getElem?_append_left, List.getElem?_append_right, List.length_append, List.length_set, List.set_append_left, gset, List.getElem?_set_ne, Nat.add_sub_cancel_left, Nat.sub_self, Nat.le_refl, Nat.le_add_right, List.replicate_one, List.flatten_cons, List.flatten_nil, rep_flat, XX, Nat.reduceBEq, Nat.reduceLT, Nat.reduceAdd, Nat.reduceMul, Nat.reduceSub, Nat.reduceLeDiff, Nat.reduceEqDiff, Int.reduceToNat, Int.reduceLT, Int.reduceLE, Int.reduceAdd, Int.reduceSub, Int.reduceEq, reduceIte, Nat.reduceBNe, Int.reducePow, Nat.reducePow, Int.reduceMul, Int.reduceNeg, isB_i, isB_b, isB_y, isBv_i, isBv_b, eqCells_t, TT]
      refine ⟨by omega, by rw [flatc_len, rep_len (sz := 2) rfl]; omega, ?_⟩
      refine call_is (B5.takeN_spec rx' ry' F ib e.w _ _ e.d e.sp e.o _ (by omega) BF (by rw [List.length_map, List.length_append, List.length_map, List.length_take]; omega) hew.1) ?_
      rintro _ F' ⟨rfl, BF', KF'⟩
      have tk : ((x.es.take (i + 1)).map fun e => (⟨e.w, e.d, e.sp, e.o⟩ : B5.OE)) = ((x.es.take i).map fun e => (⟨e.w, e.d, e.sp, e.o⟩ : B5.OE)) ++ [⟨e.w, e.d, e.sp, e.o⟩] := by rw [List.take_add_one, he, List.map_append]; rfl
      simp (maxSteps := 4000000) only [Try.results23, unL_nil, e3, List.append_assoc, List.getElem?_append_left, List.getElem?_append_right, List.length_append, List.length_set, List.set_append_left, gset, List.getElem?_set_ne, Nat.add_sub_cancel_left, Nat.sub_self, Nat.le_refl, Nat.le_add_right, List.replicate_one, List.flatten_cons, List.flatten_nil, rep_flat, XX, Nat.reduceBEq, Nat.reduceLT, Nat.reduceAdd, Nat.reduceMul, Nat.reduceSub, Nat.reduceLeDiff, Nat.reduceEqDiff, Int.reduceToNat, Int.reduceLT, Int.reduceLE, Int.reduceAdd, Int.reduceSub, Int.reduceEq, reduceIte, Nat.reduceBNe, Int.reducePow, Nat.reducePow, Int.reduceMul, Int.reduceNeg, isB_i, isB_b, isB_y, isBv_i, isBv_b, eqCells_t, TT]
      exact ⟨x.es.length - (i + 1), by omega, _, ⟨i + 1, F', rfl, by omega, by rw [tk, ← List.append_assoc, List.map_append, List.map_append (f := B5.OE.l)]; exact BF', KF.trans KF', rfl⟩, .inl ⟨rfl, rfl, rfl, rfl, rfl, trivial⟩⟩
    obtain rfl : i = x.es.length := by omega
    have hdd : decide ((x.es.length : Int) < (x.es.length : Int)) = false := by simp
    simp (maxSteps := 4000000) only [Try.results23, hdd, XX, Nat.reduceBEq, Nat.reduceLT, Nat.reduceAdd, Nat.reduceMul, Nat.reduceSub, Nat.reduceLeDiff, Nat.reduceEqDiff, Int.reduceToNat, Int.reduceLT, Int.reduceLE, Int.reduceAdd, Int.reduceSub, Int.reduceEq, reduceIte, Nat.reduceBNe, Int.reducePow, Nat.reducePow, Int.reduceMul, Int.reduceNeg, isB_i, isB_b, isB_y, isBv_i, isBv_b, eqCells_t, TT]
    rw [List.take_length] at BF
    exact ⟨⟨H.length, o, es, r'⟩, ⟨rx', ry', by have := BF; rw [← dataE_app] at this; exact this, zR.keepB (.inr rfl) KF, zY.keepB (.inr rfl) KF, zl, zne⟩, O3.keepB (fun t h => .inl h) KF, hpi', kk.le tyK_O |>.trans (KF.le fun t h => .inl h)⟩
end Go.Proofs.Ytflccffjfnfoiaa.Sx
namespace Go.Proofs.Ytflccffjfnfoiaa.Sx
open Go
set_option linter.unusedSimpArgs false
set_option linter.unusedVariables false
set_option maxRecDepth 10000
set_option maxHeartbeats 4000000

/-- Rows in memory: no two share a place. -/
structure Rows15 (h : List SB) (rows : List RE) : Prop where
  at_ : ∀ (i : Nat) (x : RE), rows[i]? = some x → x.at_ h
  ok : ∀ x ∈ rows, ∀ e ∈ x.es, e.d.length ≤ 140737488351232 ∧ -9223372036854775808 ≤ e.k ∧ e.k < 9223372036854775808
  len : ∀ x ∈ rows, x.es.length ≤ 64
  n : rows.length ≤ 8
  ne : ∀ (i j : Nat) (x y : RE), i ≠ j → rows[i]? = some x → rows[j]? = some y → x.iO ≠ y.iO
  nd : ∀ (i j : Nat) (e f : B5.OE), i ≠ j → (dataE rows)[i]? = some e → (dataE rows)[j]? = some f → e.w ≠ f.w

theorem maskL_off {L : List Nat} {h : List SB} {i : Nat} (hi : L.contains i = false) : (maskL L 0 h)[i]? = h[i]? := by
  rw [maskL_get]
  cases h[i]? with
  | none => rfl
  | some b => simp only [Option.map_some, Nat.zero_add, hi]; rfl
theorem mem_dataE {rows : List RE} {e : B5.OE} (h : e ∈ dataE rows) : ∃ x ∈ rows, ∃ p ∈ x.es, e = ⟨p.w, p.d, p.sp, p.o⟩ := by
  simp only [dataE, List.mem_flatten, List.mem_map] at h
  obtain ⟨l, ⟨x, hx, rfl⟩, he⟩ := h
  obtain ⟨p, hp, rfl⟩ := List.mem_map.1 he
  exact ⟨x, hx, p, hp, rfl⟩
theorem Rows15.owns {h : List SB} {rows : List RE} (R : Rows15 h rows) : B5.Owns h (dataE rows) := by
  have key : ∀ (i : Nat) (e : B5.OE), (dataE rows)[i]? = some e → h[e.w]? = some (wB e.o (e.l ++ e.p)) ∧ (0 < e.l.length + e.p.length → e.o = true) ∧ e.l.length < 140737488351233 := fun i e he => by
    obtain ⟨x, hx, p, hp, rfl⟩ := mem_dataE (List.mem_of_getElem? he)
    obtain ⟨j, hj⟩ := List.mem_iff_getElem?.1 hx
    obtain ⟨k, hk⟩ := List.mem_iff_getElem?.1 hp
    have O := (R.at_ j x hj).at_ k p hk
    have := R.ok x hx p hp
    exact ⟨O.1, O.2, by show p.d.length < _; omega⟩
  exact ⟨fun i e he => (key i e he).1, fun i e he => (key i e he).2.1, fun i e he => (key i e he).2.2, R.nd⟩
theorem dataE_len : ∀ {rows : List RE}, (∀ x ∈ rows, x.es.length ≤ 64) → (dataE rows).length ≤ 64 * rows.length
  | [], _ => by simp [dataE]
  | x :: rows, h => by
    have ih := dataE_len (rows := rows) fun y hy => h y (.tail _ hy)
    have := h x (.head _)
    simp only [dataE, List.map_cons, List.flatten_cons, List.length_append, List.length_map, List.length_cons] at ih ⊢
    omega

/-! ### Marks -/
def mkC (j m : Nat) : List SC := ((List.range m).map fun (p : Nat) => ([i64 ((1000 * j + p : Nat) : Int), nilS] : List SC)).flatten
theorem mkC_succ (j m : Nat) : mkC j (m + 1) = mkC j m ++ [i64 ((1000 * j + m : Nat) : Int), nilS] := by simp [mkC, List.range_succ]
theorem mkC_len (j : Nat) : ∀ m, (mkC j m).length = m * 2
  | 0 => rfl
  | m + 1 => by rw [mkC_succ, List.length_append, mkC_len j m]; simp only [List.length_cons, List.length_nil]; omega
theorem mkC_zero (j : Nat) : mkC j 0 = [] := rfl
theorem mkC_more (j n : Nat) : ∀ m, ∃ t, mkC j (n + m) = mkC j n ++ t
  | 0 => ⟨[], by simp⟩
  | m + 1 => by
    obtain ⟨t, ht⟩ := mkC_more j n m
    exact ⟨t ++ [i64 ((1000 * j + (n + m) : Nat) : Int), nilS], by rw [← Nat.add_assoc, mkC_succ, ht, List.append_assoc]⟩
theorem mkC_get (j : Nat) (q : List SC) : ∀ {n m : Nat}, n < m → (mkC j m ++ q).getD (n * 2) .any = i64 ((1000 * j + n : Nat) : Int)
  | n, m + 1, h => by
    rw [mkC_succ, List.append_assoc]
    by_cases hn : n < m
    · have := mkC_get j ([i64 ((1000 * j + m : Nat) : Int), nilS] ++ q) hn
      exact this
    · obtain rfl : n = m := by omega
      rw [List.getD_eq_getElem?_getD, List.getElem?_append_right (by rw [mkC_len]; exact Nat.le_refl _), mkC_len, Nat.sub_self]; rfl
theorem mkC_step (j n : Nat) (Z : List SC) (hZ : (n + 1) * 2 ≤ Z.length) : (mkC j n ++ Z.drop (n * 2)).take (n * 2) ++ (i64 ((1000 * j + n : Nat) : Int) :: nilS :: (mkC j n ++ Z.drop (n * 2)).drop (n * 2 + 2)) = mkC j (n + 1) ++ Z.drop ((n + 1) * 2) := by
  have l := mkC_len j n
  rw [List.take_left' l, List.drop_append, List.drop_of_length_le (by omega), l, Nat.add_sub_cancel_left, List.drop_drop, List.nil_append, mkC_succ, List.append_assoc, show (n + 1) * 2 = n * 2 + 2 by omega]; rfl
theorem drop_two {q : List SC} {c : Nat} (h : q.length = (c + 1) * 2) : ∃ x y q1, q = x :: y :: q1 ∧ q1.length = c * 2 := by
  cases q with
  | nil => simp only [List.length_nil] at h; omega
  | cons x q => cases q with
    | nil => simp only [List.length_cons, List.length_nil] at h; omega
    | cons y q1 => exact ⟨x, y, q1, rfl, by simp only [List.length_cons] at h; omega⟩

/-- At even places a number stands, or nothing. -/
def EvI (q : List SC) : Prop := ∀ p : Nat, (∃ z : Int, q.getD (p * 2) .any = i64 z) ∨ q.getD (p * 2) .any = .any
theorem EvI.append {A B : List SC} {k : Nat} (hA : A.length = k * 2) (a : EvI A) (b : EvI B) : EvI (A ++ B) := fun p => by
  by_cases hp : p < k
  · rw [List.getD_eq_getElem?_getD, List.getElem?_append_left (by omega), ← List.getD_eq_getElem?_getD]; exact a p
  · rw [List.getD_eq_getElem?_getD, List.getElem?_append_right (by omega), ← List.getD_eq_getElem?_getD, show p * 2 - A.length = (p - k) * 2 by omega]; exact b _
theorem EvI.right {A B : List SC} {k : Nat} (hA : A.length = k * 2) (h : EvI (A ++ B)) : EvI B := fun p => by
  have := h (k + p)
  rwa [List.getD_eq_getElem?_getD, List.getElem?_append_right (by omega), ← List.getD_eq_getElem?_getD, show (k + p) * 2 - A.length = p * 2 by omega] at this
theorem EvI.tail2 {x y : SC} {q : List SC} (h : EvI (x :: y :: q)) : EvI q := EvI.right (A := [x, y]) (k := 1) rfl h
theorem EvI_mkC (j m : Nat) : EvI (mkC j m) := fun p => by
  by_cases hp : p < m
  · have := mkC_get j [] hp
    rw [List.append_nil] at this
    exact .inl ⟨_, this⟩
  · right
    rw [List.getD_eq_getElem?_getD, List.getElem?_eq_none (by rw [mkC_len]; omega)]; rfl
theorem EvI_zero : ∀ r, EvI (List.replicate r zeroO).flatten
  | 0 => fun p => .inr (by simp)
  | r + 1 => by
    rw [List.replicate_succ, List.flatten_cons]
    refine EvI.append (k := 1) rfl (fun p => ?_) (EvI_zero r)
    match p with
    | 0 => exact .inl ⟨0, rfl⟩
    | p + 1 => exact .inr (by rw [List.getD_eq_getElem?_getD, List.getElem?_eq_none (by simp; omega)]; rfl)

structure GrO (h0 : List SB) (es : List RE) (i : Nat) (H : List SB) (sG : SC) (iG r : Nat) (gs : List (Nat × Nat × Nat)) : Prop where
  len : h0.length ≤ H.length
  keep : ∀ (k : Nat), k < h0.length → (∀ (j : Nat) (e : RE), j < i → es[j]? = some e → k ≠ e.iO) → H[k]? = h0[k]?
  gl : gs.length = i
  sG : (i = 0 ∧ sG = nilS) ∨ (0 < i ∧ sG = .sl iG 0 i (i + r) ∧ H[iG]? = some (rowsB (gs.map (fun g => SC.sl g.1 0 (g.2.2 + 5) g.2.1) ++ List.replicate r nilS)) ∧ h0.length ≤ iG)
  at_ : ∀ (j : Nat) (e : RE) (g : Nat × Nat × Nat), es[j]? = some e → gs[j]? = some g → (∃ o q, H[g.1]? = some (optB o (mkC j (e.es.length + 5) ++ q))) ∧ (∃ q, H[e.iO]? = some (optB e.o (mkC j e.es.length ++ q)) ∧ EvI q) ∧ (g.1 = e.iO ∨ h0.length ≤ g.1) ∧ g.2.2 = e.es.length ∧ (0 < i → g.1 ≠ iG)
structure ApO (H1 : List SB) (i : Nat) (e : RE) (m : Nat) (H : List SB) (w c : Nat) (o : Bool) (q : List SC) : Prop where
  len : H1.length ≤ H.length
  at_ : H[w]? = some (optB o (mkC i (e.es.length + m) ++ q))
  own : 0 < c → o = true
  cap : e.es.length + m ≤ c
  ql : q.length = (c - (e.es.length + m)) * 2
  old : ∃ q, H[e.iO]? = some (optB e.o (mkC i e.es.length ++ q)) ∧ EvI q
  ev : EvI q
  wh : w = e.iO ∨ H1.length ≤ w
  keep : ∀ (k : Nat), k < H1.length → k ≠ e.iO → H[k]? = H1[k]?

namespace B5
theorem ownedN_spec (rx ry : SC) (h : List SB) (ib : Nat) (es : List OE) (B : Bk rx ry h ib (es.map OE.sc) (es.map OE.l)) (O : Owns h es) (hn : es.length < 4398046511104) :
    Spec cx.P 16 [.c (.ptr ib 0)] h fun s H => s = .c (bC true) ∧ h.length ≤ H.length ∧ ∀ k, k < h.length → (∀ (j : Nat) (e : OE), es[j]? = some e → k ≠ e.w) → H[k]? = h[k]? := by
  rcases B with ⟨_, _, hb⟩ | ⟨iL, cL, iW, cW, B⟩
  · refine spec_of_X cx_ok Try.func16 rfl (by kernel_rfl) (by kernel_rfl) (Nat.le_of_ble_eq_true rfl) 400 15 ?_
    simp (maxSteps := 4000000) only [Try.results16, XX, Nat.reduceBEq, Nat.reduceLT, Nat.reduceAdd, Nat.reduceMul, Nat.reduceSub, Nat.reduceLeDiff, Nat.reduceEqDiff, Int.reduceToNat, Int.reduceLT, Int.reduceLE, Int.reduceAdd, Int.reduceSub, Int.reduceEq, reduceIte, Nat.reduceBNe, Int.reducePow, Nat.reducePow, Int.reduceMul, Int.reduceNeg, isB_i, isB_b, isB_y, isBv_i, isBv_b, eqCells_t, TT]
    refine loop_rounds cx_ok 400 1 ?_
    simp (maxSteps := 4000000) only [Try.results16, hb, XX, Nat.reduceBEq, Nat.reduceLT, Nat.reduceAdd, Nat.reduceMul, Nat.reduceSub, Nat.reduceLeDiff, Nat.reduceEqDiff, Int.reduceToNat, Int.reduceLT, Int.reduceLE, Int.reduceAdd, Int.reduceSub, Int.reduceEq, reduceIte, Nat.reduceBNe, Int.reducePow, Nat.reducePow, Int.reduceMul, Int.reduceNeg, isB_i, isB_b, isB_y, isBv_i, isBv_b, eqCells_t, TT]
    refine loop_rounds cx_ok 400 1 ?_
    simp (maxSteps := 4000000) only [Try.results16, hb, XX, Nat.reduceBEq, Nat.reduceLT, Nat.reduceAdd, Nat.reduceMul, Nat.reduceSub, Nat.reduceLeDiff, Nat.reduceEqDiff, Int.reduceToNat, Int.reduceLT, Int.reduceLE, Int.reduceAdd, Int.reduceSub, Int.reduceEq, reduceIte, Nat.reduceBNe, Int.reducePow, Nat.reducePow, Int.reduceMul, Int.reduceNeg, isB_i, isB_b, isB_y, isBv_i, isBv_b, eqCells_t, TT]
    refine loop_rounds cx_ok 400 1 ?_
    simp (maxSteps := 4000000) only [Try.results16, hb, XX, Nat.reduceBEq, Nat.reduceLT, Nat.reduceAdd, Nat.reduceMul, Nat.reduceSub, Nat.reduceLeDiff, Nat.reduceEqDiff, Int.reduceToNat, Int.reduceLT, Int.reduceLE, Int.reduceAdd, Int.reduceSub, Int.reduceEq, reduceIte, Nat.reduceBNe, Int.reducePow, Nat.reducePow, Int.reduceMul, Int.reduceNeg, isB_i, isB_b, isB_y, isBv_i, isBv_b, eqCells_t, TT]
    exact Nat.le_refl _
  · exact owned_spec rx ry h ib es iL cL iW cW B O hn
end B5

theorem owned15_spec (h : List SB) (ib : Nat) (rows copies : List RE) (B : B15 h ib rows copies) (h0 : 0 < rows.length) (R : Rows15 h rows) (C : ∀ (i : Nat) (y : RE), copies[i]? = some y → y.at_ h) (hpi : ∀ (i : Nat) (x y : RE), rows[i]? = some x → copies[i]? = some y → y.es.map PE.pi = x.es.map PE.pi) :
    Spec cx.P 24 [.c (.ptr ib 0)] h fun s _ => s = .c (bC true) := by
  obtain ⟨rx, ry, Bb, R1, R2, hlen, hne⟩ := B
  obtain ⟨a, b, hb⟩ := Bb.b
  obtain ⟨iR, r, rfl, hR⟩ : ∃ i r, rx = .sl i 0 rows.length (rows.length + r) ∧ h[i]? = some (rowsB (rows.map RE.sc ++ List.replicate r nilS)) := by
    rcases R1 with ⟨e0, _⟩ | ⟨_, h⟩
    · rw [e0] at h0; exact absurd h0 (by simp)
    · exact h
  obtain ⟨iY, rY, rfl, hY⟩ : ∃ i r, ry = .sl i 0 copies.length (copies.length + r) ∧ h[i]? = some (rowsB (copies.map RE.sc ++ List.replicate r nilS)) := by
    rcases R2 with ⟨e0, _⟩ | ⟨_, h⟩
    · rw [e0] at hlen; exact absurd h0 (by rw [← hlen]; simp)
    · exact h
  have lb := lt_of hb
  have lR := lt_of hR
  have lY := lt_of hY
  have hn := R.n
  have dl := dataE_len R.len
  have OW := R.owns
  refine spec_of_X cx_ok Try.func24 rfl (by kernel_rfl) (by kernel_rfl) (Nat.le_of_ble_eq_true rfl) 400 15 ?_
  simp (maxSteps := 4000000) only [Try.results24, XX, Nat.reduceBEq, Nat.reduceLT, Nat.reduceAdd, Nat.reduceMul, Nat.reduceSub, Nat.reduceLeDiff, Nat.reduceEqDiff, Int.reduceToNat, Int.reduceLT, Int.reduceLE, Int.reduceAdd, Int.reduceSub, Int.reduceEq, reduceIte, Nat.reduceBNe, Int.reducePow, Nat.reducePow, Int.reduceMul, Int.reduceNeg, isB_i, isB_b, isB_y, isBv_i, isBv_b, eqCells_t, TT]
  refine loop_at cx_ok 400 (fun μ σ => ∃ i : Nat, μ = rows.length - i ∧ i ≤ rows.length ∧ σ = ⟨⟨15, h.length⟩, [(0, .c (.ptr ib 0)), (2, .c (bC false)), (3, .c (i64 i))], h⟩) rows.length
    ⟨⟨15, h.length⟩, [(0, .c (.ptr ib 0)), (2, .c (bC false)), (3, .c (i64 (0 : Nat)))], h⟩ ⟨0, rfl, Nat.zero_le _, rfl⟩ ⟨rfl, rfl, rfl, rfl, rfl, trivial⟩ ?_
  rintro μ σ ⟨i, rfl, hi, rfl⟩
  by_cases hlt : i < rows.length
  · have hd : decide ((i : Int) < (rows.length : Int)) = true := by simp only [decide_eq_true_eq]; omega
    have e3 : IntKind.i64.wrap ((i : Int) + 1) = ((i + 1 : Nat) : Int) := by rw [w64] <;> omega
    obtain ⟨x, hx⟩ : ∃ x, rows[i]? = some x := ⟨_, List.getElem?_eq_getElem hlt⟩
    obtain ⟨y, hy⟩ : ∃ y, copies[i]? = some y := ⟨_, List.getElem?_eq_getElem (by omega)⟩
    have g1 : (rows.map RE.sc ++ List.replicate r nilS).getD i .any = .sl x.iO 0 x.es.length (x.es.length + x.r) := getD_map hx
    have g2 : (copies.map RE.sc ++ List.replicate rY nilS).getD i .any = .sl y.iO 0 y.es.length (y.es.length + y.r) := getD_map hy
    simp (maxSteps := 4000000) only [Try.results24, hb, lb, hd, XX, Nat.reduceBEq, Nat.reduceLT, Nat.reduceAdd, Nat.reduceMul, Nat.reduceSub, Nat.reduceLeDiff, Nat.reduceEqDiff, Int.reduceToNat, Int.reduceLT, Int.reduceLE, Int.reduceAdd, Int.reduceSub, Int.reduceEq, reduceIte, Nat.reduceBNe, Int.reducePow, Nat.reducePow, Int.reduceMul, Int.reduceNeg, isB_i, isB_b, isB_y, isBv_i, isBv_b, eqCells_t, TT]
    obtain ⟨o1, m1⟩ : ∃ o, (maskL [ib, iR, iY] 0 h)[ib]? = some ⟨o, 47, [a, b, .sl iR 0 rows.length (rows.length + r), .sl iY 0 copies.length (copies.length + rY)]⟩ := maskL_at hb
    obtain ⟨o2, m2⟩ : ∃ o, (maskL [ib, iR, iY] 0 h)[iR]? = some ⟨o, 24, rows.map RE.sc ++ List.replicate r nilS⟩ := maskL_at hR
    obtain ⟨o3, m3⟩ : ∃ o, (maskL [ib, iR, iY] 0 h)[iY]? = some ⟨o, 24, copies.map RE.sc ++ List.replicate rY nilS⟩ := maskL_at hY
    have hok := kept_cons hb rfl (kept_cons hR rfl (kept_cons hY rfl kept_nil))
    have KM : KeepB tyO h (maskL [ib, iR, iY] 0 h) := by
      refine ⟨Nat.le_of_eq ?_, fun k b hk ht => ?_⟩
      · have : ∀ (L : List Nat) (h : List SB) (k : Nat), (maskL L k h).length = h.length := fun L h => by
          induction h with
          | nil => intro; rfl
          | cons b r ih => intro k; simp [maskL, ih]
        exact (this _ _ _).symm
      · have n1 : k ≠ ib := fun e => by subst e; rw [hk] at hb; cases hb; exact absurd (show tyO 47 from ht) (by decide)
        have n2 : k ≠ iR := fun e => by subst e; rw [hk] at hR; cases hR; exact absurd (show tyO 24 from ht) (by decide)
        have n3 : k ≠ iY := fun e => by subst e; rw [hk] at hY; cases hY; exact absurd (show tyO 24 from ht) (by decide)
        rw [maskL_off (by simp [n1, n2, n3])]; exact hk
    have Ox := (R.at_ i x hx).keepB (fun t h => h) KM
    have Oy := (C i y hy).keepB (fun t h => h) KM
    have okx := R.ok x (List.mem_of_getElem? hx)
    have pxy := hpi i x y hx hy
    have oky : ∀ e ∈ y.es, e.d.length ≤ 140737488351232 ∧ -9223372036854775808 ≤ e.k ∧ e.k < 9223372036854775808 := fun e he => by
      have : e.pi ∈ x.es.map PE.pi := by rw [← pxy]; exact List.mem_map_of_mem he
      obtain ⟨f, hf, hfe⟩ := List.mem_map.1 this
      simp only [PE.pi, Prod.mk.injEq] at hfe
      have := okx f hf
      rw [← hfe.1, ← hfe.2]; exact this
    have lx := R.len x (List.mem_of_getElem? hx)
    have ly : y.es.length = x.es.length := by have := congrArg List.length pxy; simpa using this
    refine draw_of cx_ok (by kernel_rfl) 400 [ib, iR, iY] [(0, true), (1, true), (2, true), (3, true), (4, true), (5, true), (6, true), (7, true), (8, true), (9, true), (10, true), (11, true), (12, true), (13, true), (14, false), (15, true)] (by kernel_rfl) (by first | exact hok | simp [*]) ?_
    simp (maxSteps := 4000000) only [Try.results24, m1, m2, m3, g1, g2, unL_maskL, XX, Nat.reduceBEq, Nat.reduceLT, Nat.reduceAdd, Nat.reduceMul, Nat.reduceSub, Nat.reduceLeDiff, Nat.reduceEqDiff, Int.reduceToNat, Int.reduceLT, Int.reduceLE, Int.reduceAdd, Int.reduceSub, Int.reduceEq, reduceIte, Nat.reduceBNe, Int.reducePow, Nat.reducePow, Int.reduceMul, Int.reduceNeg, isB_i, isB_b, isB_y, isBv_i, isBv_b, eqCells_t, TT]
    refine ⟨by omega, by simp; omega, by omega, by simp; omega, ?_⟩
    refine call_same (xs := x.es.map PE.oi) (sp := []) (ys := y.es.map PE.oi) (sp' := []) (c := x.es.length + x.r) (c' := y.es.length + y.r) (Ox.oks okx) (Oy.oks oky) (by rw [List.length_map]; omega) (by rw [List.length_map]; omega) Ox.fz Oy.fz ?_
    rw [decide_eq_true (show piL (x.es.map PE.oi) = piL (y.es.map PE.oi) by rw [piL, piL, List.map_map, List.map_map]; exact pxy.symm)]
    simp (maxSteps := 4000000) only [Try.results24, unL_maskL, e3, XX, Nat.reduceBEq, Nat.reduceLT, Nat.reduceAdd, Nat.reduceMul, Nat.reduceSub, Nat.reduceLeDiff, Nat.reduceEqDiff, Int.reduceToNat, Int.reduceLT, Int.reduceLE, Int.reduceAdd, Int.reduceSub, Int.reduceEq, reduceIte, Nat.reduceBNe, Int.reducePow, Nat.reducePow, Int.reduceMul, Int.reduceNeg, isB_i, isB_b, isB_y, isBv_i, isBv_b, eqCells_t, TT]
    exact ⟨rows.length - (i + 1), by omega, _, ⟨i + 1, rfl, by omega, rfl⟩, rfl, rfl, rfl, rfl, rfl, trivial⟩
  obtain rfl : i = rows.length := by omega
  have hd : decide ((rows.length : Int) < (rows.length : Int)) = false := by simp
  simp (maxSteps := 4000000) only [Try.results24, hb, hd, XX, Nat.reduceBEq, Nat.reduceLT, Nat.reduceAdd, Nat.reduceMul, Nat.reduceSub, Nat.reduceLeDiff, Nat.reduceEqDiff, Int.reduceToNat, Int.reduceLT, Int.reduceLE, Int.reduceAdd, Int.reduceSub, Int.reduceEq, reduceIte, Nat.reduceBNe, Int.reducePow, Nat.reducePow, Int.reduceMul, Int.reduceNeg, isB_i, isB_b, isB_y, isBv_i, isBv_b, eqCells_t, TT]
  refine call_is (B5.ownedN_spec _ _ h ib (dataE rows) Bb OW (by omega)) ?_
  rintro _ H0 ⟨rfl, l0, k0⟩
  have kb0 : H0[ib]? = some (B5.bookB (.sl iR 0 rows.length (rows.length + r)) (.sl iY 0 copies.length (copies.length + rY)) a b) := (k0 ib lb fun j e he => ne_of_ty hb (OW.at_ j e he) (fun h => absurd h (by decide : (47 : Nat) ≠ 5))).trans hb
  have kR0 : H0[iR]? = some (rowsB (rows.map RE.sc ++ List.replicate r nilS)) := (k0 iR lR fun j e he => ne_of_ty hR (OW.at_ j e he) (fun h => absurd h (by decide : (24 : Nat) ≠ 5))).trans hR
  have kx0 : ∀ (i : Nat) (x : RE), rows[i]? = some x → H0[x.iO]? = some (optB x.o (rowC x.es x.r)) := fun i x hx => (k0 x.iO (lt_of (R.at_ i x hx).row) fun j e he => ne_of_ty (R.at_ i x hx).row (OW.at_ j e he) (fun h => absurd h (by decide : (58 : Nat) ≠ 5))).trans (R.at_ i x hx).row
  have own0 : ∀ (i : Nat) (x : RE), rows[i]? = some x → 0 < x.es.length + x.r → x.o = true := fun i x hx => (R.at_ i x hx).own
  have len0 : ∀ (i : Nat) (x : RE), rows[i]? = some x → x.es.length ≤ 64 := fun i x hx => R.len x (List.mem_of_getElem? hx)
  have ne0 := R.ne
  have lb0 := lt_of kb0
  have lR0 := lt_of kR0
  simp (maxSteps := 4000000) only [Try.results24, XX, Nat.reduceBEq, Nat.reduceLT, Nat.reduceAdd, Nat.reduceMul, Nat.reduceSub, Nat.reduceLeDiff, Nat.reduceEqDiff, Int.reduceToNat, Int.reduceLT, Int.reduceLE, Int.reduceAdd, Int.reduceSub, Int.reduceEq, reduceIte, Nat.reduceBNe, Int.reducePow, Nat.reducePow, Int.reduceMul, Int.reduceNeg, isB_i, isB_b, isB_y, isBv_i, isBv_b, eqCells_t, TT]
  refine loop_at cx_ok 400 (fun μ σ => ∃ (i : Nat) (H : List SB) (sG : SC) (iG r' : Nat) (gs : List (Nat × Nat × Nat)), μ = rows.length - i ∧ i ≤ rows.length ∧ GrO H0 rows i H sG iG r' gs ∧
      σ = ⟨⟨15, h.length⟩, [(0, .c (.ptr ib 0)), (2, .c (bC false)), (6, .c sG), (7, .c (i64 i))], H⟩) rows.length
    ⟨⟨15, h.length⟩, [(0, .c (.ptr ib 0)), (2, .c (bC false)), (6, .c nilS), (7, .c (i64 (0 : Nat)))], H0⟩
    ⟨0, H0, nilS, 0, 0, [], rfl, Nat.zero_le _, ⟨Nat.le_refl _, fun _ _ _ => rfl, rfl, .inl ⟨rfl, rfl⟩, fun j e g _ hg => by simp at hg⟩, rfl⟩ ⟨rfl, rfl, rfl, rfl, rfl, rfl, trivial⟩ ?_
  clear hd hi hlt
  rintro μ σ ⟨i, H, sG, iG, rG, gs, rfl, hi, G, rfl⟩
  have kb : H[ib]? = some (B5.bookB (.sl iR 0 rows.length (rows.length + r)) (.sl iY 0 copies.length (copies.length + rY)) a b) := (G.keep ib lb0 fun j e _ he => ne_of_ty kb0 (kx0 j e he) (fun h => absurd h (by decide : (47 : Nat) ≠ 58))).trans kb0
  have kL : H[iR]? = some (rowsB (rows.map RE.sc ++ List.replicate r nilS)) := (G.keep iR lR0 fun j e _ he => ne_of_ty kR0 (kx0 j e he) (fun h => absurd h (by decide : (24 : Nat) ≠ 58))).trans kR0
  by_cases hlt : i < rows.length
  · have hd : decide ((i : Int) < (rows.length : Int)) = true := by simp only [decide_eq_true_eq]; omega
    obtain ⟨e, he⟩ : ∃ e, rows[i]? = some e := ⟨_, List.getElem?_eq_getElem hlt⟩
    have g1 : (rows.map RE.sc ++ List.replicate r nilS).getD i .any = .sl e.iO 0 e.es.length (e.es.length + e.r) := getD_map he
    have ke : H[e.iO]? = some (optB e.o (rowC e.es e.r)) := (G.keep e.iO (lt_of (kx0 i e he)) fun j f hj hf => ne0 i j e f (by omega) he hf).trans (kx0 i e he)
    have hlen := len0 i e he
    have lcell := rowC_len e.es e.r
    have v1 : IntKind.i64.wrap (1000 * (i : Int)) = ((1000 * i : Nat) : Int) := by rw [w64] <;> omega
    simp (maxSteps := 4000000) only [Try.results24, kb, kL, hd, g1, XX, Nat.reduceBEq, Nat.reduceLT, Nat.reduceAdd, Nat.reduceMul, Nat.reduceSub, Nat.reduceLeDiff, Nat.reduceEqDiff, Int.reduceToNat, Int.reduceLT, Int.reduceLE, Int.reduceAdd, Int.reduceSub, Int.reduceEq, reduceIte, Nat.reduceBNe, Int.reducePow, Nat.reducePow, Int.reduceMul, Int.reduceNeg, isB_i, isB_b, isB_y, isBv_i, isBv_b, eqCells_t, TT]
    refine ⟨⟨by omega, by omega⟩, by simp; omega, ?_⟩
    -- the marks
    refine loop_at cx_ok 400 (fun μ σ => ∃ m : Nat, μ = e.es.length - m ∧ m ≤ e.es.length ∧ σ = ⟨⟨15, h.length⟩, [(0, .c (.ptr ib 0)), (2, .c (bC false)), (6, .c sG), (7, .c (i64 i)), (8, .c (.sl e.iO 0 e.es.length (e.es.length + e.r))), (9, .c (i64 m))],
        H.set e.iO (optB e.o (mkC i m ++ (rowC e.es e.r).drop (m * 2)))⟩) e.es.length
      ⟨⟨15, h.length⟩, [(0, .c (.ptr ib 0)), (2, .c (bC false)), (6, .c sG), (7, .c (i64 i)), (8, .c (.sl e.iO 0 e.es.length (e.es.length + e.r))), (9, .c (i64 (0 : Nat)))], H.set e.iO (optB e.o (mkC i 0 ++ (rowC e.es e.r).drop (0 * 2)))⟩
      ⟨0, rfl, Nat.zero_le _, rfl⟩ ⟨rfl, (set_same ke).symm, rfl, rfl, rfl, rfl, rfl, rfl, trivial⟩ ?_
    rintro μ σ ⟨m, rfl, hm, rfl⟩
    by_cases hlt2 : m < e.es.length
    · have hd2 : decide ((m : Int) < (e.es.length : Int)) = true := by simp only [decide_eq_true_eq]; omega
      have e3 : IntKind.i64.wrap ((m : Int) + 1) = ((m + 1 : Nat) : Int) := by rw [w64] <;> omega
      have v2 : IntKind.i64.wrap (((1000 * i : Nat) : Int) + (m : Int)) = ((1000 * i + m : Nat) : Int) := by rw [w64] <;> omega
      have ho : e.o = true := own0 i e he (by omega)
      have hst := mkC_step i m (rowC e.es e.r) (by omega)
      have ml := mkC_len i m
      simp (maxSteps := 4000000) only [Try.results24, hd2, v1, v2, e3, gset, ke, ho, List.set_set, XX, Nat.reduceBEq, Nat.reduceLT, Nat.reduceAdd, Nat.reduceMul, Nat.reduceSub, Nat.reduceLeDiff, Nat.reduceEqDiff, Int.reduceToNat, Int.reduceLT, Int.reduceLE, Int.reduceAdd, Int.reduceSub, Int.reduceEq, reduceIte, Nat.reduceBNe, Int.reducePow, Nat.reducePow, Int.reduceMul, Int.reduceNeg, isB_i, isB_b, isB_y, isBv_i, isBv_b, eqCells_t, TT]
      refine ⟨by omega, by rw [List.length_append, ml, List.length_drop]; omega, e.es.length - (m + 1), by omega, _, ⟨m + 1, rfl, by omega, rfl⟩, rfl, ?_, rfl, rfl, rfl, rfl, rfl, rfl, trivial⟩
      exact congrArg (fun l => H.set e.iO (optB true l)) ((List.append_assoc ..).trans hst)
    have hm' : m = e.es.length := by omega
    subst hm'
    have hd2 : decide ((e.es.length : Int) < (e.es.length : Int)) = false := by simp
    obtain ⟨Q, hQ, lQ, eQ⟩ : ∃ Q : List SC, (rowC e.es e.r).drop (e.es.length * 2) = Q ∧ Q.length = e.r * 2 ∧ EvI Q := ⟨_, rfl, by rw [List.length_drop, lcell]; omega, by rw [rowC, List.drop_left' (flatc_len _)]; exact EvI_zero _⟩
    rw [hQ]
    simp (maxSteps := 4000000) only [Try.results24, hd2, XX, Nat.reduceBEq, Nat.reduceLT, Nat.reduceAdd, Nat.reduceMul, Nat.reduceSub, Nat.reduceLeDiff, Nat.reduceEqDiff, Int.reduceToNat, Int.reduceLT, Int.reduceLE, Int.reduceAdd, Int.reduceSub, Int.reduceEq, reduceIte, Nat.reduceBNe, Int.reducePow, Nat.reducePow, Int.reduceMul, Int.reduceNeg, isB_i, isB_b, isB_y, isBv_i, isBv_b, eqCells_t, TT]
    have H1l : (H.set e.iO (optB e.o (mkC i e.es.length ++ Q))).length = H.length := List.length_set
    have H1e : (H.set e.iO (optB e.o (mkC i e.es.length ++ Q)))[e.iO]? = some (optB e.o (mkC i e.es.length ++ Q)) := by rw [gset, ke]; rfl
    have H1k : ∀ k, k ≠ e.iO → (H.set e.iO (optB e.o (mkC i e.es.length ++ Q)))[k]? = H[k]? := fun k hk => List.getElem?_set_ne (fun h => hk h.symm)
    generalize H.set e.iO (optB e.o (mkC i e.es.length ++ Q)) = H1 at H1l H1e H1k ⊢
    -- five more
    refine loop_at cx_ok 400 (fun μ σ => ∃ (m : Nat) (H : List SB) (w c : Nat) (o : Bool) (q : List SC), μ = 5 - m ∧ m ≤ 5 ∧ ApO H1 i e m H w c o q ∧
        σ = ⟨⟨15, h.length⟩, [(0, .c (.ptr ib 0)), (2, .c (bC false)), (6, .c sG), (7, .c (i64 i)), (8, .c (.sl e.iO 0 e.es.length (e.es.length + e.r))), (10, .c (.sl w 0 (e.es.length + m) c)), (11, .c (i64 m))], H⟩) 5
      ⟨⟨15, h.length⟩, [(0, .c (.ptr ib 0)), (2, .c (bC false)), (6, .c sG), (7, .c (i64 i)), (8, .c (.sl e.iO 0 e.es.length (e.es.length + e.r))), (10, .c (.sl e.iO 0 (e.es.length + 0) (e.es.length + e.r))), (11, .c (i64 (0 : Nat)))], H1⟩
      ⟨0, H1, e.iO, e.es.length + e.r, e.o, Q, rfl, by omega, ⟨Nat.le_refl _, H1e, own0 i e he, by omega, by omega, ⟨_, H1e, eQ⟩, eQ, .inl rfl, fun _ _ _ => rfl⟩, rfl⟩ ⟨rfl, rfl, rfl, rfl, rfl, rfl, rfl, rfl, rfl, trivial⟩ ?_
    rintro μ σ ⟨m, H2, w, c, o, q, rfl, hm, A, rfl⟩
    by_cases hlt2 : m < 5
    · have hd2 : decide ((m : Int) < 5) = true := by simp only [decide_eq_true_eq]; omega
      have e3 : IntKind.i64.wrap ((m : Int) + 1) = ((m + 1 : Nat) : Int) := by rw [w64] <;> omega
      have v2 : IntKind.i64.wrap (((1000 * i : Nat) : Int) + (e.es.length : Int)) = ((1000 * i + e.es.length : Nat) : Int) := by rw [w64] <;> omega
      have v3 : IntKind.i64.wrap (((1000 * i + e.es.length : Nat) : Int) + (m : Int)) = ((1000 * i + (e.es.length + m) : Nat) : Int) := by rw [w64] <;> omega
      have lw := lt_of A.at_
      have hA := A.at_
      have ml := mkC_len i (e.es.length + m)
      have tk : ∀ Z, (mkC i (e.es.length + m) ++ Z).take ((e.es.length + m) * 2) = mkC i (e.es.length + m) := fun Z => List.take_left' ml
      have ql := A.ql
      have qc := A.cap
      simp (maxSteps := 4000000) only [Try.results24, hd2, v1, v2, v3, hA, lw, tk, List.append_assoc, List.getElem?_append_left, List.getElem?_append_right, List.length_append, List.length_set, List.set_append_left, gset, List.getElem?_set_ne, Nat.add_sub_cancel_left, Nat.sub_self, Nat.le_refl, Nat.le_add_right, List.replicate_one, List.flatten_cons, List.flatten_nil, XX, Nat.reduceBEq, Nat.reduceLT, Nat.reduceAdd, Nat.reduceMul, Nat.reduceSub, Nat.reduceLeDiff, Nat.reduceEqDiff, Int.reduceToNat, Int.reduceLT, Int.reduceLE, Int.reduceAdd, Int.reduceSub, Int.reduceEq, reduceIte, Nat.reduceBNe, Int.reducePow, Nat.reducePow, Int.reduceMul, Int.reduceNeg, isB_i, isB_b, isB_y, isBv_i, isBv_b, eqCells_t, TT]
      have mm : ∀ Z : List SC, mkC i (e.es.length + m) ++ (i64 ((1000 * i + (e.es.length + m) : Nat) : Int) :: nilS :: Z) = mkC i (e.es.length + (m + 1)) ++ Z := fun Z => by rw [show e.es.length + (m + 1) = e.es.length + m + 1 by omega, mkC_succ, List.append_assoc]; rfl
      refine ⟨⟨by omega, by unfold maxLen; omega, by omega, fun h => ⟨A.own (by omega), by omega⟩⟩, xapp_both (fun hr => ?_) (fun hg c' hc' _ => ?_)⟩
      · obtain rfl := A.own (by omega)
        obtain ⟨k, hk⟩ : ∃ k, c = e.es.length + m + (k + 1) := ⟨c - (e.es.length + m + 1), by omega⟩
        obtain ⟨x, y, q1, rfl, lq⟩ := drop_two (q := q) (c := k) (by rw [ql, hk]; congr 1; omega)
        have tl : (mkC i (e.es.length + m) ++ x :: y :: q1).drop ((e.es.length + m) * 2 + 2) = q1 := by rw [List.drop_append, List.drop_of_length_le (by omega), ml, Nat.add_sub_cancel_left]; rfl
        simp (maxSteps := 4000000) only [Try.results24, e3, tl, hA, lw, List.append_assoc, List.getElem?_append_left, List.getElem?_append_right, List.length_append, List.length_set, List.set_append_left, gset, List.getElem?_set_ne, Nat.add_sub_cancel_left, Nat.sub_self, Nat.le_refl, Nat.le_add_right, List.replicate_one, List.flatten_cons, List.flatten_nil, XX, Nat.reduceBEq, Nat.reduceLT, Nat.reduceAdd, Nat.reduceMul, Nat.reduceSub, Nat.reduceLeDiff, Nat.reduceEqDiff, Int.reduceToNat, Int.reduceLT, Int.reduceLE, Int.reduceAdd, Int.reduceSub, Int.reduceEq, reduceIte, Nat.reduceBNe, Int.reducePow, Nat.reducePow, Int.reduceMul, Int.reduceNeg, isB_i, isB_b, isB_y, isBv_i, isBv_b, eqCells_t, TT]
        refine ⟨5 - (m + 1), by omega, _, ⟨m + 1, _, w, c, true, q1, rfl, by omega, ⟨?_, ?_, fun _ => rfl, by omega, by omega, ?_, A.ev.tail2, A.wh, ?_⟩, rfl⟩, rfl, rfl, rfl, rfl, rfl, rfl, rfl, rfl, rfl, trivial⟩
        · have := A.len; simp; omega
        · rw [List.getElem?_append_left (by simpa using lw), gset, hA]; exact congrArg (fun l => some (optB true l)) (mm q1)
        · obtain ⟨q', hq', eq'⟩ := A.old
          by_cases hw : w = e.iO
          · subst hw
            obtain ⟨t, ht⟩ := mkC_more i e.es.length (m + 1)
            refine ⟨t ++ q1, ?_, EvI.append (k := m + 1) (by have := congrArg List.length ht; rw [List.length_append, mkC_len, mkC_len] at this; omega) (EvI.right (mkC_len i e.es.length) (ht ▸ EvI_mkC i _)) A.ev.tail2⟩
            have ho : e.o = true := by
              have h9 := hq'.symm.trans A.at_
              simp only [Option.some.injEq, SB.mk.injEq] at h9
              exact h9.1
            rw [List.getElem?_append_left (by simpa using lw), gset, hA, ho, ← List.append_assoc, ← ht]; exact congrArg (fun l => some (optB true l)) (mm q1)
          · exact ⟨q', by rw [List.getElem?_append_left (by simpa using lt_of hq'), List.getElem?_set_ne hw]; exact hq', eq'⟩
        · intro k hk hne
          have hkw : w ≠ k := by rcases A.wh with h | h <;> omega
          rw [List.getElem?_append_left (by have := A.len; simp; omega), List.getElem?_set_ne hkw]
          exact A.keep k hk hne
      · simp (maxSteps := 4000000) only [Try.results24, e3, hA, lw, List.append_assoc, List.getElem?_append_left, List.getElem?_append_right, List.length_append, List.length_set, List.set_append_left, gset, List.getElem?_set_ne, Nat.add_sub_cancel_left, Nat.sub_self, Nat.le_refl, Nat.le_add_right, List.replicate_one, List.flatten_cons, List.flatten_nil, XX, Nat.reduceBEq, Nat.reduceLT, Nat.reduceAdd, Nat.reduceMul, Nat.reduceSub, Nat.reduceLeDiff, Nat.reduceEqDiff, Int.reduceToNat, Int.reduceLT, Int.reduceLE, Int.reduceAdd, Int.reduceSub, Int.reduceEq, reduceIte, Nat.reduceBNe, Int.reducePow, Nat.reducePow, Int.reduceMul, Int.reduceNeg, isB_i, isB_b, isB_y, isBv_i, isBv_b, eqCells_t, TT]
        refine ⟨5 - (m + 1), by omega, _, ⟨m + 1, _, H2.length + 1, c', true, (List.replicate (c' - (e.es.length + m + 1)) zeroO).flatten, rfl, by omega, ⟨?_, ?_, fun _ => rfl, by omega, by rw [rep_len (sz := 2) rfl, Nat.add_assoc], ?_, EvI_zero _, ?_, ?_⟩, rfl⟩, rfl, rfl, rfl, rfl, rfl, rfl, rfl, rfl, rfl, trivial⟩
        · have := A.len; simp; omega
        · rw [List.getElem?_append_right (by omega), Nat.add_sub_cancel_left]; exact congrArg (fun l => some (optB true l)) (mm _)
        · obtain ⟨q', hq', eq'⟩ := A.old
          exact ⟨q', by rw [List.getElem?_append_left (lt_of hq')]; exact hq', eq'⟩
        · right; have := A.len; omega
        · intro k hk hne
          rw [List.getElem?_append_left (by have := A.len; omega)]
          exact A.keep k hk hne
    have hm' : m = 5 := by omega
    subst hm'
    have lw := lt_of A.at_
    have e3 : IntKind.i64.wrap ((i : Int) + 1) = ((i + 1 : Nat) : Int) := by rw [w64] <;> omega
    have hwG : H0.length ≤ H.length := G.len
    have leH : H1.length ≤ H2.length := A.len
    have kp : ∀ k, k < H.length → k ≠ e.iO → H2[k]? = H[k]? := fun k hk hne => (A.keep k (by omega) hne).trans (H1k k hne)
    have lew : e.iO < H0.length := lt_of (kx0 i e he)
    have oldA : ∀ (j : Nat) (f : RE) (g : Nat × Nat × Nat), rows[j]? = some f → gs[j]? = some g → (∃ o q, H2[g.1]? = some (optB o (mkC j (f.es.length + 5) ++ q))) ∧ (∃ q, H2[f.iO]? = some (optB f.o (mkC j f.es.length ++ q)) ∧ EvI q) ∧ (g.1 = f.iO ∨ H0.length ≤ g.1) ∧ g.2.2 = f.es.length ∧ (0 < i → g.1 ≠ iG) := by
      intro j f g hf hg
      obtain ⟨⟨o1, q1, a1⟩, ⟨q2, a2, a2e⟩, a3, a4, a5⟩ := G.at_ j f g hf hg
      have hj : j < i := by rw [← G.gl]; exact (List.getElem?_eq_some_iff.1 hg).1
      have hne : f.iO ≠ e.iO := ne0 j i f e (by omega) hf he
      have hne2 : g.1 ≠ e.iO := by
        rcases a3 with h | h
        · rw [h]; exact hne
        · omega
      exact ⟨⟨o1, q1, by rw [kp _ (lt_of a1) hne2]; exact a1⟩, ⟨q2, by rw [kp _ (lt_of a2) hne]; exact a2, a2e⟩, a3, a4, a5⟩
    have newA : (∃ o q, H2[w]? = some (optB o (mkC i (e.es.length + 5) ++ q))) ∧ (∃ q, H2[e.iO]? = some (optB e.o (mkC i e.es.length ++ q)) ∧ EvI q) ∧ (w = e.iO ∨ H0.length ≤ w) :=
      ⟨⟨_, _, A.at_⟩, A.old, by rcases A.wh with h | h <;> omega⟩
    have newG : 0 < i → w ≠ iG := by
      intro h0
      rcases G.sG with ⟨h1, _⟩ | ⟨_, _, hG, hiG⟩
      · omega
      · have := lt_of hG
        rcases A.wh with h | h <;> omega
    have allA : ∀ (j : Nat) (f : RE) (g : Nat × Nat × Nat), rows[j]? = some f → (gs ++ [(w, c, e.es.length)])[j]? = some g → (∃ o q, H2[g.1]? = some (optB o (mkC j (f.es.length + 5) ++ q))) ∧ (∃ q, H2[f.iO]? = some (optB f.o (mkC j f.es.length ++ q)) ∧ EvI q) ∧ (g.1 = f.iO ∨ H0.length ≤ g.1) ∧ g.2.2 = f.es.length ∧ (0 < i → g.1 ≠ iG) := by
      intro j f g hf hg
      have hj : j < (gs ++ [(w, c, e.es.length)]).length := (List.getElem?_eq_some_iff.1 hg).1
      rw [List.length_append, List.length_singleton, G.gl] at hj
      by_cases hji : j < i
      · rw [List.getElem?_append_left (by rw [G.gl]; exact hji)] at hg
        exact oldA j f g hf hg
      · obtain rfl : j = i := by omega
        rw [List.getElem?_append_right (by rw [G.gl]; exact Nat.le_refl _), G.gl, Nat.sub_self] at hg
        rw [he] at hf
        cases hf
        cases hg
        exact ⟨newA.1, newA.2.1, newA.2.2, rfl, newG⟩
    have keepA : ∀ (k : Nat), k < H0.length → (∀ (j : Nat) (f : RE), j < i + 1 → rows[j]? = some f → k ≠ f.iO) → H2[k]? = H0[k]? := fun k hk hne =>
      (kp k (by omega) (hne i e (by omega) he)).trans (G.keep k hk fun j f hj hf => hne j f (by omega) hf)
    rcases G.sG with ⟨rfl, rfl⟩ | ⟨hi0, rfl, hG, hiG⟩
    · have hgs := List.eq_nil_of_length_eq_zero G.gl
      subst hgs
      simp (maxSteps := 4000000) only [Try.results24, Int.cast_ofNat_Int, A.at_, lw, List.append_assoc, List.getElem?_append_left, List.getElem?_append_right, List.length_append, List.length_set, List.set_append_left, gset, List.getElem?_set_ne, Nat.add_sub_cancel_left, Nat.sub_self, Nat.le_refl, Nat.le_add_right, rep_flat, List.replicate_one, List.flatten_cons, List.flatten_nil, XX, Nat.reduceBEq, Nat.reduceLT, Nat.reduceAdd, Nat.reduceMul, Nat.reduceSub, Nat.reduceLeDiff, Nat.reduceEqDiff, Int.reduceToNat, Int.reduceLT, Int.reduceLE, Int.reduceAdd, Int.reduceSub, Int.reduceEq, reduceIte, Nat.reduceBNe, Int.reducePow, Nat.reducePow, Int.reduceMul, Int.reduceNeg, isB_i, isB_b, isB_y, isBv_i, isBv_b, eqCells_t, TT]
      refine ⟨by unfold maxLen; omega, xapp_grow (by omega) fun cG hcG _ => ?_⟩
      simp (maxSteps := 4000000) only [Try.results24, e3, A.at_, lw, List.append_assoc, List.getElem?_append_left, List.getElem?_append_right, List.length_append, List.length_set, List.set_append_left, gset, List.getElem?_set_ne, Nat.add_sub_cancel_left, Nat.sub_self, Nat.le_refl, Nat.le_add_right, rep_flat, List.replicate_one, List.flatten_cons, List.flatten_nil, XX, Nat.reduceBEq, Nat.reduceLT, Nat.reduceAdd, Nat.reduceMul, Nat.reduceSub, Nat.reduceLeDiff, Nat.reduceEqDiff, Int.reduceToNat, Int.reduceLT, Int.reduceLE, Int.reduceAdd, Int.reduceSub, Int.reduceEq, reduceIte, Nat.reduceBNe, Int.reducePow, Nat.reducePow, Int.reduceMul, Int.reduceNeg, isB_i, isB_b, isB_y, isBv_i, isBv_b, eqCells_t, TT]
      refine ⟨rows.length - 1, by omega, _, ⟨1, _, _, H2.length + 1, cG - 1, [(w, c, e.es.length)], rfl, by omega, ⟨by simp; omega, fun k hk hne => ?_, rfl, .inr ⟨by omega, rfl, ?_, by omega⟩, ?_⟩, rfl⟩, rfl, rfl, rfl, rfl, ?_, rfl, trivial⟩
      · rw [List.getElem?_append_left (by omega)]; exact keepA k hk hne
      · rw [List.getElem?_append_right (by omega), Nat.add_sub_cancel_left]; rfl
      · intro j f g hf hg
        obtain ⟨⟨o1, q1, a1⟩, ⟨q2, a2, a2e⟩, a3, a4, a5⟩ := allA j f g hf hg
        have l1 := lt_of a1
        refine ⟨⟨o1, q1, by rw [List.getElem?_append_left l1]; exact a1⟩, ⟨q2, by rw [List.getElem?_append_left (lt_of a2)]; exact a2, a2e⟩, a3, a4, fun _ => by omega⟩
      · rw [show 1 + (cG - 1) = cG by omega]; rfl
    · have lG := lt_of hG
      have neG : iG ≠ e.iO := by omega
      have hG2 : H2[iG]? = _ := (kp iG lG neG).trans hG
      have lG2 := lt_of hG2
      have tG : List.take i (gs.map (fun g => SC.sl g.1 0 (g.2.2 + 5) g.2.1) ++ List.replicate rG nilS) = gs.map (fun g => SC.sl g.1 0 (g.2.2 + 5) g.2.1) := take_rep _ _ _ (by simp [G.gl])
      have dG : List.drop (i + 1) (gs.map (fun g => SC.sl g.1 0 (g.2.2 + 5) g.2.1) ++ List.replicate rG nilS) = List.replicate (rG - 1) nilS := by
        have := drop_rep (gs.map (fun g => SC.sl g.1 0 (g.2.2 + 5) g.2.1)) nilS (i + rG) i (by simp [G.gl])
        rw [show i + rG - i = rG by omega, show i + rG - (i + 1) = rG - 1 by omega] at this
        exact this
      simp (maxSteps := 4000000) only [Try.results24, Int.cast_ofNat_Int, hG2, lG2, A.at_, lw, List.append_assoc, List.getElem?_append_left, List.getElem?_append_right, List.length_append, List.length_set, List.set_append_left, gset, List.getElem?_set_ne, Nat.add_sub_cancel_left, Nat.sub_self, Nat.le_refl, Nat.le_add_right, rep_flat, List.replicate_one, List.flatten_cons, List.flatten_nil, XX, Nat.reduceBEq, Nat.reduceLT, Nat.reduceAdd, Nat.reduceMul, Nat.reduceSub, Nat.reduceLeDiff, Nat.reduceEqDiff, Int.reduceToNat, Int.reduceLT, Int.reduceLE, Int.reduceAdd, Int.reduceSub, Int.reduceEq, reduceIte, Nat.reduceBNe, Int.reducePow, Nat.reducePow, Int.reduceMul, Int.reduceNeg, isB_i, isB_b, isB_y, isBv_i, isBv_b, eqCells_t, TT]
      refine ⟨⟨by omega, by unfold maxLen; omega, by simp [G.gl], fun h => by simp [G.gl]; omega⟩, xapp_both (fun hr => ?_) (fun hg cG hcG _ => ?_)⟩
      · simp (maxSteps := 4000000) only [Try.results24, e3, tG, dG, hG2, lG2, A.at_, lw, List.append_assoc, List.getElem?_append_left, List.getElem?_append_right, List.length_append, List.length_set, List.set_append_left, gset, List.getElem?_set_ne, Nat.add_sub_cancel_left, Nat.sub_self, Nat.le_refl, Nat.le_add_right, rep_flat, List.replicate_one, List.flatten_cons, List.flatten_nil, XX, Nat.reduceBEq, Nat.reduceLT, Nat.reduceAdd, Nat.reduceMul, Nat.reduceSub, Nat.reduceLeDiff, Nat.reduceEqDiff, Int.reduceToNat, Int.reduceLT, Int.reduceLE, Int.reduceAdd, Int.reduceSub, Int.reduceEq, reduceIte, Nat.reduceBNe, Int.reducePow, Nat.reducePow, Int.reduceMul, Int.reduceNeg, isB_i, isB_b, isB_y, isBv_i, isBv_b, eqCells_t, TT]
        refine ⟨rows.length - (i + 1), by omega, _, ⟨i + 1, _, _, iG, rG - 1, gs ++ [(w, c, e.es.length)], rfl, by omega, ⟨by simp; omega, fun k hk hne => ?_, by simp [G.gl], .inr ⟨by omega, rfl, ?_, hiG⟩, ?_⟩, rfl⟩, rfl, rfl, rfl, rfl, ?_, rfl, trivial⟩
        · rw [List.getElem?_append_left (by simp; omega), List.getElem?_set_ne (by omega)]; exact keepA k hk hne
        · rw [List.getElem?_append_left (by simpa using lG2), gset, hG2, List.map_append, List.append_assoc]; rfl
        · intro j f g hf hg
          obtain ⟨⟨o1, q1, a1⟩, ⟨q2, a2, a2e⟩, a3, a4, a5⟩ := allA j f g hf hg
          have l2 : f.iO < H0.length := lt_of (kx0 j f hf)
          refine ⟨⟨o1, q1, by rw [List.getElem?_append_left (by simpa using lt_of a1), List.getElem?_set_ne (a5 hi0).symm]; exact a1⟩, ⟨q2, by rw [List.getElem?_append_left (by simpa using lt_of a2), List.getElem?_set_ne (by omega)]; exact a2, a2e⟩, a3, a4, fun _ => a5 hi0⟩
        · rw [show i + 1 + (rG - 1) = i + rG by omega]; rfl
      · simp (maxSteps := 4000000) only [Try.results24, e3, tG, dG, hG2, lG2, A.at_, lw, List.append_assoc, List.getElem?_append_left, List.getElem?_append_right, List.length_append, List.length_set, List.set_append_left, gset, List.getElem?_set_ne, Nat.add_sub_cancel_left, Nat.sub_self, Nat.le_refl, Nat.le_add_right, rep_flat, List.replicate_one, List.flatten_cons, List.flatten_nil, XX, Nat.reduceBEq, Nat.reduceLT, Nat.reduceAdd, Nat.reduceMul, Nat.reduceSub, Nat.reduceLeDiff, Nat.reduceEqDiff, Int.reduceToNat, Int.reduceLT, Int.reduceLE, Int.reduceAdd, Int.reduceSub, Int.reduceEq, reduceIte, Nat.reduceBNe, Int.reducePow, Nat.reducePow, Int.reduceMul, Int.reduceNeg, isB_i, isB_b, isB_y, isBv_i, isBv_b, eqCells_t, TT]
        refine ⟨rows.length - (i + 1), by omega, _, ⟨i + 1, _, _, H2.length + 1, cG - (i + 1), gs ++ [(w, c, e.es.length)], rfl, by omega, ⟨by simp; omega, fun k hk hne => ?_, by simp [G.gl], .inr ⟨by omega, rfl, ?_, by omega⟩, ?_⟩, rfl⟩, rfl, rfl, rfl, rfl, ?_, rfl, trivial⟩
        · rw [List.getElem?_append_left (by omega)]; exact keepA k hk hne
        · rw [List.getElem?_append_right (by omega), Nat.add_sub_cancel_left, List.map_append, List.append_assoc]; rfl
        · intro j f g hf hg
          obtain ⟨⟨o1, q1, a1⟩, ⟨q2, a2, a2e⟩, a3, a4, a5⟩ := allA j f g hf hg
          have l1 := lt_of a1
          refine ⟨⟨o1, q1, by rw [List.getElem?_append_left l1]; exact a1⟩, ⟨q2, by rw [List.getElem?_append_left (lt_of a2)]; exact a2, a2e⟩, a3, a4, fun _ => by omega⟩
        · rw [show i + 1 + (cG - (i + 1)) = cG by omega]; rfl
  have hi' : i = rows.length := by omega
  subst hi'
  have hd : decide ((rows.length : Int) < (rows.length : Int)) = false := by simp
  simp (maxSteps := 4000000) only [Try.results24, kb, hd, XX, Nat.reduceBEq, Nat.reduceLT, Nat.reduceAdd, Nat.reduceMul, Nat.reduceSub, Nat.reduceLeDiff, Nat.reduceEqDiff, Int.reduceToNat, Int.reduceLT, Int.reduceLE, Int.reduceAdd, Int.reduceSub, Int.reduceEq, reduceIte, Nat.reduceBNe, Int.reducePow, Nat.reducePow, Int.reduceMul, Int.reduceNeg, isB_i, isB_b, isB_y, isBv_i, isBv_b, eqCells_t, TT]
  obtain ⟨rfl, hG, hiG⟩ : sG = .sl iG 0 rows.length (rows.length + rG) ∧ H[iG]? = some (rowsB (gs.map (fun g => SC.sl g.1 0 (g.2.2 + 5) g.2.1) ++ List.replicate rG nilS)) ∧ H0.length ≤ iG := by
    rcases G.sG with ⟨h1, _⟩ | ⟨_, h1, h2, h3⟩
    · omega
    · exact ⟨h1, h2, h3⟩
  refine loop_at cx_ok 400 (fun μ σ => ∃ i : Nat, μ = rows.length - i ∧ i ≤ rows.length ∧ σ = ⟨⟨15, h.length⟩, [(0, .c (.ptr ib 0)), (2, .c (bC false)), (6, .c (.sl iG 0 rows.length (rows.length + rG))), (12, .c (i64 i))], H⟩) rows.length
    ⟨⟨15, h.length⟩, [(0, .c (.ptr ib 0)), (2, .c (bC false)), (6, .c (.sl iG 0 rows.length (rows.length + rG))), (12, .c (i64 (0 : Nat)))], H⟩ ⟨0, rfl, Nat.zero_le _, rfl⟩ ⟨rfl, rfl, rfl, rfl, rfl, rfl, trivial⟩ ?_
  rintro μ σ ⟨i, rfl, hi, rfl⟩
  by_cases hlt : i < rows.length
  · have hd : decide ((i : Int) < (rows.length : Int)) = true := by simp only [decide_eq_true_eq]; omega
    obtain ⟨e, he⟩ : ∃ e, rows[i]? = some e := ⟨_, List.getElem?_eq_getElem hlt⟩
    obtain ⟨g, hg⟩ : ∃ g, gs[i]? = some g := ⟨_, List.getElem?_eq_getElem (by rw [G.gl]; exact hlt)⟩
    have g1 : (rows.map RE.sc ++ List.replicate r nilS).getD i .any = .sl e.iO 0 e.es.length (e.es.length + e.r) := getD_map he
    have g2 : (gs.map (fun g => SC.sl g.1 0 (g.2.2 + 5) g.2.1) ++ List.replicate rG nilS).getD i .any = .sl g.1 0 (g.2.2 + 5) g.2.1 := getD_map hg
    obtain ⟨⟨o1, q1, a1⟩, ⟨q2, a2, a2e⟩, a3, a4, a5⟩ := G.at_ i e g he hg
    rw [a4] at g2
    have hlen := len0 i e he
    have e3 : IntKind.i64.wrap ((i : Int) + 1) = ((i + 1 : Nat) : Int) := by rw [w64] <;> omega
    have v1 : IntKind.i64.wrap (1000 * (i : Int)) = ((1000 * i : Nat) : Int) := by rw [w64] <;> omega
    simp (maxSteps := 4000000) only [Try.results24, kb, kL, hd, g1, XX, Nat.reduceBEq, Nat.reduceLT, Nat.reduceAdd, Nat.reduceMul, Nat.reduceSub, Nat.reduceLeDiff, Nat.reduceEqDiff, Int.reduceToNat, Int.reduceLT, Int.reduceLE, Int.reduceAdd, Int.reduceSub, Int.reduceEq, reduceIte, Nat.reduceBNe, Int.reducePow, Nat.reducePow, Int.reduceMul, Int.reduceNeg, isB_i, isB_b, isB_y, isBv_i, isBv_b, eqCells_t, TT]
    refine ⟨⟨by omega, by omega⟩, by simp; omega, ?_⟩
    refine loop_at cx_ok 400 (fun μ σ => ∃ m : Nat, μ = e.es.length + 5 - m ∧ m ≤ e.es.length + 5 ∧ σ = ⟨⟨15, h.length⟩, [(0, .c (.ptr ib 0)), (2, .c (bC false)), (6, .c (.sl iG 0 rows.length (rows.length + rG))), (12, .c (i64 i)), (13, .c (.sl e.iO 0 e.es.length (e.es.length + e.r))), (14, .c (i64 m))], H⟩) (e.es.length + 5)
      ⟨⟨15, h.length⟩, [(0, .c (.ptr ib 0)), (2, .c (bC false)), (6, .c (.sl iG 0 rows.length (rows.length + rG))), (12, .c (i64 i)), (13, .c (.sl e.iO 0 e.es.length (e.es.length + e.r))), (14, .c (i64 (0 : Nat)))], H⟩ ⟨0, rfl, Nat.zero_le _, rfl⟩ ⟨rfl, rfl, rfl, rfl, rfl, rfl, rfl, rfl, trivial⟩ ?_
    rintro μ σ ⟨m, rfl, hm, rfl⟩
    have p1 : (0 : Int) ≤ (i : Int) ∧ (i : Int) < (rows.length : Int) := ⟨by omega, by omega⟩
    have p2 : i < (gs.map (fun g => SC.sl g.1 0 (g.2.2 + 5) g.2.1) ++ List.replicate rG nilS).length := by simp [G.gl]; omega
    have e4 : IntKind.i64.wrap ((m : Int) + 1) = ((m + 1 : Nat) : Int) := by rw [w64] <;> omega
    have v2 : IntKind.i64.wrap (((1000 * i : Nat) : Int) + (m : Int)) = ((1000 * i + m : Nat) : Int) := by rw [w64] <;> omega
    have dM : decide (((1000 * i + m : Nat) : Int) = ((1000 * i + m : Nat) : Int)) = true := by simp
    by_cases hlt2 : m < e.es.length + 5
    · have hd2 : decide ((m : Int) < ((e.es.length + 5 : Nat) : Int)) = true := by simp only [decide_eq_true_eq]; omega
      have f1 : (mkC i (e.es.length + 5) ++ q1).getD (m * 2) .any = i64 ((1000 * i + m : Nat) : Int) := mkC_get i q1 hlt2
      have l1 := mkC_len i (e.es.length + 5)
      have l2 := mkC_len i e.es.length
      by_cases hlt3 : m < e.es.length
      · have hd3 : decide ((m : Int) < (e.es.length : Int)) = true := by simp only [decide_eq_true_eq]; omega
        have f2 : (mkC i e.es.length ++ q2).getD (m * 2) .any = i64 ((1000 * i + m : Nat) : Int) := mkC_get i q2 hlt3
        simp (maxSteps := 4000000) only [Try.results24, hG, g2, hd2, p1, p2, v1, v2, dM, a1, a2, f1, f2, hd3, e4, XX, Nat.reduceBEq, Nat.reduceLT, Nat.reduceAdd, Nat.reduceMul, Nat.reduceSub, Nat.reduceLeDiff, Nat.reduceEqDiff, Int.reduceToNat, Int.reduceLT, Int.reduceLE, Int.reduceAdd, Int.reduceSub, Int.reduceEq, reduceIte, Nat.reduceBNe, Int.reducePow, Nat.reducePow, Int.reduceMul, Int.reduceNeg, isB_i, isB_b, isB_y, isBv_i, isBv_b, eqCells_t, TT]
        exact ⟨by omega, by rw [List.length_append, l1]; omega, by omega, by rw [List.length_append, l2]; omega, e.es.length + 5 - (m + 1), by omega, _, ⟨m + 1, rfl, by omega, rfl⟩, rfl, rfl, rfl, rfl, rfl, rfl, rfl, rfl, trivial⟩
      · have hd3 : decide ((m : Int) < (e.es.length : Int)) = false := by simp only [decide_eq_false_iff_not]; omega
        have f2 : (mkC i e.es.length ++ q2).getD (m * 2) .any = q2.getD ((m - e.es.length) * 2) .any := by
          rw [List.getD_eq_getElem?_getD, List.getElem?_append_right (by omega), ← List.getD_eq_getElem?_getD, l2, ← Nat.sub_mul]
        have bad : ∀ {d : TD} {sz : List Bool} {fl : Bool} {op : BinOp} {y : SC}, binS d sz fl op (.c .any) (.c y) = .bad := by intros; rfl
        rcases a2e (m - e.es.length) with ⟨z, hz⟩ | hz
        all_goals
          rw [hz] at f2
          simp (maxSteps := 4000000) only [Try.results24, hG, g2, hd2, p1, p2, v1, v2, dM, a1, a2, f1, f2, hd3, e4, bad, XX, Nat.reduceBEq, Nat.reduceLT, Nat.reduceAdd, Nat.reduceMul, Nat.reduceSub, Nat.reduceLeDiff, Nat.reduceEqDiff, Int.reduceToNat, Int.reduceLT, Int.reduceLE, Int.reduceAdd, Int.reduceSub, Int.reduceEq, reduceIte, Nat.reduceBNe, Int.reducePow, Nat.reducePow, Int.reduceMul, Int.reduceNeg, isB_i, isB_b, isB_y, isBv_i, isBv_b, eqCells_t, TT]
          exact ⟨by omega, by rw [List.length_append, l1]; omega, e.es.length + 5 - (m + 1), by omega, _, ⟨m + 1, rfl, by omega, rfl⟩, rfl, rfl, rfl, rfl, rfl, rfl, rfl, rfl, trivial⟩
    · have hm' : m = e.es.length + 5 := by omega
      subst hm'
      have hd2 : decide (((e.es.length + 5 : Nat) : Int) < ((e.es.length + 5 : Nat) : Int)) = false := by simp
      simp (maxSteps := 4000000) only [Try.results24, hG, g2, hd2, p1, p2, e3, XX, Nat.reduceBEq, Nat.reduceLT, Nat.reduceAdd, Nat.reduceMul, Nat.reduceSub, Nat.reduceLeDiff, Nat.reduceEqDiff, Int.reduceToNat, Int.reduceLT, Int.reduceLE, Int.reduceAdd, Int.reduceSub, Int.reduceEq, reduceIte, Nat.reduceBNe, Int.reducePow, Nat.reducePow, Int.reduceMul, Int.reduceNeg, isB_i, isB_b, isB_y, isBv_i, isBv_b, eqCells_t, TT]
      exact ⟨rows.length - (i + 1), by omega, _, ⟨i + 1, rfl, by omega, rfl⟩, rfl, rfl, rfl, rfl, rfl, rfl, trivial⟩
  · have hi' : i = rows.length := by omega
    subst hi'
    have hd : decide ((rows.length : Int) < (rows.length : Int)) = false := by simp
    simp (maxSteps := 4000000) only [Try.results24, hd, XX, Nat.reduceBEq, Nat.reduceLT, Nat.reduceAdd, Nat.reduceMul, Nat.reduceSub, Nat.reduceLeDiff, Nat.reduceEqDiff, Int.reduceToNat, Int.reduceLT, Int.reduceLE, Int.reduceAdd, Int.reduceSub, Int.reduceEq, reduceIte, Nat.reduceBNe, Int.reducePow, Nat.reducePow, Int.reduceMul, Int.reduceNeg, isB_i, isB_b, isB_y, isBv_i, isBv_b, eqCells_t, TT]
end Go.Proofs.Ytflccffjfnfoiaa.Sx
