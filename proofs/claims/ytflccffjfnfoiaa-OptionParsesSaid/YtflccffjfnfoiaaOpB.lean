/- The symbolic executor, at work: options, and the one of a code. No condition. -/
import Derived.Test.YtflccffjfnfoiaaRs
import Derived.Test.YtflccffjfnfoiaaBf
import Derived.Test.YtflccffjfnfoiaaArg
import Derived.Test.YtflccffjfnfoiaaGt
import Derived.Test.YtflccffjfnfoiaaGr
namespace Go.Proofs.Ytflccffjfnfoiaa.Sx
open Go
set_option linter.unusedSimpArgs false
set_option linter.unusedVariables false
set_option maxRecDepth 10000
set_option maxHeartbeats 2000000

/-- An option: its code, its bytes, what stands behind them, their room. -/
structure OI where
  k : Int
  d : List UInt8
  sp : List UInt8
  c : Nat
abbrev OI.rc (x : OI) : List RC := [.v (.int .i64 x.k), .sl (bsR (x.d ++ x.sp)) x.d.length x.c]
structure OI.ok (x : OI) : Prop where
  c : x.d.length ≤ x.c
  m : x.d.length ≤ 140737488351232
  k : -9223372036854775808 ≤ x.k ∧ x.k < 9223372036854775808
abbrev osR (xs : List OI) : List RC := (xs.map OI.rc).flatten
abbrev roO (xs sp : List OI) (c : Nat) : SC := .ro (osR (xs ++ sp)) xs.length c
theorem osR_drop {xs : List OI} {i : Nat} {x : OI} (h : xs[i]? = some x) : ∃ R, (osR xs).drop (i * 2) = x.rc ++ R := by
  have hl : ∀ y ∈ xs.map OI.rc, y.length = 2 := by
    intro y hy
    simp only [List.mem_map] at hy
    obtain ⟨o, _, rfl⟩ := hy
    rfl
  obtain ⟨h1, rfl⟩ := List.getElem?_eq_some_iff.1 h
  have := flat_at hl (i := i) (by simpa using h1)
  rw [List.getElem_map] at this
  refine ⟨((osR xs).drop (i * 2)).drop 2, ?_⟩
  rw [← this, List.take_append_drop]
theorem osR_at {xs sp : List OI} {i : Nat} {x : OI} (h : xs[i]? = some x) : ∃ R, (osR (xs ++ sp)).drop (i * 2) = .v (.int .i64 x.k) :: .sl (bsR (x.d ++ x.sp)) x.d.length x.c :: R := by
  obtain ⟨R, hR⟩ := osR_drop (xs := xs ++ sp) (i := i) (x := x) (by rw [List.getElem?_append_left (List.getElem?_eq_some_iff.1 h).1]; exact h)
  exact ⟨R, by rw [hR]; rfl⟩
theorem OI.form {n : Nat} {x : List RC} (h : RTy T reachBytes (n + 4) 58 x) : ∃ o : OI, x = o.rc ∧ o.ok := by
  obtain ⟨parts, rfl, h1⟩ := RTy_struct T_58 h
  simp only [List.map_cons, List.map_nil] at h1
  obtain ⟨p1, r1, rfl, q1, h2⟩ := RTyL_cons h1
  obtain ⟨p2, r2, rfl, q2, h3⟩ := RTyL_cons h2
  obtain rfl := RTyL_nil h3
  obtain ⟨a, rfl, ha⟩ := RTy_int T_3 q1
  obtain ⟨l, sp, c, rfl, hc1, hc2, hc3, hc4⟩ := RTy_bytes (n := n + 1) q2
  simp [IntKind.min, IntKind.max, IntKind.bits, IntKind.signed] at ha
  exact ⟨⟨a, l, sp, c⟩, rfl, hc1, Nat.le_trans hc1 hc4, ha.1, by have := ha.2; show a < _; omega⟩

/-- The option of a code. -/
def findO (xs : List OI) (k : Int) : Option OI := xs.find? fun x => decide (x.k = k)
def findD (xs : List OI) (k : Int) : List UInt8 := match findO xs k with
  | some x => x.d
  | none => []
/-- Bytes and a Bool. -/
def resSB (l : List UInt8) (b : Bool) (s : SV) (h' : List SB) : Prop := ∃ sp o, s = .tup [(false, [slB 0 l sp]), (false, [bC b])] ∧ h' = [wB o (l ++ sp)] ∧ (0 < l.length + sp.length → o = true)
theorem resSB_noRo {l : List UInt8} {b : Bool} {t : SV} {h' : List SB} (h : resSB l b t h') : t.noRo = true ∧ (h'.all fun b => b.cells.all SC.noRo) = true := by
  obtain ⟨sp, o, rfl, rfl, _⟩ := h
  exact ⟨rfl, by simp only [XX, Nat.reduceBEq, Nat.reduceLT, Nat.reduceAdd, Nat.reduceMul, Nat.reduceSub, Nat.reduceLeDiff, Nat.reduceEqDiff, Int.reduceToNat, Int.reduceLT, Int.reduceLE, Int.reduceAdd, Int.reduceSub, Int.reduceEq, reduceIte, Nat.reduceBNe, Int.reducePow, Nat.reducePow, Int.reduceMul, Int.reduceNeg, isB_i, isB_b, isB_y, isBv_i, isBv_b, eqCells_t, TT, ids_bsC, ren_bsC, noRo_bsC, plain_bsC, lt_bsC, ids_byte, ren_byte, noRo_byte, plain_byte, lt_byte]⟩
theorem resSB_of {P : Program} {f : FuncId} {args : List SV} {l : List UInt8} {b : Bool} (s : Spec P f args [] fun s h' => (∃ w sp o, s = .tup [(false, [slB w l sp]), (false, [bC b])] ∧ Buf h' w o l sp) ∨ (l = [] ∧ s = .tup [(false, [.v (.slice none 0 0)]), (false, [bC b])])) : Spec P f args [] (resSB l b) :=
  s.wk fun t h' h => h.elim (fun ⟨w, sp, o, h1, B⟩ => ⟨.tup [(false, [slB 0 l sp]), (false, [bC b])], [wB o (l ++ sp)], [some w], rfl, by simp only [XX, Nat.reduceBEq, Nat.reduceLT, Nat.reduceAdd, Nat.reduceMul, Nat.reduceSub, Nat.reduceLeDiff, Nat.reduceEqDiff, Int.reduceToNat, Int.reduceLT, Int.reduceLE, Int.reduceAdd, Int.reduceSub, Int.reduceEq, reduceIte, Nat.reduceBNe, Int.reducePow, Nat.reducePow, Int.reduceMul, Int.reduceNeg, isB_i, isB_b, isB_y, isBv_i, isBv_b, eqCells_t, TT, ids_bsC, ren_bsC, noRo_bsC, plain_bsC, lt_bsC, ids_byte, ren_byte, noRo_byte, plain_byte, lt_byte, B.at_], by subst h1; simp only [XX, Nat.reduceBEq, Nat.reduceLT, Nat.reduceAdd, Nat.reduceMul, Nat.reduceSub, Nat.reduceLeDiff, Nat.reduceEqDiff, Int.reduceToNat, Int.reduceLT, Int.reduceLE, Int.reduceAdd, Int.reduceSub, Int.reduceEq, reduceIte, Nat.reduceBNe, Int.reducePow, Nat.reducePow, Int.reduceMul, Int.reduceNeg, isB_i, isB_b, isB_y, isBv_i, isBv_b, eqCells_t, TT, ids_bsC, ren_bsC, noRo_bsC, plain_bsC, lt_bsC, ids_byte, ren_byte, noRo_byte, plain_byte, lt_byte], sp, o, rfl, rfl, B.own⟩)
    fun ⟨h0, h1⟩ => ⟨.tup [(false, [slB 0 [] []]), (false, [bC b])], [wB false ([] ++ [])], [none], rfl, by simp only [XX, Nat.reduceBEq, Nat.reduceLT, Nat.reduceAdd, Nat.reduceMul, Nat.reduceSub, Nat.reduceLeDiff, Nat.reduceEqDiff, Int.reduceToNat, Int.reduceLT, Int.reduceLE, Int.reduceAdd, Int.reduceSub, Int.reduceEq, reduceIte, Nat.reduceBNe, Int.reducePow, Nat.reducePow, Int.reduceMul, Int.reduceNeg, isB_i, isB_b, isB_y, isBv_i, isBv_b, eqCells_t, TT, List.map_nil], by subst h1; exact .inr ⟨rfl, ⟨.inr (.inr ⟨_, _, rfl, .inl rfl⟩), trivial⟩, rfl, ⟨.inl ⟨rfl, rfl⟩, trivial⟩, trivial⟩, [], false, by rw [h0], by rw [h0], fun h => absurd h (by simp [h0])⟩

theorem cloneB_spec (l sp : List UInt8) (c : Nat) (hc : l.length ≤ c) (hl : l.length ≤ 140737488351232) : Spec cx.P 46 [.c (roB l sp c)] [] (resS l) := by
  by_cases hn : 0 < l.length
  · refine resS_of ?_
    refine spec_of_X cx_ok Try.func46 rfl (by kernel_rfl) (by kernel_rfl) (Nat.le_of_ble_eq_true rfl) 400 3 ?_
    simp (maxSteps := 4000000) only [Try.results46, XX, Nat.reduceBEq, Nat.reduceLT, Nat.reduceAdd, Nat.reduceMul, Nat.reduceSub, Nat.reduceLeDiff, Nat.reduceEqDiff, Int.reduceToNat, Int.reduceLT, Int.reduceLE, Int.reduceAdd, Int.reduceSub, Int.reduceEq, reduceIte, Nat.reduceBNe, Int.reducePow, Nat.reducePow, Int.reduceMul, Int.reduceNeg, isB_i, isB_b, isB_y, isBv_i, isBv_b, eqCells_t, TT]
    have e0 : (bsR (l ++ sp)).take l.length = bsR l := by rw [rs_take, List.take_left' rfl]
    refine ⟨by omega, ⟨⟨by omega, by unfold maxLen; omega, by simp, fun h => by omega⟩, by simp⟩, xapp_grow hn fun c' h1 _ => ?_⟩
    obtain ⟨r, rfl⟩ := Nat.exists_eq_add_of_le h1
    simp (maxSteps := 4000000) only [Try.results46, e0, bsR_toSC, Nat.add_sub_cancel_left, zeros_flat, bs_app, XX, Nat.reduceBEq, Nat.reduceLT, Nat.reduceAdd, Nat.reduceMul, Nat.reduceSub, Nat.reduceLeDiff, Nat.reduceEqDiff, Int.reduceToNat, Int.reduceLT, Int.reduceLE, Int.reduceAdd, Int.reduceSub, Int.reduceEq, reduceIte, Nat.reduceBNe, Int.reducePow, Nat.reducePow, Int.reduceMul, Int.reduceNeg, isB_i, isB_b, isB_y, isBv_i, isBv_b, eqCells_t, TT]
    exact ⟨1, List.replicate r 0, true, by simp, rfl, fun _ => rfl⟩
  have h0 : l = [] := List.eq_nil_of_length_eq_zero (by omega)
  subst h0
  by_cases hc0 : 0 < c
  · refine resS_of ?_
    refine spec_of_X cx_ok Try.func46 rfl (by kernel_rfl) (by kernel_rfl) (Nat.le_of_ble_eq_true rfl) 400 3 ?_
    simp (maxSteps := 4000000) only [Try.results46, XX, Nat.reduceBEq, Nat.reduceLT, Nat.reduceAdd, Nat.reduceMul, Nat.reduceSub, Nat.reduceLeDiff, Nat.reduceEqDiff, Int.reduceToNat, Int.reduceLT, Int.reduceLE, Int.reduceAdd, Int.reduceSub, Int.reduceEq, reduceIte, Nat.reduceBNe, Int.reducePow, Nat.reducePow, Int.reduceMul, Int.reduceNeg, isB_i, isB_b, isB_y, isBv_i, isBv_b, eqCells_t, TT]
    refine ⟨hc0, by unfold maxLen; omega, xapp_room (by omega) ?_⟩
    simp (maxSteps := 4000000) only [Try.results46, XX, Nat.reduceBEq, Nat.reduceLT, Nat.reduceAdd, Nat.reduceMul, Nat.reduceSub, Nat.reduceLeDiff, Nat.reduceEqDiff, Int.reduceToNat, Int.reduceLT, Int.reduceLE, Int.reduceAdd, Int.reduceSub, Int.reduceEq, reduceIte, Nat.reduceBNe, Int.reducePow, Nat.reducePow, Int.reduceMul, Int.reduceNeg, isB_i, isB_b, isB_y, isBv_i, isBv_b, eqCells_t, TT]
    exact ⟨0, [], true, rfl, rfl, fun _ => rfl⟩
  have h0 : c = 0 := by omega
  subst h0
  refine Spec.ro0 (resS_nil ?_) fun a => resS_of ?_
  · refine spec_of_X cx_ok Try.func46 rfl (by kernel_rfl) (by kernel_rfl) (Nat.le_of_ble_eq_true rfl) 400 3 ?_
    simp (maxSteps := 4000000) only [Try.results46, XX, Nat.reduceBEq, Nat.reduceLT, Nat.reduceAdd, Nat.reduceMul, Nat.reduceSub, Nat.reduceLeDiff, Nat.reduceEqDiff, Int.reduceToNat, Int.reduceLT, Int.reduceLE, Int.reduceAdd, Int.reduceSub, Int.reduceEq, reduceIte, Nat.reduceBNe, Int.reducePow, Nat.reducePow, Int.reduceMul, Int.reduceNeg, isB_i, isB_b, isB_y, isBv_i, isBv_b, eqCells_t, TT]
  · refine spec_of_X cx_ok Try.func46 rfl (by kernel_rfl) (by kernel_rfl) (Nat.le_of_ble_eq_true rfl) 400 3 ?_
    simp (maxSteps := 4000000) only [Try.results46, XX, Nat.reduceBEq, Nat.reduceLT, Nat.reduceAdd, Nat.reduceMul, Nat.reduceSub, Nat.reduceLeDiff, Nat.reduceEqDiff, Int.reduceToNat, Int.reduceLT, Int.reduceLE, Int.reduceAdd, Int.reduceSub, Int.reduceEq, reduceIte, Nat.reduceBNe, Int.reducePow, Nat.reducePow, Int.reduceMul, Int.reduceNeg, isB_i, isB_b, isB_y, isBv_i, isBv_b, eqCells_t, TT]
    simp (maxSteps := 4000000) only [Try.results46, binS_se, srcOf_s, XX, Nat.reduceBEq, Nat.reduceLT, Nat.reduceAdd, Nat.reduceMul, Nat.reduceSub, Nat.reduceLeDiff, Nat.reduceEqDiff, Int.reduceToNat, Int.reduceLT, Int.reduceLE, Int.reduceAdd, Int.reduceSub, Int.reduceEq, reduceIte, Nat.reduceBNe, Int.reducePow, Nat.reducePow, Int.reduceMul, Int.reduceNeg, isB_i, isB_b, isB_y, isBv_i, isBv_b, eqCells_t, TT]
    refine ⟨⟨by unfold maxLen; omega, by simp⟩, xapp_room (by omega) ?_⟩
    simp (maxSteps := 4000000) only [Try.results46, XX, Nat.reduceBEq, Nat.reduceLT, Nat.reduceAdd, Nat.reduceMul, Nat.reduceSub, Nat.reduceLeDiff, Nat.reduceEqDiff, Int.reduceToNat, Int.reduceLT, Int.reduceLE, Int.reduceAdd, Int.reduceSub, Int.reduceEq, reduceIte, Nat.reduceBNe, Int.reducePow, Nat.reducePow, Int.reduceMul, Int.reduceNeg, isB_i, isB_b, isB_y, isBv_i, isBv_b, eqCells_t, TT]
    exact ⟨0, [], true, rfl, rfl, fun _ => rfl⟩

theorem findO_skip {xs : List OI} {k : Int} {i : Nat} {x : OI} (h : findO (xs.drop i) k = findO xs k) (hx : xs[i]? = some x) (hk : x.k ≠ k) : findO (xs.drop (i + 1)) k = findO xs k := by
  rw [← h]
  obtain ⟨hi, rfl⟩ := List.getElem?_eq_some_iff.1 hx
  conv => rhs; rw [List.drop_eq_getElem_cons hi]
  unfold findO
  rw [List.find?_cons, show decide (xs[i].k = k) = false by simpa using hk]
theorem findO_hit {xs : List OI} {k : Int} {i : Nat} {x : OI} (h : findO (xs.drop i) k = findO xs k) (hx : xs[i]? = some x) (hk : x.k = k) : findO xs k = some x := by
  rw [← h]
  obtain ⟨hi, rfl⟩ := List.getElem?_eq_some_iff.1 hx
  rw [List.drop_eq_getElem_cons hi]
  unfold findO
  rw [List.find?_cons, show decide (xs[i].k = k) = true by simpa using hk]

theorem find_spec (xs sp : List OI) (c : Nat) (hok : ∀ x ∈ xs, x.ok) (hn : xs.length ≤ 140737488351232) (k : Int) : Spec cx.P 28 [.c (roO xs sp c), .c (i64 k)] [] (resSB (findD xs k) (findO xs k).isSome) := by
  refine resSB_of ?_
  refine spec_of_X cx_ok Try.func28 rfl (by kernel_rfl) (by kernel_rfl) (Nat.le_of_ble_eq_true rfl) 400 11 ?_
  simp (maxSteps := 4000000) only [Try.results28, XX, Nat.reduceBEq, Nat.reduceLT, Nat.reduceAdd, Nat.reduceMul, Nat.reduceSub, Nat.reduceLeDiff, Nat.reduceEqDiff, Int.reduceToNat, Int.reduceLT, Int.reduceLE, Int.reduceAdd, Int.reduceSub, Int.reduceEq, reduceIte, Nat.reduceBNe, Int.reducePow, Nat.reducePow, Int.reduceMul, Int.reduceNeg, isB_i, isB_b, isB_y, isBv_i, isBv_b, eqCells_t, TT]
  refine loop_any cx_ok 400 (fun μ σ => ∃ i : Nat, μ = xs.length - i ∧ i ≤ xs.length ∧ findO (xs.drop i) k = findO xs k ∧
      σ = ⟨⟨11, 0⟩, [(1, .c (i64 k)), (8, .c (roO xs sp c)), (9, .c (i64 xs.length)), (10, .c (i64 i))], []⟩) xs.length
    ⟨⟨11, 0⟩, [(1, .c (i64 k)), (8, .c (roO xs sp c)), (9, .c (i64 xs.length)), (10, .c (i64 (0 : Nat)))], []⟩ ⟨0, rfl, Nat.zero_le _, rfl, rfl⟩ (.inl ⟨rfl, rfl, rfl, rfl, rfl, rfl, trivial⟩) ?_
  rintro μ σ ⟨i, rfl, hi, hf, rfl⟩
  by_cases hlt : i < xs.length
  · have hd : decide ((i : Int) < (xs.length : Int)) = true := by simp only [decide_eq_true_eq]; omega
    have e3 : IntKind.i64.wrap ((i : Int) + 1) = ((i + 1 : Nat) : Int) := by rw [w64] <;> omega
    obtain ⟨x, hx⟩ : ∃ x, xs[i]? = some x := ⟨_, List.getElem?_eq_getElem hlt⟩
    obtain ⟨R, hR⟩ := osR_at (sp := sp) hx
    obtain ⟨ox1, ox2, ox3⟩ := hok x (List.mem_of_getElem? hx)
    by_cases hk : x.k = k
    · have dk : decide (x.k = k) = true := by simpa using hk
      simp (maxSteps := 4000000) only [Try.results28, hd, hR, dk, XX, Nat.reduceBEq, Nat.reduceLT, Nat.reduceAdd, Nat.reduceMul, Nat.reduceSub, Nat.reduceLeDiff, Nat.reduceEqDiff, Int.reduceToNat, Int.reduceLT, Int.reduceLE, Int.reduceAdd, Int.reduceSub, Int.reduceEq, reduceIte, Nat.reduceBNe, Int.reducePow, Nat.reducePow, Int.reduceMul, Int.reduceNeg, isB_i, isB_b, isB_y, isBv_i, isBv_b, eqCells_t, TT]
      refine ⟨by omega, ?_⟩
      refine call_fz [.c (roB x.d x.sp x.c)] (cloneB_spec x.d x.sp x.c ox1 (by omega)) (fun t h' h => resS_noRo h) ⟨.inl ⟨rfl, rfl⟩, trivial⟩ ?_
      rintro _ _ ⟨sp', o, rfl, rfl, ho⟩
      simp (maxSteps := 4000000) only [Try.results28, ids_bsC, ren_bsC, noRo_bsC, plain_bsC, lt_bsC, ids_byte, ren_byte, noRo_byte, plain_byte, lt_byte, XX, Nat.reduceBEq, Nat.reduceLT, Nat.reduceAdd, Nat.reduceMul, Nat.reduceSub, Nat.reduceLeDiff, Nat.reduceEqDiff, Int.reduceToNat, Int.reduceLT, Int.reduceLE, Int.reduceAdd, Int.reduceSub, Int.reduceEq, reduceIte, Nat.reduceBNe, Int.reducePow, Nat.reducePow, Int.reduceMul, Int.reduceNeg, isB_i, isB_b, isB_y, isBv_i, isBv_b, eqCells_t, TT]
      have h1 := findO_hit hf hx hk
      have h2 : findD xs k = x.d := by unfold findD; rw [h1]
      rw [h1, h2]
      exact .inl ⟨1, sp', o, rfl, rfl, ho⟩
    · have dk : decide (x.k = k) = false := by simpa using hk
      simp (maxSteps := 4000000) only [Try.results28, hd, hR, dk, e3, XX, Nat.reduceBEq, Nat.reduceLT, Nat.reduceAdd, Nat.reduceMul, Nat.reduceSub, Nat.reduceLeDiff, Nat.reduceEqDiff, Int.reduceToNat, Int.reduceLT, Int.reduceLE, Int.reduceAdd, Int.reduceSub, Int.reduceEq, reduceIte, Nat.reduceBNe, Int.reducePow, Nat.reducePow, Int.reduceMul, Int.reduceNeg, isB_i, isB_b, isB_y, isBv_i, isBv_b, eqCells_t, TT]
      exact ⟨by omega, xs.length - (i + 1), by omega, _, ⟨i + 1, rfl, by omega, findO_skip hf hx hk, rfl⟩, .inr ⟨[], rfl, rfl, trivial, ⟨.inl ⟨rfl, rfl⟩, .inl ⟨rfl, rfl⟩, .inl ⟨rfl, rfl⟩, .inl ⟨rfl, rfl⟩, trivial⟩⟩⟩
  obtain rfl : i = xs.length := by omega
  have hd : decide ((xs.length : Int) < (xs.length : Int)) = false := by simp
  simp (maxSteps := 4000000) only [Try.results28, hd, XX, Nat.reduceBEq, Nat.reduceLT, Nat.reduceAdd, Nat.reduceMul, Nat.reduceSub, Nat.reduceLeDiff, Nat.reduceEqDiff, Int.reduceToNat, Int.reduceLT, Int.reduceLE, Int.reduceAdd, Int.reduceSub, Int.reduceEq, reduceIte, Nat.reduceBNe, Int.reducePow, Nat.reducePow, Int.reduceMul, Int.reduceNeg, isB_i, isB_b, isB_y, isBv_i, isBv_b, eqCells_t, TT]
  rw [List.drop_length] at hf
  have h0 : findO xs k = none := by rw [← hf]; rfl
  have h1 : findD xs k = [] := by unfold findD; rw [h0]
  rw [h0, h1]
  exact .inr ⟨rfl, rfl⟩

/-- Where the option of a code stands. -/
theorem place_spec (xs sp : List OI) (c : Nat) (hn : xs.length ≤ 140737488351232) (k : Int) : Spec cx.P 41 [.c (roO xs sp c), .c (i64 k)] [] fun s _ => s.plain = true ∧ ((s = .c (i64 (-1)) ∧ findO xs k = none) ∨ ∃ (i : Nat) (x : OI), s = .c (i64 i) ∧ xs[i]? = some x ∧ findO xs k = some x) := by
  refine spec_of_X cx_ok Try.func41 rfl (by kernel_rfl) (by kernel_rfl) (Nat.le_of_ble_eq_true rfl) 400 6 ?_
  simp (maxSteps := 4000000) only [Try.results41, XX, Nat.reduceBEq, Nat.reduceLT, Nat.reduceAdd, Nat.reduceMul, Nat.reduceSub, Nat.reduceLeDiff, Nat.reduceEqDiff, Int.reduceToNat, Int.reduceLT, Int.reduceLE, Int.reduceAdd, Int.reduceSub, Int.reduceEq, reduceIte, Nat.reduceBNe, Int.reducePow, Nat.reducePow, Int.reduceMul, Int.reduceNeg, isB_i, isB_b, isB_y, isBv_i, isBv_b, eqCells_t, TT]
  refine loop_any cx_ok 400 (fun μ σ => ∃ i : Nat, μ = xs.length - i ∧ i ≤ xs.length ∧ findO (xs.drop i) k = findO xs k ∧
      σ = ⟨⟨6, 0⟩, [(0, .c (roO xs sp c)), (1, .c (i64 k)), (5, .c (i64 i))], []⟩) xs.length
    ⟨⟨6, 0⟩, [(0, .c (roO xs sp c)), (1, .c (i64 k)), (5, .c (i64 (0 : Nat)))], []⟩ ⟨0, rfl, Nat.zero_le _, rfl, rfl⟩ (.inl ⟨rfl, rfl, rfl, rfl, rfl, trivial⟩) ?_
  rintro μ σ ⟨i, rfl, hi, hf, rfl⟩
  by_cases hlt : i < xs.length
  · have hd : decide ((i : Int) < (xs.length : Int)) = true := by simp only [decide_eq_true_eq]; omega
    have e3 : IntKind.i64.wrap ((i : Int) + 1) = ((i + 1 : Nat) : Int) := by rw [w64] <;> omega
    obtain ⟨x, hx⟩ : ∃ x, xs[i]? = some x := ⟨_, List.getElem?_eq_getElem hlt⟩
    obtain ⟨R, hR⟩ := osR_at (sp := sp) hx
    by_cases hk : x.k = k
    · have dk : decide (x.k = k) = true := by simpa using hk
      simp (maxSteps := 4000000) only [Try.results41, hd, hR, dk, XX, Nat.reduceBEq, Nat.reduceLT, Nat.reduceAdd, Nat.reduceMul, Nat.reduceSub, Nat.reduceLeDiff, Nat.reduceEqDiff, Int.reduceToNat, Int.reduceLT, Int.reduceLE, Int.reduceAdd, Int.reduceSub, Int.reduceEq, reduceIte, Nat.reduceBNe, Int.reducePow, Nat.reducePow, Int.reduceMul, Int.reduceNeg, isB_i, isB_b, isB_y, isBv_i, isBv_b, eqCells_t, TT]
      exact ⟨by omega, by omega, .inr ⟨i, x, rfl, hx, findO_hit hf hx hk⟩⟩
    · have dk : decide (x.k = k) = false := by simpa using hk
      simp (maxSteps := 4000000) only [Try.results41, hd, hR, dk, e3, XX, Nat.reduceBEq, Nat.reduceLT, Nat.reduceAdd, Nat.reduceMul, Nat.reduceSub, Nat.reduceLeDiff, Nat.reduceEqDiff, Int.reduceToNat, Int.reduceLT, Int.reduceLE, Int.reduceAdd, Int.reduceSub, Int.reduceEq, reduceIte, Nat.reduceBNe, Int.reducePow, Nat.reducePow, Int.reduceMul, Int.reduceNeg, isB_i, isB_b, isB_y, isBv_i, isBv_b, eqCells_t, TT]
      exact ⟨by omega, by omega, xs.length - (i + 1), by omega, _, ⟨i + 1, rfl, by omega, findO_skip hf hx hk, rfl⟩, .inl ⟨rfl, rfl, rfl, rfl, rfl, trivial⟩⟩
  obtain rfl : i = xs.length := by omega
  have hd : decide ((xs.length : Int) < (xs.length : Int)) = false := by simp
  simp (maxSteps := 4000000) only [Try.results41, hd, XX, Nat.reduceBEq, Nat.reduceLT, Nat.reduceAdd, Nat.reduceMul, Nat.reduceSub, Nat.reduceLeDiff, Nat.reduceEqDiff, Int.reduceToNat, Int.reduceLT, Int.reduceLE, Int.reduceAdd, Int.reduceSub, Int.reduceEq, reduceIte, Nat.reduceBNe, Int.reducePow, Nat.reducePow, Int.reduceMul, Int.reduceNeg, isB_i, isB_b, isB_y, isBv_i, isBv_b, eqCells_t, TT]
  rw [List.drop_length] at hf
  exact .inl (by rw [← hf]; rfl)

theorem rfind_spec (xs sp : List OI) (c : Nat) (hok : ∀ x ∈ xs, x.ok) (hn : xs.length ≤ 140737488351232) (k : Int) : Spec cx.P 25 [.c (roO xs sp c), .c (i64 k)] [] (resSB (findD xs k) (findO xs k).isSome) := by
  refine resSB_of ?_
  refine spec_of_X cx_ok Try.func25 rfl (by kernel_rfl) (by kernel_rfl) (Nat.le_of_ble_eq_true rfl) 400 8 ?_
  simp (maxSteps := 4000000) only [Try.results25, XX, Nat.reduceBEq, Nat.reduceLT, Nat.reduceAdd, Nat.reduceMul, Nat.reduceSub, Nat.reduceLeDiff, Nat.reduceEqDiff, Int.reduceToNat, Int.reduceLT, Int.reduceLE, Int.reduceAdd, Int.reduceSub, Int.reduceEq, reduceIte, Nat.reduceBNe, Int.reducePow, Nat.reducePow, Int.reduceMul, Int.reduceNeg, isB_i, isB_b, isB_y, isBv_i, isBv_b, eqCells_t, TT]
  refine call_pureF [.c (roO xs sp c), .c (i64 k)] (place_spec xs sp c hn k) ⟨.inl ⟨rfl, rfl⟩, .inl ⟨rfl, rfl⟩, trivial⟩ ?_
  rintro _ (⟨rfl, h⟩ | ⟨i, x, rfl, hx, h⟩)
  · have h2 : findD xs k = [] := by unfold findD; rw [h]
    rw [h, h2]
    simp (maxSteps := 4000000) only [Try.results25, XX, Nat.reduceBEq, Nat.reduceLT, Nat.reduceAdd, Nat.reduceMul, Nat.reduceSub, Nat.reduceLeDiff, Nat.reduceEqDiff, Int.reduceToNat, Int.reduceLT, Int.reduceLE, Int.reduceAdd, Int.reduceSub, Int.reduceEq, reduceIte, Nat.reduceBNe, Int.reducePow, Nat.reducePow, Int.reduceMul, Int.reduceNeg, isB_i, isB_b, isB_y, isBv_i, isBv_b, eqCells_t, TT]
  · have h2 : findD xs k = x.d := by unfold findD; rw [h]
    rw [h, h2]
    obtain ⟨R, hR⟩ := osR_at (sp := sp) hx
    obtain ⟨ox1, ox2, ox3⟩ := hok x (List.mem_of_getElem? hx)
    have hlt := (List.getElem?_eq_some_iff.1 hx).1
    have hd : decide ((i : Int) < 0) = false := by simp only [decide_eq_false_iff_not]; omega
    have e0 : (bsR (x.d ++ x.sp)).take x.d.length = bsR x.d := by rw [rs_take, List.take_left' rfl]
    simp (maxSteps := 4000000) only [Try.results25, hd, hR, e0, bsR_toSC, XX, Nat.reduceBEq, Nat.reduceLT, Nat.reduceAdd, Nat.reduceMul, Nat.reduceSub, Nat.reduceLeDiff, Nat.reduceEqDiff, Int.reduceToNat, Int.reduceLT, Int.reduceLE, Int.reduceAdd, Int.reduceSub, Int.reduceEq, reduceIte, Nat.reduceBNe, Int.reducePow, Nat.reducePow, Int.reduceMul, Int.reduceNeg, isB_i, isB_b, isB_y, isBv_i, isBv_b, eqCells_t, TT]
    refine ⟨by omega, by omega, ⟨⟨by omega, by unfold maxLen; omega⟩, by simp⟩, xapp_nil (fun h => by rw [List.eq_nil_of_length_eq_zero h]; rfl) rfl (fun j o ho => ?_) (fun c => rfl)⟩
    simp (maxSteps := 4000000) only [Try.results25, zeros_flat, bs_app, XX, Nat.reduceBEq, Nat.reduceLT, Nat.reduceAdd, Nat.reduceMul, Nat.reduceSub, Nat.reduceLeDiff, Nat.reduceEqDiff, Int.reduceToNat, Int.reduceLT, Int.reduceLE, Int.reduceAdd, Int.reduceSub, Int.reduceEq, reduceIte, Nat.reduceBNe, Int.reducePow, Nat.reducePow, Int.reduceMul, Int.reduceNeg, isB_i, isB_b, isB_y, isBv_i, isBv_b, eqCells_t, TT]
    exact .inl ⟨0, List.replicate j 0, o, by simp, rfl, fun h => ho (by simpa using h)⟩

theorem get4_lt (l : List UInt8) (k : Nat) : get4 l k < 4294967296 := by
  have b0 := (l.getD k 0).toNat_lt
  have b1 := (l.getD (k + 1) 0).toNat_lt
  have b2 := (l.getD (k + 2) 0).toNat_lt
  have b3 := (l.getD (k + 3) 0).toNat_lt
  unfold get4
  omega
/-- A number of four bytes. -/
def numO (xs : List OI) (k : Int) : Nat × Bool := match findO xs k with
  | some x => if x.d.length = 4 then (get4 x.d 0, true) else (0, false)
  | none => (0, false)
/-- One byte. -/
def smallO (xs : List OI) (k : Int) : Nat × Bool := match findO xs k with
  | some x => if x.d.length = 1 then ((x.d.getD 0 0).toNat, true) else (0, false)
  | none => (0, false)
theorem findO_mem {xs : List OI} {k : Int} {x : OI} (h : findO xs k = some x) : x ∈ xs := List.mem_of_find?_eq_some h

section
variable (xs sp : List OI) (c : Nat) (hok : ∀ x ∈ xs, x.ok) (hn : xs.length ≤ 140737488351232) (k : Int)
include hok hn
theorem number_spec : Spec cx.P 29 [.c (roO xs sp c), .c (i64 k)] [] fun s _ => s.plain = true ∧ s = .tup [(false, [i32 (numO xs k).1]), (false, [bC (numO xs k).2])] := by
  have F := find_spec xs sp c hok hn k
  unfold numO
  cases hf : findO xs k
  · have h1 : findD xs k = [] := by unfold findD; rw [hf]
    rw [hf, h1] at F
    refine spec_of_X cx_ok Try.func29 rfl (by kernel_rfl) (by kernel_rfl) (Nat.le_of_ble_eq_true rfl) 400 9 ?_
    simp (maxSteps := 4000000) only [Try.results29, XX, Nat.reduceBEq, Nat.reduceLT, Nat.reduceAdd, Nat.reduceMul, Nat.reduceSub, Nat.reduceLeDiff, Nat.reduceEqDiff, Int.reduceToNat, Int.reduceLT, Int.reduceLE, Int.reduceAdd, Int.reduceSub, Int.reduceEq, reduceIte, Nat.reduceBNe, Int.reducePow, Nat.reducePow, Int.reduceMul, Int.reduceNeg, isB_i, isB_b, isB_y, isBv_i, isBv_b, eqCells_t, TT]
    refine call_fz [.c (roO xs sp c), .c (i64 k)] F (fun t h' h => resSB_noRo h) ⟨.inl ⟨rfl, rfl⟩, .inl ⟨rfl, rfl⟩, trivial⟩ ?_
    rintro _ _ ⟨sp', o, rfl, rfl, ho⟩
    simp (maxSteps := 4000000) only [Try.results29, ids_bsC, ren_bsC, noRo_bsC, plain_bsC, lt_bsC, ids_byte, ren_byte, noRo_byte, plain_byte, lt_byte, XX, Nat.reduceBEq, Nat.reduceLT, Nat.reduceAdd, Nat.reduceMul, Nat.reduceSub, Nat.reduceLeDiff, Nat.reduceEqDiff, Int.reduceToNat, Int.reduceLT, Int.reduceLE, Int.reduceAdd, Int.reduceSub, Int.reduceEq, reduceIte, Nat.reduceBNe, Int.reducePow, Nat.reducePow, Int.reduceMul, Int.reduceNeg, isB_i, isB_b, isB_y, isBv_i, isBv_b, eqCells_t, TT]
  · rename_i x
    have hx := hok x (findO_mem hf)
    have h1 : findD xs k = x.d := by unfold findD; rw [hf]
    rw [hf, h1] at F
    by_cases h4 : x.d.length = 4
    · have hd : decide ((x.d.length : Int) = 4) = true := by simp only [decide_eq_true_eq]; omega
      simp only [if_pos h4]
      refine spec_of_X cx_ok Try.func29 rfl (by kernel_rfl) (by kernel_rfl) (Nat.le_of_ble_eq_true rfl) 400 9 ?_
      simp (maxSteps := 4000000) only [Try.results29, XX, Nat.reduceBEq, Nat.reduceLT, Nat.reduceAdd, Nat.reduceMul, Nat.reduceSub, Nat.reduceLeDiff, Nat.reduceEqDiff, Int.reduceToNat, Int.reduceLT, Int.reduceLE, Int.reduceAdd, Int.reduceSub, Int.reduceEq, reduceIte, Nat.reduceBNe, Int.reducePow, Nat.reducePow, Int.reduceMul, Int.reduceNeg, isB_i, isB_b, isB_y, isBv_i, isBv_b, eqCells_t, TT]
      refine call_fz [.c (roO xs sp c), .c (i64 k)] F (fun t h' h => resSB_noRo h) ⟨.inl ⟨rfl, rfl⟩, .inl ⟨rfl, rfl⟩, trivial⟩ ?_
      rintro _ _ ⟨sp', o, rfl, rfl, ho⟩
      obtain rfl := ho (by omega)
      simp (maxSteps := 4000000) only [Try.results29, ids_bsC, ren_bsC, noRo_bsC, plain_bsC, lt_bsC, ids_byte, ren_byte, noRo_byte, plain_byte, lt_byte, hd, XX, Nat.reduceBEq, Nat.reduceLT, Nat.reduceAdd, Nat.reduceMul, Nat.reduceSub, Nat.reduceLeDiff, Nat.reduceEqDiff, Int.reduceToNat, Int.reduceLT, Int.reduceLE, Int.reduceAdd, Int.reduceSub, Int.reduceEq, reduceIte, Nat.reduceBNe, Int.reducePow, Nat.reducePow, Int.reduceMul, Int.reduceNeg, isB_i, isB_b, isB_y, isBv_i, isBv_b, eqCells_t, TT]
      refine call_pureF [.c (roB x.d sp' (x.d.length + sp'.length)), .c (i64 0), .c (i64 4)] (K := fun s => s = .tup [(false, [u64 (get4 x.d 0 : Nat)]), (false, [.v (.int .i64 0)])]) ((get4_spec x.d sp' (x.d.length + sp'.length) 0 (by omega) (by omega) (by have := hx.c; have := hx.m; omega)).mono fun s h' h => by rw [h.1]; exact ⟨rfl, rfl⟩) ⟨fz_c (fz_sl rfl rfl rfl), .inl ⟨rfl, rfl⟩, .inl ⟨rfl, rfl⟩, trivial⟩ ?_
      rintro _ rfl
      have b0 := get4_lt x.d 0
      have e1 : IntKind.u32.wrap (get4 x.d 0 : Nat) = (get4 x.d 0 : Nat) := by rw [wu32] <;> omega
      simp (maxSteps := 4000000) only [Try.results29, e1, XX, Nat.reduceBEq, Nat.reduceLT, Nat.reduceAdd, Nat.reduceMul, Nat.reduceSub, Nat.reduceLeDiff, Nat.reduceEqDiff, Int.reduceToNat, Int.reduceLT, Int.reduceLE, Int.reduceAdd, Int.reduceSub, Int.reduceEq, reduceIte, Nat.reduceBNe, Int.reducePow, Nat.reducePow, Int.reduceMul, Int.reduceNeg, isB_i, isB_b, isB_y, isBv_i, isBv_b, eqCells_t, TT]
    · have hd : decide ((x.d.length : Int) = 4) = false := by simp only [decide_eq_false_iff_not]; omega
      simp only [if_neg h4]
      refine spec_of_X cx_ok Try.func29 rfl (by kernel_rfl) (by kernel_rfl) (Nat.le_of_ble_eq_true rfl) 400 9 ?_
      simp (maxSteps := 4000000) only [Try.results29, XX, Nat.reduceBEq, Nat.reduceLT, Nat.reduceAdd, Nat.reduceMul, Nat.reduceSub, Nat.reduceLeDiff, Nat.reduceEqDiff, Int.reduceToNat, Int.reduceLT, Int.reduceLE, Int.reduceAdd, Int.reduceSub, Int.reduceEq, reduceIte, Nat.reduceBNe, Int.reducePow, Nat.reducePow, Int.reduceMul, Int.reduceNeg, isB_i, isB_b, isB_y, isBv_i, isBv_b, eqCells_t, TT]
      refine call_fz [.c (roO xs sp c), .c (i64 k)] F (fun t h' h => resSB_noRo h) ⟨.inl ⟨rfl, rfl⟩, .inl ⟨rfl, rfl⟩, trivial⟩ ?_
      rintro _ _ ⟨sp', o, rfl, rfl, ho⟩
      simp (maxSteps := 4000000) only [Try.results29, ids_bsC, ren_bsC, noRo_bsC, plain_bsC, lt_bsC, ids_byte, ren_byte, noRo_byte, plain_byte, lt_byte, hd, XX, Nat.reduceBEq, Nat.reduceLT, Nat.reduceAdd, Nat.reduceMul, Nat.reduceSub, Nat.reduceLeDiff, Nat.reduceEqDiff, Int.reduceToNat, Int.reduceLT, Int.reduceLE, Int.reduceAdd, Int.reduceSub, Int.reduceEq, reduceIte, Nat.reduceBNe, Int.reducePow, Nat.reducePow, Int.reduceMul, Int.reduceNeg, isB_i, isB_b, isB_y, isBv_i, isBv_b, eqCells_t, TT]
theorem rnumber_spec : Spec cx.P 26 [.c (roO xs sp c), .c (i64 k)] [] fun s _ => s.plain = true ∧ s = .tup [(false, [i32 (numO xs k).1]), (false, [bC (numO xs k).2])] := by
  have F := rfind_spec xs sp c hok hn k
  unfold numO
  cases hf : findO xs k
  · have h1 : findD xs k = [] := by unfold findD; rw [hf]
    rw [hf, h1] at F
    refine spec_of_X cx_ok Try.func26 rfl (by kernel_rfl) (by kernel_rfl) (Nat.le_of_ble_eq_true rfl) 400 9 ?_
    simp (maxSteps := 4000000) only [Try.results26, XX, Nat.reduceBEq, Nat.reduceLT, Nat.reduceAdd, Nat.reduceMul, Nat.reduceSub, Nat.reduceLeDiff, Nat.reduceEqDiff, Int.reduceToNat, Int.reduceLT, Int.reduceLE, Int.reduceAdd, Int.reduceSub, Int.reduceEq, reduceIte, Nat.reduceBNe, Int.reducePow, Nat.reducePow, Int.reduceMul, Int.reduceNeg, isB_i, isB_b, isB_y, isBv_i, isBv_b, eqCells_t, TT]
    refine call_fz [.c (roO xs sp c), .c (i64 k)] F (fun t h' h => resSB_noRo h) ⟨.inl ⟨rfl, rfl⟩, .inl ⟨rfl, rfl⟩, trivial⟩ ?_
    rintro _ _ ⟨sp', o, rfl, rfl, ho⟩
    simp (maxSteps := 4000000) only [Try.results26, ids_bsC, ren_bsC, noRo_bsC, plain_bsC, lt_bsC, ids_byte, ren_byte, noRo_byte, plain_byte, lt_byte, XX, Nat.reduceBEq, Nat.reduceLT, Nat.reduceAdd, Nat.reduceMul, Nat.reduceSub, Nat.reduceLeDiff, Nat.reduceEqDiff, Int.reduceToNat, Int.reduceLT, Int.reduceLE, Int.reduceAdd, Int.reduceSub, Int.reduceEq, reduceIte, Nat.reduceBNe, Int.reducePow, Nat.reducePow, Int.reduceMul, Int.reduceNeg, isB_i, isB_b, isB_y, isBv_i, isBv_b, eqCells_t, TT]
  · rename_i x
    have hx := hok x (findO_mem hf)
    have h1 : findD xs k = x.d := by unfold findD; rw [hf]
    rw [hf, h1] at F
    by_cases h4 : x.d.length = 4
    · have hd : decide ((x.d.length : Int) = 4) = true := by simp only [decide_eq_true_eq]; omega
      simp only [if_pos h4]
      refine spec_of_X cx_ok Try.func26 rfl (by kernel_rfl) (by kernel_rfl) (Nat.le_of_ble_eq_true rfl) 400 9 ?_
      simp (maxSteps := 4000000) only [Try.results26, XX, Nat.reduceBEq, Nat.reduceLT, Nat.reduceAdd, Nat.reduceMul, Nat.reduceSub, Nat.reduceLeDiff, Nat.reduceEqDiff, Int.reduceToNat, Int.reduceLT, Int.reduceLE, Int.reduceAdd, Int.reduceSub, Int.reduceEq, reduceIte, Nat.reduceBNe, Int.reducePow, Nat.reducePow, Int.reduceMul, Int.reduceNeg, isB_i, isB_b, isB_y, isBv_i, isBv_b, eqCells_t, TT]
      refine call_fz [.c (roO xs sp c), .c (i64 k)] F (fun t h' h => resSB_noRo h) ⟨.inl ⟨rfl, rfl⟩, .inl ⟨rfl, rfl⟩, trivial⟩ ?_
      rintro _ _ ⟨sp', o, rfl, rfl, ho⟩
      obtain rfl := ho (by omega)
      simp (maxSteps := 4000000) only [Try.results26, ids_bsC, ren_bsC, noRo_bsC, plain_bsC, lt_bsC, ids_byte, ren_byte, noRo_byte, plain_byte, lt_byte, hd, XX, Nat.reduceBEq, Nat.reduceLT, Nat.reduceAdd, Nat.reduceMul, Nat.reduceSub, Nat.reduceLeDiff, Nat.reduceEqDiff, Int.reduceToNat, Int.reduceLT, Int.reduceLE, Int.reduceAdd, Int.reduceSub, Int.reduceEq, reduceIte, Nat.reduceBNe, Int.reducePow, Nat.reducePow, Int.reduceMul, Int.reduceNeg, isB_i, isB_b, isB_y, isBv_i, isBv_b, eqCells_t, TT]
      refine call_pureF [.c (roB x.d sp' (x.d.length + sp'.length)), .c (i64 0), .c (i64 4)] (K := fun s => s = .tup [(false, [u64 (get4 x.d 0 : Nat)]), (false, [.v (.int .i64 0)])]) ((rget4_spec x.d sp' (x.d.length + sp'.length) 0 (by omega) (by omega) (by have := hx.c; have := hx.m; omega)).mono fun s h' h => by rw [h.1]; exact ⟨rfl, rfl⟩) ⟨fz_c (fz_sl rfl rfl rfl), .inl ⟨rfl, rfl⟩, .inl ⟨rfl, rfl⟩, trivial⟩ ?_
      rintro _ rfl
      have b0 := get4_lt x.d 0
      have e1 : IntKind.u32.wrap (get4 x.d 0 : Nat) = (get4 x.d 0 : Nat) := by rw [wu32] <;> omega
      simp (maxSteps := 4000000) only [Try.results26, e1, XX, Nat.reduceBEq, Nat.reduceLT, Nat.reduceAdd, Nat.reduceMul, Nat.reduceSub, Nat.reduceLeDiff, Nat.reduceEqDiff, Int.reduceToNat, Int.reduceLT, Int.reduceLE, Int.reduceAdd, Int.reduceSub, Int.reduceEq, reduceIte, Nat.reduceBNe, Int.reducePow, Nat.reducePow, Int.reduceMul, Int.reduceNeg, isB_i, isB_b, isB_y, isBv_i, isBv_b, eqCells_t, TT]
    · have hd : decide ((x.d.length : Int) = 4) = false := by simp only [decide_eq_false_iff_not]; omega
      simp only [if_neg h4]
      refine spec_of_X cx_ok Try.func26 rfl (by kernel_rfl) (by kernel_rfl) (Nat.le_of_ble_eq_true rfl) 400 9 ?_
      simp (maxSteps := 4000000) only [Try.results26, XX, Nat.reduceBEq, Nat.reduceLT, Nat.reduceAdd, Nat.reduceMul, Nat.reduceSub, Nat.reduceLeDiff, Nat.reduceEqDiff, Int.reduceToNat, Int.reduceLT, Int.reduceLE, Int.reduceAdd, Int.reduceSub, Int.reduceEq, reduceIte, Nat.reduceBNe, Int.reducePow, Nat.reducePow, Int.reduceMul, Int.reduceNeg, isB_i, isB_b, isB_y, isBv_i, isBv_b, eqCells_t, TT]
      refine call_fz [.c (roO xs sp c), .c (i64 k)] F (fun t h' h => resSB_noRo h) ⟨.inl ⟨rfl, rfl⟩, .inl ⟨rfl, rfl⟩, trivial⟩ ?_
      rintro _ _ ⟨sp', o, rfl, rfl, ho⟩
      simp (maxSteps := 4000000) only [Try.results26, ids_bsC, ren_bsC, noRo_bsC, plain_bsC, lt_bsC, ids_byte, ren_byte, noRo_byte, plain_byte, lt_byte, hd, XX, Nat.reduceBEq, Nat.reduceLT, Nat.reduceAdd, Nat.reduceMul, Nat.reduceSub, Nat.reduceLeDiff, Nat.reduceEqDiff, Int.reduceToNat, Int.reduceLT, Int.reduceLE, Int.reduceAdd, Int.reduceSub, Int.reduceEq, reduceIte, Nat.reduceBNe, Int.reducePow, Nat.reducePow, Int.reduceMul, Int.reduceNeg, isB_i, isB_b, isB_y, isBv_i, isBv_b, eqCells_t, TT]
theorem small_spec : Spec cx.P 30 [.c (roO xs sp c), .c (i64 k)] [] fun s _ => s.plain = true ∧ s = .tup [(false, [i64 (smallO xs k).1]), (false, [bC (smallO xs k).2])] := by
  have F := find_spec xs sp c hok hn k
  unfold smallO
  cases hf : findO xs k
  · have h1 : findD xs k = [] := by unfold findD; rw [hf]
    rw [hf, h1] at F
    refine spec_of_X cx_ok Try.func30 rfl (by kernel_rfl) (by kernel_rfl) (Nat.le_of_ble_eq_true rfl) 400 8 ?_
    simp (maxSteps := 4000000) only [Try.results30, XX, Nat.reduceBEq, Nat.reduceLT, Nat.reduceAdd, Nat.reduceMul, Nat.reduceSub, Nat.reduceLeDiff, Nat.reduceEqDiff, Int.reduceToNat, Int.reduceLT, Int.reduceLE, Int.reduceAdd, Int.reduceSub, Int.reduceEq, reduceIte, Nat.reduceBNe, Int.reducePow, Nat.reducePow, Int.reduceMul, Int.reduceNeg, isB_i, isB_b, isB_y, isBv_i, isBv_b, eqCells_t, TT]
    refine call_fz [.c (roO xs sp c), .c (i64 k)] F (fun t h' h => resSB_noRo h) ⟨.inl ⟨rfl, rfl⟩, .inl ⟨rfl, rfl⟩, trivial⟩ ?_
    rintro _ _ ⟨sp', o, rfl, rfl, ho⟩
    simp (maxSteps := 4000000) only [Try.results30, ids_bsC, ren_bsC, noRo_bsC, plain_bsC, lt_bsC, ids_byte, ren_byte, noRo_byte, plain_byte, lt_byte, XX, Nat.reduceBEq, Nat.reduceLT, Nat.reduceAdd, Nat.reduceMul, Nat.reduceSub, Nat.reduceLeDiff, Nat.reduceEqDiff, Int.reduceToNat, Int.reduceLT, Int.reduceLE, Int.reduceAdd, Int.reduceSub, Int.reduceEq, reduceIte, Nat.reduceBNe, Int.reducePow, Nat.reducePow, Int.reduceMul, Int.reduceNeg, isB_i, isB_b, isB_y, isBv_i, isBv_b, eqCells_t, TT]
  · rename_i x
    have hx := hok x (findO_mem hf)
    have h1 : findD xs k = x.d := by unfold findD; rw [hf]
    rw [hf, h1] at F
    by_cases h4 : x.d.length = 1
    · have hd : decide ((x.d.length : Int) = 1) = true := by simp only [decide_eq_true_eq]; omega
      simp only [if_pos h4]
      refine spec_of_X cx_ok Try.func30 rfl (by kernel_rfl) (by kernel_rfl) (Nat.le_of_ble_eq_true rfl) 400 8 ?_
      simp (maxSteps := 4000000) only [Try.results30, XX, Nat.reduceBEq, Nat.reduceLT, Nat.reduceAdd, Nat.reduceMul, Nat.reduceSub, Nat.reduceLeDiff, Nat.reduceEqDiff, Int.reduceToNat, Int.reduceLT, Int.reduceLE, Int.reduceAdd, Int.reduceSub, Int.reduceEq, reduceIte, Nat.reduceBNe, Int.reducePow, Nat.reducePow, Int.reduceMul, Int.reduceNeg, isB_i, isB_b, isB_y, isBv_i, isBv_b, eqCells_t, TT]
      refine call_fz [.c (roO xs sp c), .c (i64 k)] F (fun t h' h => resSB_noRo h) ⟨.inl ⟨rfl, rfl⟩, .inl ⟨rfl, rfl⟩, trivial⟩ ?_
      rintro _ _ ⟨sp', o, rfl, rfl, ho⟩
      obtain rfl := ho (by omega)
      have g1 : (bsC (x.d ++ sp')).getD 0 .any = SC.v (.int .u8 (x.d.getD 0 0).toNat) := by
        match hd2 : x.d, h4 with
        | [y], _ => rfl
      have b0 := (x.d.getD 0 0).toNat_lt
      have e1 : IntKind.i64.wrap ((x.d.getD 0 0).toNat : Int) = ((x.d.getD 0 0).toNat : Int) := by rw [w64] <;> omega
      simp (maxSteps := 4000000) only [Try.results30, ids_bsC, ren_bsC, noRo_bsC, plain_bsC, lt_bsC, ids_byte, ren_byte, noRo_byte, plain_byte, lt_byte, hd, g1, e1, XX, Nat.reduceBEq, Nat.reduceLT, Nat.reduceAdd, Nat.reduceMul, Nat.reduceSub, Nat.reduceLeDiff, Nat.reduceEqDiff, Int.reduceToNat, Int.reduceLT, Int.reduceLE, Int.reduceAdd, Int.reduceSub, Int.reduceEq, reduceIte, Nat.reduceBNe, Int.reducePow, Nat.reducePow, Int.reduceMul, Int.reduceNeg, isB_i, isB_b, isB_y, isBv_i, isBv_b, eqCells_t, TT]
      exact ⟨by omega, by simp; omega⟩
    · have hd : decide ((x.d.length : Int) = 1) = false := by simp only [decide_eq_false_iff_not]; omega
      simp only [if_neg h4]
      refine spec_of_X cx_ok Try.func30 rfl (by kernel_rfl) (by kernel_rfl) (Nat.le_of_ble_eq_true rfl) 400 8 ?_
      simp (maxSteps := 4000000) only [Try.results30, XX, Nat.reduceBEq, Nat.reduceLT, Nat.reduceAdd, Nat.reduceMul, Nat.reduceSub, Nat.reduceLeDiff, Nat.reduceEqDiff, Int.reduceToNat, Int.reduceLT, Int.reduceLE, Int.reduceAdd, Int.reduceSub, Int.reduceEq, reduceIte, Nat.reduceBNe, Int.reducePow, Nat.reducePow, Int.reduceMul, Int.reduceNeg, isB_i, isB_b, isB_y, isBv_i, isBv_b, eqCells_t, TT]
      refine call_fz [.c (roO xs sp c), .c (i64 k)] F (fun t h' h => resSB_noRo h) ⟨.inl ⟨rfl, rfl⟩, .inl ⟨rfl, rfl⟩, trivial⟩ ?_
      rintro _ _ ⟨sp', o, rfl, rfl, ho⟩
      simp (maxSteps := 4000000) only [Try.results30, ids_bsC, ren_bsC, noRo_bsC, plain_bsC, lt_bsC, ids_byte, ren_byte, noRo_byte, plain_byte, lt_byte, hd, XX, Nat.reduceBEq, Nat.reduceLT, Nat.reduceAdd, Nat.reduceMul, Nat.reduceSub, Nat.reduceLeDiff, Nat.reduceEqDiff, Int.reduceToNat, Int.reduceLT, Int.reduceLE, Int.reduceAdd, Int.reduceSub, Int.reduceEq, reduceIte, Nat.reduceBNe, Int.reducePow, Nat.reducePow, Int.reduceMul, Int.reduceNeg, isB_i, isB_b, isB_y, isBv_i, isBv_b, eqCells_t, TT]
theorem rsmall_spec : Spec cx.P 27 [.c (roO xs sp c), .c (i64 k)] [] fun s _ => s.plain = true ∧ s = .tup [(false, [i64 (smallO xs k).1]), (false, [bC (smallO xs k).2])] := by
  have F := rfind_spec xs sp c hok hn k
  unfold smallO
  cases hf : findO xs k
  · have h1 : findD xs k = [] := by unfold findD; rw [hf]
    rw [hf, h1] at F
    refine spec_of_X cx_ok Try.func27 rfl (by kernel_rfl) (by kernel_rfl) (Nat.le_of_ble_eq_true rfl) 400 8 ?_
    simp (maxSteps := 4000000) only [Try.results27, XX, Nat.reduceBEq, Nat.reduceLT, Nat.reduceAdd, Nat.reduceMul, Nat.reduceSub, Nat.reduceLeDiff, Nat.reduceEqDiff, Int.reduceToNat, Int.reduceLT, Int.reduceLE, Int.reduceAdd, Int.reduceSub, Int.reduceEq, reduceIte, Nat.reduceBNe, Int.reducePow, Nat.reducePow, Int.reduceMul, Int.reduceNeg, isB_i, isB_b, isB_y, isBv_i, isBv_b, eqCells_t, TT]
    refine call_fz [.c (roO xs sp c), .c (i64 k)] F (fun t h' h => resSB_noRo h) ⟨.inl ⟨rfl, rfl⟩, .inl ⟨rfl, rfl⟩, trivial⟩ ?_
    rintro _ _ ⟨sp', o, rfl, rfl, ho⟩
    simp (maxSteps := 4000000) only [Try.results27, ids_bsC, ren_bsC, noRo_bsC, plain_bsC, lt_bsC, ids_byte, ren_byte, noRo_byte, plain_byte, lt_byte, XX, Nat.reduceBEq, Nat.reduceLT, Nat.reduceAdd, Nat.reduceMul, Nat.reduceSub, Nat.reduceLeDiff, Nat.reduceEqDiff, Int.reduceToNat, Int.reduceLT, Int.reduceLE, Int.reduceAdd, Int.reduceSub, Int.reduceEq, reduceIte, Nat.reduceBNe, Int.reducePow, Nat.reducePow, Int.reduceMul, Int.reduceNeg, isB_i, isB_b, isB_y, isBv_i, isBv_b, eqCells_t, TT]
  · rename_i x
    have hx := hok x (findO_mem hf)
    have h1 : findD xs k = x.d := by unfold findD; rw [hf]
    rw [hf, h1] at F
    by_cases h4 : x.d.length = 1
    · have hd : decide ((x.d.length : Int) = 1) = true := by simp only [decide_eq_true_eq]; omega
      simp only [if_pos h4]
      refine spec_of_X cx_ok Try.func27 rfl (by kernel_rfl) (by kernel_rfl) (Nat.le_of_ble_eq_true rfl) 400 8 ?_
      simp (maxSteps := 4000000) only [Try.results27, XX, Nat.reduceBEq, Nat.reduceLT, Nat.reduceAdd, Nat.reduceMul, Nat.reduceSub, Nat.reduceLeDiff, Nat.reduceEqDiff, Int.reduceToNat, Int.reduceLT, Int.reduceLE, Int.reduceAdd, Int.reduceSub, Int.reduceEq, reduceIte, Nat.reduceBNe, Int.reducePow, Nat.reducePow, Int.reduceMul, Int.reduceNeg, isB_i, isB_b, isB_y, isBv_i, isBv_b, eqCells_t, TT]
      refine call_fz [.c (roO xs sp c), .c (i64 k)] F (fun t h' h => resSB_noRo h) ⟨.inl ⟨rfl, rfl⟩, .inl ⟨rfl, rfl⟩, trivial⟩ ?_
      rintro _ _ ⟨sp', o, rfl, rfl, ho⟩
      obtain rfl := ho (by omega)
      have g1 : (bsC (x.d ++ sp')).getD 0 .any = SC.v (.int .u8 (x.d.getD 0 0).toNat) := by
        match hd2 : x.d, h4 with
        | [y], _ => rfl
      have b0 := (x.d.getD 0 0).toNat_lt
      have e1 : IntKind.i64.wrap ((x.d.getD 0 0).toNat : Int) = ((x.d.getD 0 0).toNat : Int) := by rw [w64] <;> omega
      simp (maxSteps := 4000000) only [Try.results27, ids_bsC, ren_bsC, noRo_bsC, plain_bsC, lt_bsC, ids_byte, ren_byte, noRo_byte, plain_byte, lt_byte, hd, g1, e1, XX, Nat.reduceBEq, Nat.reduceLT, Nat.reduceAdd, Nat.reduceMul, Nat.reduceSub, Nat.reduceLeDiff, Nat.reduceEqDiff, Int.reduceToNat, Int.reduceLT, Int.reduceLE, Int.reduceAdd, Int.reduceSub, Int.reduceEq, reduceIte, Nat.reduceBNe, Int.reducePow, Nat.reducePow, Int.reduceMul, Int.reduceNeg, isB_i, isB_b, isB_y, isBv_i, isBv_b, eqCells_t, TT]
      exact ⟨by omega, by simp; omega⟩
    · have hd : decide ((x.d.length : Int) = 1) = false := by simp only [decide_eq_false_iff_not]; omega
      simp only [if_neg h4]
      refine spec_of_X cx_ok Try.func27 rfl (by kernel_rfl) (by kernel_rfl) (Nat.le_of_ble_eq_true rfl) 400 8 ?_
      simp (maxSteps := 4000000) only [Try.results27, XX, Nat.reduceBEq, Nat.reduceLT, Nat.reduceAdd, Nat.reduceMul, Nat.reduceSub, Nat.reduceLeDiff, Nat.reduceEqDiff, Int.reduceToNat, Int.reduceLT, Int.reduceLE, Int.reduceAdd, Int.reduceSub, Int.reduceEq, reduceIte, Nat.reduceBNe, Int.reducePow, Nat.reducePow, Int.reduceMul, Int.reduceNeg, isB_i, isB_b, isB_y, isBv_i, isBv_b, eqCells_t, TT]
      refine call_fz [.c (roO xs sp c), .c (i64 k)] F (fun t h' h => resSB_noRo h) ⟨.inl ⟨rfl, rfl⟩, .inl ⟨rfl, rfl⟩, trivial⟩ ?_
      rintro _ _ ⟨sp', o, rfl, rfl, ho⟩
      simp (maxSteps := 4000000) only [Try.results27, ids_bsC, ren_bsC, noRo_bsC, plain_bsC, lt_bsC, ids_byte, ren_byte, noRo_byte, plain_byte, lt_byte, hd, XX, Nat.reduceBEq, Nat.reduceLT, Nat.reduceAdd, Nat.reduceMul, Nat.reduceSub, Nat.reduceLeDiff, Nat.reduceEqDiff, Int.reduceToNat, Int.reduceLT, Int.reduceLE, Int.reduceAdd, Int.reduceSub, Int.reduceEq, reduceIte, Nat.reduceBNe, Int.reducePow, Nat.reducePow, Int.reduceMul, Int.reduceNeg, isB_i, isB_b, isB_y, isBv_i, isBv_b, eqCells_t, TT]
end
end Go.Proofs.Ytflccffjfnfoiaa.Sx
