/- The symbolic executor, at work: the law that plays two dices. No condition. -/
import Derived.Test.YtniednekfnfhmaaD6i
namespace Go.Proofs.Ytniednekfnfhmaa.Sx
open Go
set_option linter.unusedSimpArgs false
set_option linter.unusedVariables false
set_option maxRecDepth 10000
set_option maxHeartbeats 2000000

theorem and_one (bit : Int) : ∃ j : Nat, j < 2 ∧ bitI .and .i64 bit 1 = (j : Int) := by
  refine ⟨(BitVec.ofInt 64 bit).toNat &&& 1, Nat.lt_succ_of_le Nat.and_le_right, ?_⟩
  have h1 : (BitVec.ofInt 64 bit &&& BitVec.ofInt 64 1).toNat = (BitVec.ofInt 64 bit).toNat &&& 1 := by
    rw [BitVec.toNat_and]; rfl
  show IntKind.i64.wrap ((BitVec.ofInt 64 bit &&& BitVec.ofInt 64 1).toNat : Int) = _
  rw [h1]
  have : (BitVec.ofInt 64 bit).toNat &&& 1 ≤ 1 := Nat.and_le_right
  rw [w64] <;> omega

/-- Two dices, the program's and the document's. -/
structure Pr where
  i : Nat
  w : Nat
  j : Nat
  v : Nat
  L : List Nat
def Pr.no (p : Pr) (x : Nat) : Prop := x ≠ p.i ∧ x ≠ p.w ∧ x ≠ p.j ∧ x ≠ p.v
structure PrOk (H : List SB) (p : Pr) : Prop where
  d : ∃ o, Dc H p.i p.w o p.L
  r : ∃ o, Rc H p.j p.v o p.L
  n1 : p.i ≠ p.j
  n2 : p.i ≠ p.v
  n3 : p.w ≠ p.j
  n4 : p.w ≠ p.v
  hL : ∀ y ∈ p.L, y < 4294967296
structure Duo (H : List SB) (ps : Nat → Pr) (wd wr : Nat) : Prop where
  ok : ∀ k, k < 2 → PrOk H (ps k)
  dis : ∀ k l, k < 2 → l < 2 → k ≠ l → (ps k).no (ps l).i ∧ (ps k).no (ps l).w ∧ (ps k).no (ps l).j ∧ (ps k).no (ps l).v
  hd : H[wd]? = some ⟨true, 26, [.ptr (ps 0).i 0, .ptr (ps 1).i 0]⟩
  hr : H[wr]? = some ⟨true, 29, [.ptr (ps 0).j 0, .ptr (ps 1).j 0]⟩
  nd : ∀ k, k < 2 → (ps k).no wd ∧ (ps k).no wr

theorem PrOk.lt {H : List SB} {p : Pr} (P : PrOk H p) : p.i < H.length ∧ p.w < H.length ∧ p.j < H.length ∧ p.v < H.length := by
  obtain ⟨_, D⟩ := P.d
  obtain ⟨_, R⟩ := P.r
  exact ⟨D.lt.1, D.lt.2, R.lt.1, R.lt.2⟩

theorem Duo.step {H h' : List SB} {ps : Nat → Pr} {wd wr k : Nat} (D : Duo H ps wd wr) (hk : k < 2) {L' : List Nat} (S : StepP H (ps k).i (ps k).w (ps k).j (ps k).v L' h') (hL' : ∀ y ∈ L', y < 4294967296) :
    ∃ ps', Duo h' ps' wd wr ∧ (ps' k).L = L' ∧ (∀ l, l ≠ k → ps' l = ps l) ∧ (∀ l, (ps' l).i = (ps l).i ∧ (ps' l).j = (ps l).j) := by
  obtain ⟨w', ow', v', ov', d', r', n2, n3, n4, hw, hv, hl, fr⟩ := S
  have P := D.ok k hk
  have lP := P.lt
  have no' : ∀ x, x < H.length → (ps k).no x → (⟨(ps k).i, w', (ps k).j, v', L'⟩ : Pr).no x := fun x hx hn => by
    obtain ⟨q1, q2, q3, q4⟩ := hn
    exact ⟨q1, by show x ≠ w'; omega, q3, by show x ≠ v'; omega⟩
  have sm : ∀ x, x < H.length → (ps k).no x → h'[x]? = H[x]? := fun x hx hn => fr x hx hn.1 hn.2.1 hn.2.2.1 hn.2.2.2
  refine ⟨fun n => if n = k then ⟨(ps k).i, w', (ps k).j, v', L'⟩ else ps n, ⟨fun l hl => ?_, fun l m hl hm hne => ?_, ?_, ?_, fun l hl => ?_⟩, by simp, fun l hl => by simp [hl], fun l => by by_cases h : l = k <;> simp [h]⟩
  · by_cases h : l = k
    · subst h
      simp only [if_pos]
      exact ⟨⟨_, d'⟩, ⟨_, r'⟩, P.n1, n2, n3, n4, hL'⟩
    · simp only [if_neg h]
      have Q := D.ok l hl
      have lQ := Q.lt
      obtain ⟨m1, m2, m3, m4⟩ := D.dis k l hk hl (Ne.symm h)
      obtain ⟨o1, Dq⟩ := Q.d
      obtain ⟨o2, Rq⟩ := Q.r
      exact ⟨⟨o1, Dq.mono (sm _ lQ.1 m1) (sm _ lQ.2.1 m2)⟩, ⟨o2, Rq.mono (sm _ lQ.2.2.1 m3) (sm _ lQ.2.2.2 m4)⟩, Q.n1, Q.n2, Q.n3, Q.n4, Q.hL⟩
  · by_cases h : l = k
    · subst h
      have h2 : m ≠ l := Ne.symm hne
      simp only [if_pos, if_neg h2]
      have lQ := (D.ok m hm).lt
      obtain ⟨m1, m2, m3, m4⟩ := D.dis l m hl hm hne
      exact ⟨no' _ lQ.1 m1, no' _ lQ.2.1 m2, no' _ lQ.2.2.1 m3, no' _ lQ.2.2.2 m4⟩
    · by_cases h2 : m = k
      · subst h2
        simp only [if_neg h, if_pos]
        have lQ := (D.ok l hl).lt
        obtain ⟨m1, m2, m3, m4⟩ := D.dis l m hl hm hne
        obtain ⟨a1, a2, a3, a4⟩ := D.dis m l hm hl (Ne.symm hne)
        have b1 := no' _ lQ.1 a1
        have b2 := no' _ lQ.2.1 a2
        have b3 := no' _ lQ.2.2.1 a3
        have b4 := no' _ lQ.2.2.2 a4
        exact ⟨m1, ⟨b1.2.1.symm, b2.2.1.symm, b3.2.1.symm, b4.2.1.symm⟩, m3, ⟨b1.2.2.2.symm, b2.2.2.2.symm, b3.2.2.2.symm, b4.2.2.2.symm⟩⟩
      · simp only [if_neg h, if_neg h2]
        exact D.dis l m hl hm hne
  · have := sm wd (lt_of D.hd) (D.nd k hk).1
    rw [this, D.hd]
    by_cases h0 : (0 : Nat) = k
    · subst h0; simp
    · have h1 : k = 1 := by omega
      subst h1; simp
  · have := sm wr (lt_of D.hr) (D.nd k hk).2
    rw [this, D.hr]
    by_cases h0 : (0 : Nat) = k
    · subst h0; simp
    · have h1 : k = 1 := by omega
      subst h1; simp
  · by_cases h : l = k
    · subst h
      simp only [if_pos]
      exact ⟨no' _ (lt_of D.hd) (D.nd l hl).1, no' _ (lt_of D.hr) (D.nd l hl).2⟩
    · simp only [if_neg h]
      exact D.nd l hl

theorem StepP.unmask {H h' : List SB} {L : List Nat} {i w j v : Nat} {L' : List Nat} (lt : i < H.length ∧ w < H.length ∧ j < H.length ∧ v < H.length) (hL : ∀ x, L.contains x = true → x < H.length ∧ x ≠ i ∧ x ≠ w ∧ x ≠ j ∧ x ≠ v) (S : StepP (maskL L 0 H) i w j v L' h') : StepP H i w j v L' (unL L 0 H h') := by
  obtain ⟨w', ow', v', ov', d', r', n2, n3, n4, hw, hv, hl, fr⟩ := S
  have lm : (maskL L 0 H).length = H.length := by
    have : ∀ (h : List SB) k, (maskL L k h).length = h.length := by
      intro h
      induction h with
      | nil => intro k; rfl
      | cons b r ih => intro k; simp [maskL, ih]
    exact this _ _
  rw [lm] at hw hv hl fr
  have key : ∀ k, L.contains k = false → (unL L 0 H h')[k]? = h'[k]? := fun k hk => by
    rw [unL_get]
    cases h'[k]? with
    | none => rfl
    | some b =>
      simp only [Option.map_some, Nat.zero_add, hk, cond_false]
      cases H[k]? <;> rfl
  have nn : ∀ x, (x = i ∨ x = w' ∨ x = j ∨ x = v') → L.contains x = false := fun x hx => by
    cases hc : L.contains x with
    | false => rfl
    | true => have := hL x hc; omega
  refine ⟨w', ow', v', ov', d'.mono (key _ (nn _ (.inl rfl))) (key _ (nn _ (.inr (.inl rfl)))), r'.mono (key _ (nn _ (.inr (.inr (.inl rfl))))) (key _ (nn _ (.inr (.inr (.inr rfl))))), n2, n3, n4, hw, hv, ?_, fun k hk h1 h2 h3 h4 => ?_⟩
  · have : ∀ (h0 h : List SB) k, (Sx.unL L k h0 h).length = h.length := by
      intro h0 h
      induction h generalizing h0 with
      | nil => intro k; cases h0 <;> rfl
      | cons b r ih => intro k; cases h0 <;> simp [Sx.unL, ih]
    rw [this]; exact hl
  · cases hc : L.contains k with
    | false => rw [key k hc, fr k hk h1 h2 h3 h4, maskL_get, Nat.zero_add, hc]; cases H[k]? <;> rfl
    | true =>
      rw [unL_get, fr k hk h1 h2 h3 h4, maskL_get, Nat.zero_add, hc]
      rw [List.getElem?_eq_getElem hk]
      rfl

structure OpM where
  kind : Int
  on : Int
  a : Int
  b : Int
  tr : Int
  l : List Nat
  sp : List Nat
  c : Nat
def OpM.rc (o : OpM) : List RC := [.v (.int .i64 o.kind), .v (.int .i64 o.on), .v (.int .i64 o.a), .v (.int .i64 o.b), .v (.int .i64 o.tr), .sl (usR (o.l ++ o.sp)) o.l.length o.c]
theorem OpM.form {n : Nat} {x : List RC} (h : RTy T reachBytes (n + 4) 34 x) : ∃ o : OpM, x = o.rc ∧ (o.tr < 9223372036854775808 ∧ ∀ y ∈ o.l, y < 4294967296) := by
  obtain ⟨parts, rfl, hp⟩ := RTy_struct T_34 h
  simp only [List.map_cons, List.map_nil] at hp
  obtain ⟨p0, _, rfl, q0, hp⟩ := RTyL_cons hp
  obtain ⟨p1, _, rfl, q1, hp⟩ := RTyL_cons hp
  obtain ⟨p2, _, rfl, q2, hp⟩ := RTyL_cons hp
  obtain ⟨p3, _, rfl, q3, hp⟩ := RTyL_cons hp
  obtain ⟨p4, _, rfl, q4, hp⟩ := RTyL_cons hp
  obtain ⟨p5, _, rfl, q5, hp⟩ := RTyL_cons hp
  obtain rfl := RTyL_nil hp
  obtain ⟨k, rfl, _⟩ := RTy_int T_3 q0
  obtain ⟨on, rfl, _⟩ := RTy_int T_3 q1
  obtain ⟨a, rfl, _⟩ := RTy_int T_3 q2
  obtain ⟨b, rfl, _⟩ := RTy_int T_3 q3
  obtain ⟨tr, rfl, t1, t2⟩ := RTy_int T_3 q4
  obtain ⟨l, sp, c, rfl, u1, u2, u3, u4⟩ := RTy_us q5
  have e2 : IntKind.i64.max = 9223372036854775807 := by decide
  exact ⟨⟨k, on, a, b, tr, l, sp, c⟩, rfl, by show tr < _; omega, u3⟩
theorem ops_drop {ops : List OpM} {i : Nat} {o : OpM} (h : ops[i]? = some o) : ∃ R, (ops.map OpM.rc).flatten.drop (i * 6) = o.rc ++ R := by
  have hl : ∀ x ∈ ops.map OpM.rc, x.length = 6 := by
    intro x hx
    simp only [List.mem_map] at hx
    obtain ⟨o, _, rfl⟩ := hx
    rfl
  obtain ⟨h1, rfl⟩ := List.getElem?_eq_some_iff.1 h
  have := flat_at hl (i := i) (by simpa using h1)
  rw [List.getElem_map] at this
  refine ⟨((ops.map OpM.rc).flatten.drop (i * 6)).drop 6, ?_⟩
  rw [← this, List.take_append_drop]
/-- How many draws are added till then. -/
def tot (ops : List OpM) (i : Nat) : Nat := ((ops.take i).map fun o => o.l.length).sum
theorem tot_next {ops : List OpM} {i : Nat} {o : OpM} (h : ops[i]? = some o) : tot ops (i + 1) = tot ops i + o.l.length := by
  obtain ⟨h1, rfl⟩ := List.getElem?_eq_some_iff.1 h
  simp only [tot, List.take_add_one, h, Option.toList_some, List.map_append, List.map_cons, List.map_nil, List.sum_append, List.sum_cons, List.sum_nil, Nat.add_zero]
theorem tot_le : ∀ (ops : List OpM) (i : Nat), tot ops i ≤ rcSizeL (ops.map OpM.rc).flatten
  | [], i => by simp [tot]
  | o :: ops, 0 => by simp [tot]
  | o :: ops, i + 1 => by
    have := tot_le ops i
    have h2 := length_le_rcSizeL (usR (o.l ++ o.sp))
    rw [usR_len, List.length_append] at h2
    simp only [tot, List.take_succ_cons, List.map_cons, List.sum_cons, List.flatten_cons, rcSizeL_append] at this ⊢
    simp only [OpM.rc, rcSizeL, rcSize]
    omega

theorem gdI (ps : Nat → Pr) {k : Nat} (hk : k < 2) : ([SC.ptr (ps 0).i 0, SC.ptr (ps 1).i 0] : List SC).getD k .any = .ptr (ps k).i 0 := by
  rcases (by omega : k = 0 ∨ k = 1) with rfl | rfl <;> rfl
theorem gdJ (ps : Nat → Pr) {k : Nat} (hk : k < 2) : ([SC.ptr (ps 0).j 0, SC.ptr (ps 1).j 0] : List SC).getD k .any = .ptr (ps k).j 0 := by
  rcases (by omega : k = 0 ∨ k = 1) with rfl | rfl <;> rfl
theorem mask_off {L : List Nat} {H : List SB} {x : Nat} (h : L.contains x = false) : (maskL L 0 H)[x]? = H[x]? := by
  rw [maskL_get, Nat.zero_add, h]; cases H[x]? <;> rfl

theorem dicePlays_walk : ∀ css, RTyL (RTy T reachBytes DEPTH) [22, 22, 23] css → (css.map rcSizeL).sum ≤ 1048576 → Spec Try.prog 3 (svs T [22, 22, 23] css) [] fun r _ => r = .c (.v (.bool true)) := by
  intro css h hM
  obtain ⟨x1, xs1, rfl, h1, g1⟩ := RTyL_cons h
  obtain ⟨x2, xs2, rfl, h2, g2⟩ := RTyL_cons g1
  obtain ⟨x3, xs3, rfl, h3, g3⟩ := RTyL_cons g2
  obtain rfl := RTyL_nil g3
  obtain ⟨l, sp, c, rfl, hl1, hl2, hl3, hl4⟩ := RTy_us h1
  obtain ⟨m, sq, c', rfl, hm1, hm2, hm3, hm4⟩ := RTy_us h2
  obtain ⟨items, n, rfl, hlen, hmax, hit⟩ := RTy_slice T_23 T_34 h3
  obtain ⟨ops, rfl, hops⟩ := all_form fun x hx => OpM.form (n := 3) (hit.2 x hx)
  simp only [List.length_map] at hlen hmax
  unfold maxLen at hmax
  have e1 : ∀ (l sp : List Nat) (c : Nat), svOf T 22 [.sl (usR (l ++ sp)) l.length c] = .c (roU l sp c) := fun _ _ _ => rfl
  have e2 : svOf T 23 [.sl (ops.map OpM.rc).flatten n (ops.map OpM.rc).length] = .c (.ro (ops.map OpM.rc).flatten n (ops.map OpM.rc).length) := rfl
  simp only [svs, e1, e2]
  have hsum : ∀ i, l.length + m.length + tot ops i ≤ 1048576 := fun i => by
    have r1 := length_le_rcSizeL (usR (l ++ sp))
    have r2 := length_le_rcSizeL (usR (m ++ sq))
    have r3 := tot_le ops i
    simp only [List.map_cons, List.map_nil, List.sum_cons, List.sum_nil, rcSizeL, rcSize, usR_len, List.length_append] at hM r1 r2
    omega
  clear h1 h2 h3 g1 g2 g3 h e1 e2 hM
  have hs0 := hsum 0
  refine spec_of_X cx_ok Try.func3 rfl (by kernel_rfl) (by kernel_rfl) (Nat.le_of_ble_eq_true rfl) 400 21 ?_
  simp (maxSteps := 4000000) only [Try.results3, XX, Nat.reduceBEq, Nat.reduceLT, Nat.reduceAdd, Nat.reduceMul, Nat.reduceSub, Nat.reduceLeDiff, Nat.reduceEqDiff, Int.reduceToNat, Int.reduceLT, Int.reduceLE, Int.reduceAdd, Int.reduceSub, Int.reduceEq, reduceIte, Nat.reduceBNe, Int.reducePow, Nat.reducePow, Int.reduceMul, Int.reduceNeg, isB_i, isB_b, isB_y, isBv_i, isBv_b, eqCells_t, TT]
  refine call_plain (awake_spec) rfl ?_
  rintro _ rfl
  simp (maxSteps := 4000000) only [Try.results3, XX, Nat.reduceBEq, Nat.reduceLT, Nat.reduceAdd, Nat.reduceMul, Nat.reduceSub, Nat.reduceLeDiff, Nat.reduceEqDiff, Int.reduceToNat, Int.reduceLT, Int.reduceLE, Int.reduceAdd, Int.reduceSub, Int.reduceEq, reduceIte, Nat.reduceBNe, Int.reducePow, Nat.reducePow, Int.reduceMul, Int.reduceNeg, isB_i, isB_b, isB_y, isBv_i, isBv_b, eqCells_t, TT]
  refine call_fz [.c (roU l sp c)] (lentU_spec l sp c (by omega)) (fun t h' h => by obtain ⟨rfl, rfl⟩ := h; exact ⟨rfl, by simp only [XX, Nat.reduceBEq, Nat.reduceLT, Nat.reduceAdd, Nat.reduceMul, Nat.reduceSub, Nat.reduceLeDiff, Nat.reduceEqDiff, Int.reduceToNat, Int.reduceLT, Int.reduceLE, Int.reduceAdd, Int.reduceSub, Int.reduceEq, reduceIte, Nat.reduceBNe, Int.reducePow, Nat.reducePow, Int.reduceMul, Int.reduceNeg, isB_i, isB_b, isB_y, isBv_i, isBv_b, eqCells_t, TT, noRo_usC]⟩) ⟨.inl ⟨rfl, rfl⟩, trivial⟩ ?_
  rintro _ _ ⟨rfl, rfl⟩
  simp (maxSteps := 4000000) only [Try.results3, ids_usC, ren_usC, lt_usC, noRo_usC, XX, Nat.reduceBEq, Nat.reduceLT, Nat.reduceAdd, Nat.reduceMul, Nat.reduceSub, Nat.reduceLeDiff, Nat.reduceEqDiff, Int.reduceToNat, Int.reduceLT, Int.reduceLE, Int.reduceAdd, Int.reduceSub, Int.reduceEq, reduceIte, Nat.reduceBNe, Int.reducePow, Nat.reducePow, Int.reduceMul, Int.reduceNeg, isB_i, isB_b, isB_y, isBv_i, isBv_b, eqCells_t, TT]
  refine call_fz [.c (roU m sq c')] (lentU_spec m sq c' (by omega)) (fun t h' h => by obtain ⟨rfl, rfl⟩ := h; exact ⟨rfl, by simp only [XX, Nat.reduceBEq, Nat.reduceLT, Nat.reduceAdd, Nat.reduceMul, Nat.reduceSub, Nat.reduceLeDiff, Nat.reduceEqDiff, Int.reduceToNat, Int.reduceLT, Int.reduceLE, Int.reduceAdd, Int.reduceSub, Int.reduceEq, reduceIte, Nat.reduceBNe, Int.reducePow, Nat.reducePow, Int.reduceMul, Int.reduceNeg, isB_i, isB_b, isB_y, isBv_i, isBv_b, eqCells_t, TT, noRo_usC]⟩) ⟨.inl ⟨rfl, rfl⟩, trivial⟩ ?_
  rintro _ _ ⟨rfl, rfl⟩
  simp (maxSteps := 4000000) only [Try.results3, ids_usC, ren_usC, lt_usC, noRo_usC, XX, Nat.reduceBEq, Nat.reduceLT, Nat.reduceAdd, Nat.reduceMul, Nat.reduceSub, Nat.reduceLeDiff, Nat.reduceEqDiff, Int.reduceToNat, Int.reduceLT, Int.reduceLE, Int.reduceAdd, Int.reduceSub, Int.reduceEq, reduceIte, Nat.reduceBNe, Int.reducePow, Nat.reducePow, Int.reduceMul, Int.reduceNeg, isB_i, isB_b, isB_y, isBv_i, isBv_b, eqCells_t, TT]
  refine call_fz [.c (roU l [71, 72] (l.length + 2))] (new_spec l [71, 72] (l.length + 2) (by omega) (by omega)) (fun t h' h => new_noRo h) ⟨fz_c (fz_us rfl rfl rfl), trivial⟩ ?_
  rintro _ _ ⟨rfl, z1, o1, rfl, ho1⟩
  simp (maxSteps := 4000000) only [Try.results3, ids_usC, ren_usC, lt_usC, noRo_usC, XX, Nat.reduceBEq, Nat.reduceLT, Nat.reduceAdd, Nat.reduceMul, Nat.reduceSub, Nat.reduceLeDiff, Nat.reduceEqDiff, Int.reduceToNat, Int.reduceLT, Int.reduceLE, Int.reduceAdd, Int.reduceSub, Int.reduceEq, reduceIte, Nat.reduceBNe, Int.reducePow, Nat.reducePow, Int.reduceMul, Int.reduceNeg, isB_i, isB_b, isB_y, isBv_i, isBv_b, eqCells_t, TT]
  refine call_fz [.c (roU m [71, 72] (m.length + 2))] (new_spec m [71, 72] (m.length + 2) (by omega) (by omega)) (fun t h' h => new_noRo h) ⟨fz_c (fz_us rfl rfl rfl), trivial⟩ ?_
  rintro _ _ ⟨rfl, z2, o2, rfl, ho2⟩
  simp (maxSteps := 4000000) only [Try.results3, ids_usC, ren_usC, lt_usC, noRo_usC, XX, Nat.reduceBEq, Nat.reduceLT, Nat.reduceAdd, Nat.reduceMul, Nat.reduceSub, Nat.reduceLeDiff, Nat.reduceEqDiff, Int.reduceToNat, Int.reduceLT, Int.reduceLE, Int.reduceAdd, Int.reduceSub, Int.reduceEq, reduceIte, Nat.reduceBNe, Int.reducePow, Nat.reducePow, Int.reduceMul, Int.reduceNeg, isB_i, isB_b, isB_y, isBv_i, isBv_b, eqCells_t, TT]
  simp only [List.replicate_succ, List.replicate_zero, List.flatten_cons, List.flatten_nil, List.cons_append, List.nil_append, List.drop_succ_cons, List.drop_zero, List.length_cons, List.length_nil, Nat.reduceAdd, Nat.reduceLeDiff, reduceIte]
  simp (maxSteps := 4000000) only [Try.results3, ids_usC, ren_usC, lt_usC, noRo_usC, XX, Nat.reduceBEq, Nat.reduceLT, Nat.reduceAdd, Nat.reduceMul, Nat.reduceSub, Nat.reduceLeDiff, Nat.reduceEqDiff, Int.reduceToNat, Int.reduceLT, Int.reduceLE, Int.reduceAdd, Int.reduceSub, Int.reduceEq, reduceIte, Nat.reduceBNe, Int.reducePow, Nat.reducePow, Int.reduceMul, Int.reduceNeg, isB_i, isB_b, isB_y, isBv_i, isBv_b, eqCells_t, TT]
  have rn : ∀ {l : List Nat} {t : SV} {h' : List SB}, (t = .c (.ptr 0 0) ∧ ∃ z o, h' = [rB 1 0 l.length (l.length + z.length), wU o (l ++ z)] ∧ (0 < l.length + z.length → o = true)) → t.noRo = true ∧ (h'.all fun b => b.cells.all SC.noRo) = true := by
    rintro l _ _ ⟨rfl, z, o, rfl, _⟩
    exact ⟨rfl, by simp only [XX, Nat.reduceBEq, Nat.reduceLT, Nat.reduceAdd, Nat.reduceMul, Nat.reduceSub, Nat.reduceLeDiff, Nat.reduceEqDiff, Int.reduceToNat, Int.reduceLT, Int.reduceLE, Int.reduceAdd, Int.reduceSub, Int.reduceEq, reduceIte, Nat.reduceBNe, Int.reducePow, Nat.reducePow, Int.reduceMul, Int.reduceNeg, isB_i, isB_b, isB_y, isBv_i, isBv_b, eqCells_t, TT, noRo_usC]⟩
  refine call_fz [.c (roU l sp c)] (rnew_spec l sp c (by omega)) (fun t h' h => rn h) ⟨.inl ⟨rfl, rfl⟩, trivial⟩ ?_
  rintro _ _ ⟨rfl, z3, o3, rfl, ho3⟩
  simp (maxSteps := 4000000) only [Try.results3, ids_usC, ren_usC, lt_usC, noRo_usC, XX, Nat.reduceBEq, Nat.reduceLT, Nat.reduceAdd, Nat.reduceMul, Nat.reduceSub, Nat.reduceLeDiff, Nat.reduceEqDiff, Int.reduceToNat, Int.reduceLT, Int.reduceLE, Int.reduceAdd, Int.reduceSub, Int.reduceEq, reduceIte, Nat.reduceBNe, Int.reducePow, Nat.reducePow, Int.reduceMul, Int.reduceNeg, isB_i, isB_b, isB_y, isBv_i, isBv_b, eqCells_t, TT]
  refine call_fz [.c (roU m sq c')] (rnew_spec m sq c' (by omega)) (fun t h' h => rn h) ⟨.inl ⟨rfl, rfl⟩, trivial⟩ ?_
  rintro _ _ ⟨rfl, z4, o4, rfl, ho4⟩
  simp (maxSteps := 4000000) only [Try.results3, ids_usC, ren_usC, lt_usC, noRo_usC, XX, Nat.reduceBEq, Nat.reduceLT, Nat.reduceAdd, Nat.reduceMul, Nat.reduceSub, Nat.reduceLeDiff, Nat.reduceEqDiff, Int.reduceToNat, Int.reduceLT, Int.reduceLE, Int.reduceAdd, Int.reduceSub, Int.reduceEq, reduceIte, Nat.reduceBNe, Int.reducePow, Nat.reducePow, Int.reduceMul, Int.reduceNeg, isB_i, isB_b, isB_y, isBv_i, isBv_b, eqCells_t, TT]
  simp only [List.replicate_succ, List.replicate_zero, List.flatten_cons, List.flatten_nil, List.cons_append, List.nil_append, List.drop_succ_cons, List.drop_zero, List.length_cons, List.length_nil, Nat.reduceAdd, Nat.reduceLeDiff, reduceIte]
  simp (maxSteps := 4000000) only [Try.results3, ids_usC, ren_usC, lt_usC, noRo_usC, XX, Nat.reduceBEq, Nat.reduceLT, Nat.reduceAdd, Nat.reduceMul, Nat.reduceSub, Nat.reduceLeDiff, Nat.reduceEqDiff, Int.reduceToNat, Int.reduceLT, Int.reduceLE, Int.reduceAdd, Int.reduceSub, Int.reduceEq, reduceIte, Nat.reduceBNe, Int.reducePow, Nat.reducePow, Int.reduceMul, Int.reduceNeg, isB_i, isB_b, isB_y, isBv_i, isBv_b, eqCells_t, TT]
  refine call_is (asLentU_spec _ 0 l sp c rfl (by omega)) ?_
  rintro _ _ ⟨rfl, rfl⟩
  simp (maxSteps := 4000000) only [Try.results3, XX, Nat.reduceBEq, Nat.reduceLT, Nat.reduceAdd, Nat.reduceMul, Nat.reduceSub, Nat.reduceLeDiff, Nat.reduceEqDiff, Int.reduceToNat, Int.reduceLT, Int.reduceLE, Int.reduceAdd, Int.reduceSub, Int.reduceEq, reduceIte, Nat.reduceBNe, Int.reducePow, Nat.reducePow, Int.reduceMul, Int.reduceNeg, isB_i, isB_b, isB_y, isBv_i, isBv_b, eqCells_t, TT]
  refine call_is (asLentU_spec _ 1 m sq c' rfl (by omega)) ?_
  rintro _ _ ⟨rfl, rfl⟩
  simp (maxSteps := 4000000) only [Try.results3, XX, Nat.reduceBEq, Nat.reduceLT, Nat.reduceAdd, Nat.reduceMul, Nat.reduceSub, Nat.reduceLeDiff, Nat.reduceEqDiff, Int.reduceToNat, Int.reduceLT, Int.reduceLE, Int.reduceAdd, Int.reduceSub, Int.reduceEq, reduceIte, Nat.reduceBNe, Int.reducePow, Nat.reducePow, Int.reduceMul, Int.reduceNeg, isB_i, isB_b, isB_y, isBv_i, isBv_b, eqCells_t, TT]
  generalize hhp : ([_, _, _, _, _, _, _, _, _, _, _, _] : List SB) = hp
  have D0 : Duo hp (fun k => if k = 0 then ⟨3, 2, 7, 8, l⟩ else ⟨5, 4, 9, 10, m⟩) 6 11 := by
    rw [← hhp]
    refine ⟨fun k hk => ?_, fun k q hk hq hne => ?_, rfl, rfl, fun k hk => ?_⟩
    · rcases (by omega : k = 0 ∨ k = 1) with rfl | rfl
      · exact ⟨⟨o1, 0, [], z1, rfl, rfl, rfl, by simp, ho1⟩, ⟨o3, 0, [], z3, rfl, rfl, rfl, by simp, ho3⟩, by simp, by simp, by simp, by simp, hl3⟩
      · exact ⟨⟨o2, 0, [], z2, rfl, rfl, rfl, by simp, ho2⟩, ⟨o4, 0, [], z4, rfl, rfl, rfl, by simp, ho4⟩, by simp, by simp, by simp, by simp, hm3⟩
    · rcases (by omega : k = 0 ∧ q = 1 ∨ k = 1 ∧ q = 0) with ⟨rfl, rfl⟩ | ⟨rfl, rfl⟩ <;> simp [Pr.no]
    · rcases (by omega : k = 0 ∨ k = 1) with rfl | rfl <;> simp [Pr.no]
  clear hhp
  refine loop_any cx_ok 400 (fun μ σ => ∃ (i : Nat) (H : List SB) (ps : Nat → Pr), μ = n - i ∧ i ≤ n ∧ Duo H ps 6 11 ∧ (∀ k, k < 2 → (ps k).L.length ≤ l.length + m.length + tot ops i) ∧
      σ = ⟨⟨21, 0⟩, [(2, .c (.ro (ops.map OpM.rc).flatten n (ops.map OpM.rc).length)), (10, .c (.sl 6 0 2 2)), (11, .c (.sl 11 0 2 2)), (14, .c (i64 i))], H⟩) n
    ⟨⟨21, 0⟩, [(2, .c (.ro (ops.map OpM.rc).flatten n (ops.map OpM.rc).length)), (10, .c (.sl 6 0 2 2)), (11, .c (.sl 11 0 2 2)), (14, .c (i64 (0 : Nat)))], hp⟩ ⟨0, hp, _, rfl, by omega, D0, fun k hk => by
      rcases (by omega : k = 0 ∨ k = 1) with rfl | rfl
      · show l.length ≤ _; omega
      · show m.length ≤ _; omega, rfl⟩
    (.inl ⟨rfl, rfl, rfl, rfl, rfl, rfl, trivial⟩) ?_
  rintro μ σ ⟨i, H, ps, rfl, hi, D, hlen2, rfl⟩
  by_cases hlt : i < n
  · have di : decide ((i : Int) < (n : Int)) = true := by simp only [decide_eq_true_eq]; omega
    have ei : IntKind.i64.wrap ((i : Int) + 1) = ((i + 1 : Nat) : Int) := by rw [w64] <;> omega
    obtain ⟨o, ho⟩ : ∃ o, ops[i]? = some o := ⟨_, List.getElem?_eq_getElem (by omega)⟩
    obtain ⟨R, hR⟩ := ops_drop ho
    simp only [OpM.rc, List.cons_append, List.nil_append] at hR
    obtain ⟨ht, hol⟩ := hops o (List.mem_of_getElem? ho)
    have hs1 := hsum (i + 1)
    rw [tot_next ho] at hs1
    obtain ⟨k, hk, ek⟩ := and_one o.on
    have P := D.ok k hk
    have lP := P.lt
    obtain ⟨od, Dd⟩ := P.d
    obtain ⟨orr, Rr⟩ := P.r
    have wd := D.hd
    have wr := D.hr
    have ltd := lt_of wd
    have ltr := lt_of wr
    have hok := kept_cons wd rfl (kept_cons wr rfl kept_nil)
    obtain ⟨ox, mx⟩ : ∃ o, (maskL [6, 11] 0 H)[6]? = some ⟨o, 26, [.ptr (ps 0).i 0, .ptr (ps 1).i 0]⟩ := maskL_at wd
    obtain ⟨oy, my⟩ : ∃ o, (maskL [6, 11] 0 H)[11]? = some ⟨o, 29, [.ptr (ps 0).j 0, .ptr (ps 1).j 0]⟩ := maskL_at wr
    have ltx := lt_of mx
    have lty := lt_of my
    have hkk := hlen2 k hk
    have nd := D.nd k hk
    have nc : ∀ x, x = (ps k).i ∨ x = (ps k).w ∨ x = (ps k).j ∨ x = (ps k).v → ([6, 11] : List Nat).contains x = false := fun x hx => by
      obtain ⟨⟨a1, a2, a3, a4⟩, ⟨b1, b2, b3, b4⟩⟩ := nd
      have h1 : x ≠ 6 := by rcases hx with h | h | h | h <;> subst h <;> (apply Ne.symm; assumption)
      have h2 : x ≠ 11 := by rcases hx with h | h | h | h <;> subst h <;> (apply Ne.symm; assumption)
      simp [h1, h2]
    simp (maxSteps := 4000000) only [Try.results3, di, hR, ek, XX, Nat.reduceBEq, Nat.reduceLT, Nat.reduceAdd, Nat.reduceMul, Nat.reduceSub, Nat.reduceLeDiff, Nat.reduceEqDiff, Int.reduceToNat, Int.reduceLT, Int.reduceLE, Int.reduceAdd, Int.reduceSub, Int.reduceEq, reduceIte, Nat.reduceBNe, Int.reducePow, Nat.reducePow, Int.reduceMul, Int.reduceNeg, isB_i, isB_b, isB_y, isBv_i, isBv_b, eqCells_t, TT]
    have kk : ((k : Nat) : Int) < 2 := by omega
    refine ⟨⟨by omega, by omega⟩, by omega, ?_⟩
    refine draw_of cx_ok (by kernel_rfl) 400 [6, 11] [(0, true), (1, true), (2, true), (3, true), (4, true), (5, true), (6, true), (7, true), (8, true), (9, true), (10, true), (11, true), (12, false), (13, true)] (by kernel_rfl) (by first | exact hok | simp [*]) ?_
    simp (maxSteps := 4000000) only [Try.results3, wd, wr, mx, my, ltd, ltr, ltx, lty, unL_maskL, hR, ek, gdI ps hk, gdJ ps hk, XX, Nat.reduceBEq, Nat.reduceLT, Nat.reduceAdd, Nat.reduceMul, Nat.reduceSub, Nat.reduceLeDiff, Nat.reduceEqDiff, Int.reduceToNat, Int.reduceLT, Int.reduceLE, Int.reduceAdd, Int.reduceSub, Int.reduceEq, reduceIte, Nat.reduceBNe, Int.reducePow, Nat.reducePow, Int.reduceMul, Int.reduceNeg, isB_i, isB_b, isB_y, isBv_i, isBv_b, eqCells_t, TT]
    refine ⟨by omega, by omega, ⟨by omega, by omega⟩, by omega, ⟨by omega, by omega⟩, ?_⟩
    have m1 := fun x hx => mask_off (L := [6, 11]) (H := H) (nc x hx)
    refine call_is (step_spec (maskL [6, 11] 0 H) (ps k).i (ps k).w (ps k).j (ps k).v od orr (ps k).L (Dd.mono (m1 _ (.inl rfl)) (m1 _ (.inr (.inl rfl)))) (Rr.mono (m1 _ (.inr (.inr (.inl rfl)))) (m1 _ (.inr (.inr (.inr rfl))))) P.n1 P.n2 P.n3 P.n4 P.hL o.kind o.on o.a o.b o.tr ht o.l o.sp o.c (by omega)) ?_
    rintro _ h1 ⟨rfl, S⟩
    simp (maxSteps := 4000000) only [Try.results3, XX, Nat.reduceBEq, Nat.reduceLT, Nat.reduceAdd, Nat.reduceMul, Nat.reduceSub, Nat.reduceLeDiff, Nat.reduceEqDiff, Int.reduceToNat, Int.reduceLT, Int.reduceLE, Int.reduceAdd, Int.reduceSub, Int.reduceEq, reduceIte, Nat.reduceBNe, Int.reducePow, Nat.reducePow, Int.reduceMul, Int.reduceNeg, isB_i, isB_b, isB_y, isBv_i, isBv_b, eqCells_t, TT]
    have hL' := stepL_lt (kind := o.kind) (a := o.a) (b := o.b) P.hL hol
    have nL' := stepL_len (kind := o.kind) (a := o.a) (b := o.b) (L := (ps k).L) (l := o.l)
    generalize stepL o.kind o.a o.b (ps k).L o.l = L' at S hL' nL'
    have S' := S.unmask lP fun x hx => by
      have : x = 6 ∨ x = 11 := by simpa using hx
      obtain ⟨⟨a1, a2, a3, a4⟩, ⟨b1, b2, b3, b4⟩⟩ := nd
      rcases this with rfl | rfl
      · exact ⟨ltd, a1, a2, a3, a4⟩
      · exact ⟨ltr, b1, b2, b3, b4⟩
    generalize unL [6, 11] 0 H h1 = H1 at S' ⊢
    obtain ⟨ps1, D1, eL, hps1, _⟩ := D.step hk S' hL'
    have P1 := D1.ok k hk
    obtain ⟨od1, Dd1⟩ := P1.d
    obtain ⟨or1, Rr1⟩ := P1.r
    have wd1 := D1.hd
    have wr1 := D1.hr
    have ltd1 := lt_of wd1
    have ltr1 := lt_of wr1
    rw [eL] at Dd1 Rr1
    clear S S' Dd Rr m1 mx my ltx lty hok
    simp (maxSteps := 4000000) only [Try.results3, wd1, ltd1, gdI ps1 hk, XX, Nat.reduceBEq, Nat.reduceLT, Nat.reduceAdd, Nat.reduceMul, Nat.reduceSub, Nat.reduceLeDiff, Nat.reduceEqDiff, Int.reduceToNat, Int.reduceLT, Int.reduceLE, Int.reduceAdd, Int.reduceSub, Int.reduceEq, reduceIte, Nat.reduceBNe, Int.reducePow, Nat.reducePow, Int.reduceMul, Int.reduceNeg, isB_i, isB_b, isB_y, isBv_i, isBv_b, eqCells_t, TT]
    refine ⟨by omega, by omega, ?_⟩
    refine call_is (left_spec H1 _ _ od1 L' Dd1) ?_
    rintro _ H1 ⟨rfl, rfl⟩
    simp (maxSteps := 4000000) only [Try.results3, wr1, ltr1, gdJ ps1 hk, XX, Nat.reduceBEq, Nat.reduceLT, Nat.reduceAdd, Nat.reduceMul, Nat.reduceSub, Nat.reduceLeDiff, Nat.reduceEqDiff, Int.reduceToNat, Int.reduceLT, Int.reduceLE, Int.reduceAdd, Int.reduceSub, Int.reduceEq, reduceIte, Nat.reduceBNe, Int.reducePow, Nat.reducePow, Int.reduceMul, Int.reduceNeg, isB_i, isB_b, isB_y, isBv_i, isBv_b, eqCells_t, TT]
    refine ⟨⟨by omega, by omega⟩, by omega, ?_⟩
    refine call_is (rleft_spec _ _ _ or1 L' Rr1) ?_
    rintro _ H1 ⟨rfl, rfl⟩
    simp (maxSteps := 4000000) only [Try.results3, ei, XX, Nat.reduceBEq, Nat.reduceLT, Nat.reduceAdd, Nat.reduceMul, Nat.reduceSub, Nat.reduceLeDiff, Nat.reduceEqDiff, Int.reduceToNat, Int.reduceLT, Int.reduceLE, Int.reduceAdd, Int.reduceSub, Int.reduceEq, reduceIte, Nat.reduceBNe, Int.reducePow, Nat.reducePow, Int.reduceMul, Int.reduceNeg, isB_i, isB_b, isB_y, isBv_i, isBv_b, eqCells_t, TT]
    refine ⟨n - (i + 1), by omega, _, ⟨i + 1, _, ps1, rfl, by omega, D1, fun q hq => ?_, rfl⟩, .inl ⟨rfl, rfl, rfl, rfl, rfl, rfl, trivial⟩⟩
    by_cases hqk : q = k
    · subst hqk
      rw [eL, tot_next ho]; omega
    · rw [hps1 q hqk, tot_next ho]
      have := hlen2 q hq
      omega
  · have di : decide ((i : Int) < (n : Int)) = false := by simp only [decide_eq_false_iff_not]; omega
    simp (maxSteps := 4000000) only [Try.results3, di, XX, Nat.reduceBEq, Nat.reduceLT, Nat.reduceAdd, Nat.reduceMul, Nat.reduceSub, Nat.reduceLeDiff, Nat.reduceEqDiff, Int.reduceToNat, Int.reduceLT, Int.reduceLE, Int.reduceAdd, Int.reduceSub, Int.reduceEq, reduceIte, Nat.reduceBNe, Int.reducePow, Nat.reducePow, Int.reduceMul, Int.reduceNeg, isB_i, isB_b, isB_y, isBv_i, isBv_b, eqCells_t, TT]
    clear hops hsum hlen2
    refine loop_any cx_ok 400 (fun μ σ => ∃ (k : Nat) (H : List SB) (ps : Nat → Pr), μ = 2 - k ∧ k ≤ 2 ∧ Duo H ps 6 11 ∧
      σ = ⟨⟨21, 0⟩, [(10, .c (.sl 6 0 2 2)), (11, .c (.sl 11 0 2 2)), (18, .c (i64 k))], H⟩) 2
      ⟨⟨21, 0⟩, [(10, .c (.sl 6 0 2 2)), (11, .c (.sl 11 0 2 2)), (18, .c (i64 (0 : Nat)))], H⟩ ⟨0, H, ps, rfl, by omega, D, rfl⟩
      (.inl ⟨rfl, rfl, rfl, rfl, rfl, trivial⟩) ?_
    clear D
    rintro μ σ ⟨k, H, ps, rfl, hk2, D, rfl⟩
    by_cases hk : k < 2
    · have dk : decide ((k : Int) < 2) = true := by simp only [decide_eq_true_eq]; omega
      have ek : IntKind.i64.wrap ((k : Int) + 1) = ((k + 1 : Nat) : Int) := by rw [w64] <;> omega
      simp (maxSteps := 4000000) only [Try.results3, dk, XX, Nat.reduceBEq, Nat.reduceLT, Nat.reduceAdd, Nat.reduceMul, Nat.reduceSub, Nat.reduceLeDiff, Nat.reduceEqDiff, Int.reduceToNat, Int.reduceLT, Int.reduceLE, Int.reduceAdd, Int.reduceSub, Int.reduceEq, reduceIte, Nat.reduceBNe, Int.reducePow, Nat.reducePow, Int.reduceMul, Int.reduceNeg, isB_i, isB_b, isB_y, isBv_i, isBv_b, eqCells_t, TT]
      refine loop_any cx_ok 400 (fun μ σ => ∃ (H : List SB) (ps : Nat → Pr), μ = (ps k).L.length ∧ Duo H ps 6 11 ∧
        σ = ⟨⟨21, 0⟩, [(10, .c (.sl 6 0 2 2)), (11, .c (.sl 11 0 2 2)), (18, .c (i64 k))], H⟩) (ps k).L.length
        ⟨⟨21, 0⟩, [(10, .c (.sl 6 0 2 2)), (11, .c (.sl 11 0 2 2)), (18, .c (i64 k))], H⟩ ⟨H, ps, rfl, D, rfl⟩
        (.inl ⟨rfl, rfl, rfl, rfl, rfl, trivial⟩) ?_
      clear D
      rintro μ σ ⟨H, ps, rfl, D, rfl⟩
      have P := D.ok k hk
      have lP := P.lt
      obtain ⟨od, Dd⟩ := P.d
      obtain ⟨orr, Rr⟩ := P.r
      have wd := D.hd
      have wr := D.hr
      have ltd := lt_of wd
      have ltr := lt_of wr
      simp (maxSteps := 4000000) only [Try.results3, wr, ltr, gdJ ps hk, XX, Nat.reduceBEq, Nat.reduceLT, Nat.reduceAdd, Nat.reduceMul, Nat.reduceSub, Nat.reduceLeDiff, Nat.reduceEqDiff, Int.reduceToNat, Int.reduceLT, Int.reduceLE, Int.reduceAdd, Int.reduceSub, Int.reduceEq, reduceIte, Nat.reduceBNe, Int.reducePow, Nat.reducePow, Int.reduceMul, Int.reduceNeg, isB_i, isB_b, isB_y, isBv_i, isBv_b, eqCells_t, TT]
      refine ⟨by omega, by omega, ?_⟩
      refine call_is (rleft_spec H _ _ orr _ Rr) ?_
      rintro _ H ⟨rfl, rfl⟩
      by_cases h0 : 0 < (ps k).L.length
      · have d0 : decide (0 < ((ps k).L.length : Int)) = true := by simp only [decide_eq_true_eq]; omega
        simp (maxSteps := 4000000) only [Try.results3, d0, wd, ltd, gdI ps hk, XX, Nat.reduceBEq, Nat.reduceLT, Nat.reduceAdd, Nat.reduceMul, Nat.reduceSub, Nat.reduceLeDiff, Nat.reduceEqDiff, Int.reduceToNat, Int.reduceLT, Int.reduceLE, Int.reduceAdd, Int.reduceSub, Int.reduceEq, reduceIte, Nat.reduceBNe, Int.reducePow, Nat.reducePow, Int.reduceMul, Int.reduceNeg, isB_i, isB_b, isB_y, isBv_i, isBv_b, eqCells_t, TT]
        refine ⟨⟨by omega, by omega⟩, by omega, ?_⟩
        refine call_is (next_spec _ _ _ od _ Dd) ?_
        rintro _ H1 ⟨rfl, D1, q1, q2⟩
        have nd := D.nd k hk
        have wr1 := (q2 11 nd.2.1).trans wr
        have ltr1 := lt_of wr1
        have R1 := Rr.mono (q2 _ (Ne.symm P.n1)) (q2 _ (Ne.symm P.n2))
        simp (maxSteps := 4000000) only [Try.results3, wr1, ltr1, gdJ ps hk, XX, Nat.reduceBEq, Nat.reduceLT, Nat.reduceAdd, Nat.reduceMul, Nat.reduceSub, Nat.reduceLeDiff, Nat.reduceEqDiff, Int.reduceToNat, Int.reduceLT, Int.reduceLE, Int.reduceAdd, Int.reduceSub, Int.reduceEq, reduceIte, Nat.reduceBNe, Int.reducePow, Nat.reducePow, Int.reduceMul, Int.reduceNeg, isB_i, isB_b, isB_y, isBv_i, isBv_b, eqCells_t, TT]
        refine ⟨⟨by omega, by omega⟩, by omega, ?_⟩
        refine call_is (rnext_spec H1 _ _ orr _ R1) ?_
        rintro _ H2 ⟨rfl, R2, K2⟩
        have S := StepP.two (H := H) (G := H) (Nat.le_refl _) (fun _ _ => rfl) (KeepD.off ⟨q1, q2⟩) K2 D1 R2 P.n1 P.n2 P.n3 P.n4
        obtain ⟨ps1, D2, eL, _, _⟩ := D.step hk S (tail_lt P.hL)
        simp (maxSteps := 4000000) only [Try.results3, XX, Nat.reduceBEq, Nat.reduceLT, Nat.reduceAdd, Nat.reduceMul, Nat.reduceSub, Nat.reduceLeDiff, Nat.reduceEqDiff, Int.reduceToNat, Int.reduceLT, Int.reduceLE, Int.reduceAdd, Int.reduceSub, Int.reduceEq, reduceIte, Nat.reduceBNe, Int.reducePow, Nat.reducePow, Int.reduceMul, Int.reduceNeg, isB_i, isB_b, isB_y, isBv_i, isBv_b, eqCells_t, TT]
        exact ⟨(ps1 k).L.length, by rw [eL, List.length_tail]; omega, _, ⟨H2, ps1, rfl, D2, rfl⟩, .inl ⟨rfl, rfl, rfl, rfl, rfl, trivial⟩⟩
      · have d0 : decide (0 < ((ps k).L.length : Int)) = false := by simp only [decide_eq_false_iff_not]; omega
        have hn : (ps k).L = [] := List.eq_nil_of_length_eq_zero (by omega)
        simp (maxSteps := 4000000) only [Try.results3, d0, wd, ltd, gdI ps hk, XX, Nat.reduceBEq, Nat.reduceLT, Nat.reduceAdd, Nat.reduceMul, Nat.reduceSub, Nat.reduceLeDiff, Nat.reduceEqDiff, Int.reduceToNat, Int.reduceLT, Int.reduceLE, Int.reduceAdd, Int.reduceSub, Int.reduceEq, reduceIte, Nat.reduceBNe, Int.reducePow, Nat.reducePow, Int.reduceMul, Int.reduceNeg, isB_i, isB_b, isB_y, isBv_i, isBv_b, eqCells_t, TT]
        refine ⟨⟨by omega, by omega⟩, by omega, ?_⟩
        refine call_is (next_spec _ _ _ od _ Dd) ?_
        rintro _ H1 ⟨rfl, D1, q1, q2⟩
        have nd := D.nd k hk
        have wd1 := (q2 6 nd.1.1).trans wd
        have ltd1 := lt_of wd1
        have R1 := Rr.mono (q2 _ (Ne.symm P.n1)) (q2 _ (Ne.symm P.n2))
        rw [hn]
        have z0 : ([] : List Nat).headD 0 = 0 := rfl
        simp (maxSteps := 4000000) only [Try.results3, wd1, ltd1, gdI ps hk, z0, XX, Nat.reduceBEq, Nat.reduceLT, Nat.reduceAdd, Nat.reduceMul, Nat.reduceSub, Nat.reduceLeDiff, Nat.reduceEqDiff, Int.reduceToNat, Int.reduceLT, Int.reduceLE, Int.reduceAdd, Int.reduceSub, Int.reduceEq, reduceIte, Nat.reduceBNe, Int.reducePow, Nat.reducePow, Int.reduceMul, Int.reduceNeg, isB_i, isB_b, isB_y, isBv_i, isBv_b, eqCells_t, TT]
        refine ⟨⟨by omega, by omega⟩, by omega, ?_⟩
        refine call_is (left_spec H1 _ _ od _ D1) ?_
        rintro _ H1 ⟨rfl, rfl⟩
        have S := StepP.two (H := H) (G := H) (Nat.le_refl _) (fun _ _ => rfl) (KeepD.off ⟨q1, q2⟩) ⟨rfl, fun _ _ => rfl⟩ D1 (by rw [hn] at R1 ⊢; exact R1) P.n1 P.n2 P.n3 P.n4
        obtain ⟨ps1, D2, eL, _, _⟩ := D.step hk S (tail_lt P.hL)
        rw [hn]
        simp (maxSteps := 4000000) only [Try.results3, List.tail_nil, List.length_nil, ek, XX, Nat.reduceBEq, Nat.reduceLT, Nat.reduceAdd, Nat.reduceMul, Nat.reduceSub, Nat.reduceLeDiff, Nat.reduceEqDiff, Int.reduceToNat, Int.reduceLT, Int.reduceLE, Int.reduceAdd, Int.reduceSub, Int.reduceEq, reduceIte, Nat.reduceBNe, Int.reducePow, Nat.reducePow, Int.reduceMul, Int.reduceNeg, isB_i, isB_b, isB_y, isBv_i, isBv_b, eqCells_t, TT]
        exact ⟨2 - (k + 1), by omega, _, ⟨k + 1, H1, ps1, rfl, by omega, D2, rfl⟩, .inl ⟨rfl, rfl, rfl, rfl, rfl, trivial⟩⟩
    · have dk : decide ((k : Int) < 2) = false := by simp only [decide_eq_false_iff_not]; omega
      simp (maxSteps := 4000000) only [Try.results3, dk, XX, Nat.reduceBEq, Nat.reduceLT, Nat.reduceAdd, Nat.reduceMul, Nat.reduceSub, Nat.reduceLeDiff, Nat.reduceEqDiff, Int.reduceToNat, Int.reduceLT, Int.reduceLE, Int.reduceAdd, Int.reduceSub, Int.reduceEq, reduceIte, Nat.reduceBNe, Int.reducePow, Nat.reducePow, Int.reduceMul, Int.reduceNeg, isB_i, isB_b, isB_y, isBv_i, isBv_b, eqCells_t, TT]

end Go.Proofs.Ytniednekfnfhmaa.Sx
