/- The symbolic executor, at work: the law of frames that come and go. No condition. -/
import Derived.Test.YtdfhmpheepobnaaC4g
namespace Go.Proofs.Ytdfhmpheepobnaa.Sx
open Go
set_option linter.unusedSimpArgs false
set_option linter.unusedVariables false
set_option linter.unusedSectionVars false
set_option maxRecDepth 10000
set_option maxHeartbeats 4000000

theorem opsC_drop {ops : List OpC} {i : Nat} {o : OpC} (h : ops[i]? = some o) : ∃ R, (ops.map OpC.rc).flatten.drop (i * 3) = o.rc ++ R := by
  have hl : ∀ x ∈ ops.map OpC.rc, x.length = 3 := by
    intro x hx
    simp only [List.mem_map] at hx
    obtain ⟨o, _, rfl⟩ := hx
    rfl
  obtain ⟨h1, rfl⟩ := List.getElem?_eq_some_iff.1 h
  have := flat_at hl (i := i) (by simpa using h1)
  rw [List.getElem_map] at this
  refine ⟨((ops.map OpC.rc).flatten.drop (i * 3)).drop 3, ?_⟩
  rw [← this, List.take_append_drop]

/-- Strings in a window. -/
abbrev ssC (q : List (List UInt8)) (j : Nat) : List SC := q.map strB ++ List.replicate j noS
abbrev ssB (o : Bool) (q : List (List UInt8)) (j : Nat) : SB := ⟨o, 9, ssC q j⟩
theorem ssC_mem {q : List (List UInt8)} {j : Nat} {x : SC} (hx : x ∈ ssC q j) : ∃ s, x = .v (.string s) := by
  rcases List.mem_append.1 hx with h | h
  · obtain ⟨l, _, rfl⟩ := List.mem_map.1 h
    exact ⟨_, rfl⟩
  · exact ⟨_, List.eq_of_mem_replicate h⟩
theorem ssC_ids (p : Nat → Bool) (q : List (List UInt8)) (j : Nat) : (ssC q j).all (SC.ids p) = true := by
  rw [List.all_eq_true]
  intro x hx
  obtain ⟨s, rfl⟩ := ssC_mem hx
  rfl
theorem ssC_ren (r : Nat → Nat) (q : List (List UInt8)) (j : Nat) : (ssC q j).map (SC.ren r) = ssC q j := by
  conv => rhs; rw [← List.map_id (ssC q j)]
  refine List.map_congr_left fun x hx => ?_
  obtain ⟨s, rfl⟩ := ssC_mem hx
  rfl
theorem ssC_len (q : List (List UInt8)) (j : Nat) : (ssC q j).length = q.length + j := by simp

theorem ssC_room (q : List (List UInt8)) (j : Nat) (x : List UInt8) (hj : 1 ≤ j) : (ssC q j).take q.length ++ [strB x] ++ (ssC q j).drop (q.length + 1) = ssC (q ++ [x]) (j - 1) := by
  obtain ⟨j', rfl⟩ := Nat.exists_eq_add_of_le hj
  unfold ssC
  rw [Nat.add_comm 1 j', List.replicate_succ, show noS :: List.replicate j' noS = [noS] ++ List.replicate j' noS from rfl, seg (A := q.map strB) (x := [noS]) (j := q.length + 1) (by simp) rfl]
  simp
theorem ssC_grow (q : List (List UInt8)) (j j' : Nat) (x : List UInt8) : (ssC q j).take q.length ++ [strB x] ++ (List.replicate j' [SC.v (.string ⟨#[]⟩)]).flatten = ssC (q ++ [x]) j' := by
  unfold ssC
  rw [List.take_left' (by simp)]
  have : ∀ j', (List.replicate j' [noS]).flatten = List.replicate j' noS := by
    intro j'
    induction j' with
    | zero => rfl
    | succ j' ih => rw [List.replicate_succ, List.flatten_cons, ih]; rfl
  rw [show (SC.v (.string ⟨#[]⟩)) = noS from rfl, this]
  simp
theorem Flow.arrive {n m : Nat} {k : CK} {came laid : List (List UInt8)} {got gone : Nat} (F : Flow n m k came laid got gone) {s : Sl} (hs : k.rx[k.rn]? = some s) (ho : s.own = true) (hr : came.length < got + n) (x : List UInt8) (hx : 0 < x.length) (hx2 : x.length ≤ 1514) (hc : came.length < 9223372036854775807) :
    Flow n m { k with rx := k.rx.set k.rn ⟨false, x, (s.d ++ s.j).drop x.length⟩, rn := (k.rn + 1) % k.rx.length, cin := IntKind.i64.wrap (k.cin + 1) } (came ++ [x]) laid got gone := by
  have ln := F.rx.len
  have hn0 : 0 < n := by have := F.ok.rx0; omega
  refine ⟨⟨by simpa using F.ok.rx0, by simpa using F.ok.rx1, F.ok.tx0, F.ok.tx1, by simp [ln]; exact Nat.mod_lt _ hn0, F.ok.tn, set_ok F.ok.rs (F.ok.rs s (List.mem_of_getElem? hs)) hx2, F.ok.ts⟩, ?_, F.tx, ?_, F.tn, ?_, F.cout⟩
  · have := F.rx.push hr x ((s.d ++ s.j).drop x.length)
    rw [← F.rn] at this
    exact this
  · show (k.rn + 1) % k.rx.length = _
    rw [ln, F.rn, List.length_append, Nat.mod_add_mod]
    rfl
  · show IntKind.i64.wrap (k.cin + 1) = _
    rw [F.cin, w64 (by omega) (by omega)]
    simp

theorem binS_any {d : TD} {sz : List Bool} {fl : Bool} {op : BinOp} {x : ByteArray} : binS d sz fl op (.c (.v (.string x))) (.c .any) = .bad := by cases fl <;> rfl
theorem Flow.give {n m : Nat} {k : CK} {came laid : List (List UInt8)} {got gone : Nat} (F : Flow n m k came laid got gone) {s : Sl} (hs : k.rx[got % n]? = some s) (hr : got < came.length) :
    Flow n m { k with rx := k.rx.set (got % n) ⟨true, [], s.d ++ s.j⟩ } came laid (got + 1) gone := by
  refine ⟨⟨by simpa using F.ok.rx0, by simpa using F.ok.rx1, F.ok.tx0, F.ok.tx1, by simpa using F.ok.rn, F.ok.tn, set_ok (b := []) F.ok.rs (F.ok.rs s (List.mem_of_getElem? hs)) (by simp), F.ok.ts⟩, ?_, F.tx, F.rn, F.tn, F.cin, F.cout⟩
  exact F.rx.pop hr [] (s.d ++ s.j)
theorem Flow.lay {n m : Nat} {k : CK} {came laid : List (List UInt8)} {got gone : Nat} (F : Flow n m k came laid got gone) {s : Sl} (hs : k.tx[laid.length % m]? = some s) (hr : laid.length < gone + m) (x : List UInt8) (hx2 : x.length ≤ 1514) :
    Flow n m { k with tx := k.tx.set (laid.length % m) ⟨true, x, (s.d ++ s.j).drop x.length⟩ } came (laid ++ [x]) got gone := by
  refine ⟨⟨F.ok.rx0, F.ok.rx1, by simpa using F.ok.tx0, by simpa using F.ok.tx1, F.ok.rn, by simpa using F.ok.tn, F.ok.rs, ?_⟩, F.rx, F.tx.push hr x _, F.rn, F.tn, F.cin, F.cout⟩
  intro y hy
  rcases List.mem_or_eq_of_mem_set hy with hy | rfl
  · exact F.ok.ts y hy
  · have := F.ok.ts s (List.mem_of_getElem? hs)
    unfold Sl.ok at this ⊢
    simp only [List.length_drop, List.length_append]
    omega
theorem Flow.depart {n m : Nat} {k : CK} {came laid : List (List UInt8)} {got gone : Nat} (F : Flow n m k came laid got gone) {s : Sl} (hs : k.tx[k.tn]? = some s) (hr : gone < laid.length) (hc : gone < 9223372036854775807) :
    Flow n m { k with tx := k.tx.set k.tn ⟨false, [], s.d ++ s.j⟩, tn := (k.tn + 1) % k.tx.length, cout := IntKind.i64.wrap (k.cout + 1) } came laid got (gone + 1) := by
  have lm := F.tx.len
  have hm0 : 0 < m := by have := F.ok.tx0; omega
  refine ⟨⟨F.ok.rx0, F.ok.rx1, by simpa using F.ok.tx0, by simpa using F.ok.tx1, F.ok.rn, by simp [lm]; exact Nat.mod_lt _ hm0, F.ok.rs, set_ok (b := []) F.ok.ts (F.ok.ts s (List.mem_of_getElem? hs)) (by simp)⟩, F.rx, ?_, F.rn, ?_, F.cin, ?_⟩
  · have := F.tx.pop hr [] (s.d ++ s.j)
    rw [← F.tn] at this
    exact this
  · show (k.tn + 1) % k.tx.length = _
    rw [lm, F.tn, Nat.mod_add_mod]
  · show IntKind.i64.wrap (k.cout + 1) = _
    rw [F.cout, w64 (by omega) (by omega)]
    simp

theorem cardFlows_walk : ∀ css, RTyL (RTy T reachBytes DEPTH) [3, 3, 33] css → Spec Try.prog 5 (svs T [3, 3, 33] css) [] fun r _ => r = .c (.v (.bool true)) := by
  intro css h
  obtain ⟨x1, xs1, rfl, h1, g1⟩ := RTyL_cons h
  obtain ⟨x2, xs2, rfl, h2, g2⟩ := RTyL_cons g1
  obtain ⟨x3, xs3, rfl, h3, g3⟩ := RTyL_cons g2
  obtain rfl := RTyL_nil g3
  obtain ⟨n, rfl, hn⟩ := RTy_int T_3 h1
  obtain ⟨m, rfl, hm⟩ := RTy_int T_3 h2
  obtain ⟨items, N, rfl, hlen, hmax, hit⟩ := RTy_slice T_33 T_37 h3
  obtain ⟨ops, rfl, hops⟩ := all_form fun x hx => OpC.form (n := 3) (hit.2 x hx)
  simp only [List.length_map] at hlen hmax
  unfold maxLen at hmax
  have e1 : ∀ a : Int, svOf T 3 [.v (.int .i64 a)] = .c (i64 a) := fun _ => rfl
  have e3 : svOf T 33 [.sl (ops.map OpC.rc).flatten N (ops.map OpC.rc).length] = .c (.ro (ops.map OpC.rc).flatten N (ops.map OpC.rc).length) := rfl
  simp only [svs, e1, e3]
  have hsz := hit.1
  clear h1 h2 g1 g2 h e1 e3
  by_cases hb : n < 1 ∨ 64 < n ∨ m < 1 ∨ 64 < m
  · refine spec_of_X cx_ok Try.func5 rfl (by kernel_rfl) (by kernel_rfl) (Nat.le_of_ble_eq_true rfl) 400 68 ?_
    simp (maxSteps := 4000000) only [Try.results5, XX, Nat.reduceBEq, Nat.reduceLT, Nat.reduceAdd, Nat.reduceMul, Nat.reduceSub, Nat.reduceLeDiff, Nat.reduceEqDiff, Int.reduceToNat, Int.reduceLT, Int.reduceLE, Int.reduceAdd, Int.reduceSub, Int.reduceEq, reduceIte, Nat.reduceBNe, Int.reducePow, Nat.reducePow, Int.reduceMul, Int.reduceNeg, isB_i, isB_b, isB_y, isBv_i, isBv_b, eqCells_t, TT]
    refine call_plain (live_spec) rfl ?_
    rintro _ rfl
    simp (maxSteps := 4000000) only [Try.results5, XX, Nat.reduceBEq, Nat.reduceLT, Nat.reduceAdd, Nat.reduceMul, Nat.reduceSub, Nat.reduceLeDiff, Nat.reduceEqDiff, Int.reduceToNat, Int.reduceLT, Int.reduceLE, Int.reduceAdd, Int.reduceSub, Int.reduceEq, reduceIte, Nat.reduceBNe, Int.reducePow, Nat.reducePow, Int.reduceMul, Int.reduceNeg, isB_i, isB_b, isB_y, isBv_i, isBv_b, eqCells_t, TT]
    refine call_plain (newN_spec n m hb) rfl ?_
    rintro _ rfl
    simp (maxSteps := 4000000) only [Try.results5, XX, Nat.reduceBEq, Nat.reduceLT, Nat.reduceAdd, Nat.reduceMul, Nat.reduceSub, Nat.reduceLeDiff, Nat.reduceEqDiff, Int.reduceToNat, Int.reduceLT, Int.reduceLE, Int.reduceAdd, Int.reduceSub, Int.reduceEq, reduceIte, Nat.reduceBNe, Int.reducePow, Nat.reducePow, Int.reduceMul, Int.reduceNeg, isB_i, isB_b, isB_y, isBv_i, isBv_b, eqCells_t, TT]
    rw [show (decide (n < 1) || decide (64 < n) || decide (m < 1) || decide (64 < m)) = true by simp only [Bool.or_eq_true, decide_eq_true_eq]; omega]
  · obtain ⟨n, rfl⟩ : ∃ k : Nat, n = k := ⟨n.toNat, by omega⟩
    obtain ⟨m, rfl⟩ : ∃ k : Nat, m = k := ⟨m.toNat, by omega⟩
    have hN := new_spec n m (by omega) (by omega) (by omega) (by omega)
    refine spec_of_X cx_ok Try.func5 rfl (by kernel_rfl) (by kernel_rfl) (Nat.le_of_ble_eq_true rfl) 400 68 ?_
    simp (maxSteps := 4000000) only [Try.results5, XX, Nat.reduceBEq, Nat.reduceLT, Nat.reduceAdd, Nat.reduceMul, Nat.reduceSub, Nat.reduceLeDiff, Nat.reduceEqDiff, Int.reduceToNat, Int.reduceLT, Int.reduceLE, Int.reduceAdd, Int.reduceSub, Int.reduceEq, reduceIte, Nat.reduceBNe, Int.reducePow, Nat.reducePow, Int.reduceMul, Int.reduceNeg, isB_i, isB_b, isB_y, isBv_i, isBv_b, eqCells_t, TT]
    refine call_plain (live_spec) rfl ?_
    rintro _ rfl
    simp (maxSteps := 4000000) only [Try.results5, XX, Nat.reduceBEq, Nat.reduceLT, Nat.reduceAdd, Nat.reduceMul, Nat.reduceSub, Nat.reduceLeDiff, Nat.reduceEqDiff, Int.reduceToNat, Int.reduceLT, Int.reduceLE, Int.reduceAdd, Int.reduceSub, Int.reduceEq, reduceIte, Nat.reduceBNe, Int.reducePow, Nat.reducePow, Int.reduceMul, Int.reduceNeg, isB_i, isB_b, isB_y, isBv_i, isBv_b, eqCells_t, TT]
    refine call_frame hN [] rfl rfl trivial rfl rfl ?_
    rintro _ _ ⟨rfl, rfl⟩
    simp (maxSteps := 4000000) only [Try.results5, ids_bsC, ren_bsC, noRo_bsC, plain_bsC, lt_bsC, ids_byte, ren_byte, noRo_byte, plain_byte, lt_byte, slC_ren, List.length_replicate, XX, Nat.reduceBEq, Nat.reduceLT, Nat.reduceAdd, Nat.reduceMul, Nat.reduceSub, Nat.reduceLeDiff, Nat.reduceEqDiff, Int.reduceToNat, Int.reduceLT, Int.reduceLE, Int.reduceAdd, Int.reduceSub, Int.reduceEq, reduceIte, Nat.reduceBNe, Int.reducePow, Nat.reducePow, Int.reduceMul, Int.reduceNeg, isB_i, isB_b, isB_y, isBv_i, isBv_b, eqCells_t, TT]
    refine loop_of cx_ok 400 (fun μ σ => ∃ (i : Nat) (k : CK) (came laid : List (List UInt8)) (got gone j1 j2 : Nat) (o1 o2 : Bool), μ = N - i ∧ i ≤ N ∧ came.length ≤ i ∧ laid.length ≤ i ∧ Flow n m k came laid got gone ∧ (0 < came.length + j1 → o1 = true) ∧ (0 < laid.length + j2 → o2 = true) ∧
        σ = ⟨⟨68, 0⟩, [(0, .c (i64 n)), (1, .c (i64 m)), (2, .c (.ro (ops.map OpC.rc).flatten N (ops.map OpC.rc).length)), (6, .c (.v (.bool false))), (8, .c (.ptr 0 0)), (9, .c (.sl 3 0 came.length (came.length + j1))), (10, .c (.sl 4 0 laid.length (laid.length + j2))), (11, .c (i64 got)), (12, .c (i64 gone)), (13, .c (i64 (got % n : Nat))), (14, .c (i64 (laid.length % m : Nat))), (15, .c (i64 i))], [cardB 1 2 n m k.rn k.tn k.cin k.cdr k.cout, stB (slC k.rx), stB (slC k.tx), ssB o1 came j1, ssB o2 laid j2]⟩) N
      ⟨⟨68, 0⟩, [(0, .c (i64 n)), (1, .c (i64 m)), (2, .c (.ro (ops.map OpC.rc).flatten N (ops.map OpC.rc).length)), (6, .c (.v (.bool false))), (8, .c (.ptr 0 0)), (9, .c (.sl 3 0 0 0)), (10, .c (.sl 4 0 0 0)), (11, .c (i64 (0 : Nat))), (12, .c (i64 (0 : Nat))), (13, .c (i64 (0 % n : Nat))), (14, .c (i64 (0 % m : Nat))), (15, .c (i64 (0 : Nat)))], [cardB 1 2 n m (0 : Nat) (0 : Nat) 0 0 0, stB (slC (newK n m).rx), stB (slC (newK n m).tx), ssB false [] 0, ssB false [] 0]⟩
      ⟨0, newK n m, [], [], 0, 0, 0, 0, false, false, rfl, Nat.zero_le _, Nat.le_refl _, Nat.le_refl _, ⟨newK_ok (by omega) (by omega) (by omega) (by omega), Rg.new false n, Rg.new true m, (Nat.zero_mod n).symm, (Nat.zero_mod m).symm, rfl, rfl⟩, fun h => absurd h (by simp), fun h => absurd h (by simp), rfl⟩ [some 0, some 1, some 2, none, none]
      ⟨rfl, rfl, ?_, ?_⟩ ?_
    · exact ⟨⟨.inl ⟨rfl, rfl⟩, fun _ => ⟨rfl, rfl⟩⟩, ⟨.inl ⟨slC_ids _ _, (slC_ren _ _).symm⟩, fun _ => ⟨rfl, rfl⟩⟩, ⟨.inl ⟨slC_ids _ _, (slC_ren _ _).symm⟩, fun _ => ⟨rfl, rfl⟩⟩, ⟨rfl, rfl⟩, ⟨rfl, rfl⟩, trivial⟩
    · rw [Nat.zero_mod, Nat.zero_mod]
      simp only [XX, Nat.reduceBEq, Nat.reduceLT, Nat.reduceAdd, Nat.reduceMul, Nat.reduceSub, Nat.reduceLeDiff, Nat.reduceEqDiff, Int.reduceToNat, Int.reduceLT, Int.reduceLE, Int.reduceAdd, Int.reduceSub, Int.reduceEq, reduceIte, Nat.reduceBNe, Int.reducePow, Nat.reducePow, Int.reduceMul, Int.reduceNeg, isB_i, isB_b, isB_y, isBv_i, isBv_b, eqCells_t, TT]
      exact ⟨.inr (.inr (.inr ⟨3, 0, rfl, .inl rfl⟩)), .inr (.inr (.inr ⟨4, 0, rfl, .inl rfl⟩))⟩
    rintro μ σ ⟨i, k, came, laid, got, gone, j1, j2, o1, o2, rfl, hi, hcl, hll, F, ho1, ho2, rfl⟩
    by_cases hlt : i < N
    · have di : decide ((i : Int) < (N : Int)) = true := by simp only [decide_eq_true_eq]; omega
      have ei : IntKind.i64.wrap ((i : Int) + 1) = ((i + 1 : Nat) : Int) := by rw [w64] <;> omega
      obtain ⟨o, ho⟩ : ∃ o, ops[i]? = some o := ⟨_, List.getElem?_eq_getElem (by omega)⟩
      obtain ⟨R, hR⟩ := opsC_drop ho
      simp only [OpC.rc, List.cons_append, List.nil_append] at hR
      obtain ⟨hc1, hc2, hc3, hc4⟩ := hops o (List.mem_of_getElem? ho)
      have ln := F.rx.len
      have lm := F.tx.len
      have hab := F.rx.ab
      have hbn := F.rx.bn
      have tab := F.tx.ab
      have tbn := F.tx.bn
      have hn0 : 0 < n := by omega
      have hm0 : 0 < m := by omega
      have hsz2 : ops.length * 40 ≤ 140737488351232 := by
        simp only [List.length_map] at hsz
        exact hsz
      have m9 : (bsR (o.l ++ o.sp)).take o.l.length = bsR o.l := by rw [rs_take, List.take_left' rfl]
      have e17 : decide (IntKind.i64.wrap ((came.length : Int) - (got : Int)) < (n : Int)) = decide (came.length < got + n) := by
        rw [w64 (by omega) (by omega), decide_eq_decide]; omega
      have e23 : decide (IntKind.i64.wrap ((laid.length : Int) - (gone : Int)) < (m : Int)) = decide (laid.length < gone + m) := by
        rw [w64 (by omega) (by omega), decide_eq_decide]; omega
      by_cases k1 : o.k = 1
      · skip
        have dk : decide (o.k = 1) = true := by simpa using k1
        simp (maxSteps := 4000000) only [Try.results5, di, hR, dk, e17, XX, Nat.reduceBEq, Nat.reduceLT, Nat.reduceAdd, Nat.reduceMul, Nat.reduceSub, Nat.reduceLeDiff, Nat.reduceEqDiff, Int.reduceToNat, Int.reduceLT, Int.reduceLE, Int.reduceAdd, Int.reduceSub, Int.reduceEq, reduceIte, Nat.reduceBNe, Int.reducePow, Nat.reducePow, Int.reduceMul, Int.reduceNeg, isB_i, isB_b, isB_y, isBv_i, isBv_b, eqCells_t, TT]
        refine ⟨⟨by omega, by omega⟩, ?_⟩
        obtain ⟨s, hs, hs1, hs2⟩ := F.rx.at_b hn0
        rw [← F.rn] at hs
        by_cases hb1 : o.l.length = 0 ∨ 1514 < o.l.length
        · have dr : (decide (0 < (o.l.length : Int)) && decide ((o.l.length : Int) ≤ 1514)) = false := by
            rw [Bool.and_eq_false_iff]; simp only [decide_eq_false_iff_not]; omega
          refine call_frame (arriveB_spec k o.l o.sp o.c hb1) [0, 1, 2] rfl rfl ?_ rfl (card_lt _) ?_
          · simp only [XX, Nat.reduceBEq, Nat.reduceLT, Nat.reduceAdd, Nat.reduceMul, Nat.reduceSub, Nat.reduceLeDiff, Nat.reduceEqDiff, Int.reduceToNat, Int.reduceLT, Int.reduceLE, Int.reduceAdd, Int.reduceSub, Int.reduceEq, reduceIte, Nat.reduceBNe, Int.reducePow, Nat.reducePow, Int.reduceMul, Int.reduceNeg, isB_i, isB_b, isB_y, isBv_i, isBv_b, eqCells_t, TT, preOk, ids_bsC, ren_bsC, noRo_bsC, plain_bsC, lt_bsC, ids_byte, ren_byte, noRo_byte, plain_byte, lt_byte, slC_ren, ln, lm]
          rintro _ _ ⟨rfl, rfl⟩
          simp (maxSteps := 4000000) only [Try.results5, ids_bsC, ren_bsC, noRo_bsC, plain_bsC, lt_bsC, ids_byte, ren_byte, noRo_byte, plain_byte, lt_byte, slC_ren, ln, lm, List.length_set, ei, dr, Bool.and_false, XX, Nat.reduceBEq, Nat.reduceLT, Nat.reduceAdd, Nat.reduceMul, Nat.reduceSub, Nat.reduceLeDiff, Nat.reduceEqDiff, Int.reduceToNat, Int.reduceLT, Int.reduceLE, Int.reduceAdd, Int.reduceSub, Int.reduceEq, reduceIte, Nat.reduceBNe, Int.reducePow, Nat.reducePow, Int.reduceMul, Int.reduceNeg, isB_i, isB_b, isB_y, isBv_i, isBv_b, eqCells_t, TT]
          refine ⟨N - (i + 1), by omega, _, ⟨i + 1, k, came, laid, got, gone, j1, j2, o1, o2, rfl, by omega, by first | omega | (simp; omega), by first | omega | (simp; omega), F, ho1, ho2, rfl⟩, [some 0, some 1, some 2, some 3, some 4], ⟨rfl, rfl, ?_, ?_⟩⟩
          · simp only [XX, Nat.reduceBEq, Nat.reduceLT, Nat.reduceAdd, Nat.reduceMul, Nat.reduceSub, Nat.reduceLeDiff, Nat.reduceEqDiff, Int.reduceToNat, Int.reduceLT, Int.reduceLE, Int.reduceAdd, Int.reduceSub, Int.reduceEq, reduceIte, Nat.reduceBNe, Int.reducePow, Nat.reducePow, Int.reduceMul, Int.reduceNeg, isB_i, isB_b, isB_y, isBv_i, isBv_b, eqCells_t, TT, slC_ids, slC_ren, ssC_ids, ssC_ren]
          · simp only [XX, Nat.reduceBEq, Nat.reduceLT, Nat.reduceAdd, Nat.reduceMul, Nat.reduceSub, Nat.reduceLeDiff, Nat.reduceEqDiff, Int.reduceToNat, Int.reduceLT, Int.reduceLE, Int.reduceAdd, Int.reduceSub, Int.reduceEq, reduceIte, Nat.reduceBNe, Int.reducePow, Nat.reducePow, Int.reduceMul, Int.reduceNeg, isB_i, isB_b, isB_y, isBv_i, isBv_b, eqCells_t, TT]
        · have dr : (decide (0 < (o.l.length : Int)) && decide ((o.l.length : Int) ≤ 1514)) = true := by
            simp only [Bool.and_eq_true, decide_eq_true_eq]; omega
          by_cases hroom : came.length < got + n
          · have dm : decide (came.length < got + n) = true := by simpa using hroom
            have F' : Flow n m { k with rx := k.rx.set k.rn ⟨false, o.l, (s.d ++ s.j).drop o.l.length⟩, rn := (k.rn + 1) % k.rx.length, cin := IntKind.i64.wrap (k.cin + 1) } (came ++ [o.l]) laid got gone := F.arrive hs (hs1 hroom) hroom o.l (by omega) (by omega) (by omega)
            refine call_frame (arrive_spec k F.ok s hs (hs1 hroom) o.l o.sp o.c (by omega) (by omega)) [0, 1, 2] rfl rfl ?_ rfl (card_lt _) ?_
            · simp only [XX, Nat.reduceBEq, Nat.reduceLT, Nat.reduceAdd, Nat.reduceMul, Nat.reduceSub, Nat.reduceLeDiff, Nat.reduceEqDiff, Int.reduceToNat, Int.reduceLT, Int.reduceLE, Int.reduceAdd, Int.reduceSub, Int.reduceEq, reduceIte, Nat.reduceBNe, Int.reducePow, Nat.reducePow, Int.reduceMul, Int.reduceNeg, isB_i, isB_b, isB_y, isBv_i, isBv_b, eqCells_t, TT, preOk, ids_bsC, ren_bsC, noRo_bsC, plain_bsC, lt_bsC, ids_byte, ren_byte, noRo_byte, plain_byte, lt_byte, slC_ren, ln, lm]
            rintro _ _ ⟨rfl, rfl⟩
            simp (maxSteps := 4000000) only [Try.results5, ids_bsC, ren_bsC, noRo_bsC, plain_bsC, lt_bsC, ids_byte, ren_byte, noRo_byte, plain_byte, lt_byte, slC_ren, ln, lm, List.length_set, ei, dr, dm, Bool.and_true, Bool.and_self, m9, bsR_toSC, strOf_bsC, XX, Nat.reduceBEq, Nat.reduceLT, Nat.reduceAdd, Nat.reduceMul, Nat.reduceSub, Nat.reduceLeDiff, Nat.reduceEqDiff, Int.reduceToNat, Int.reduceLT, Int.reduceLE, Int.reduceAdd, Int.reduceSub, Int.reduceEq, reduceIte, Nat.reduceBNe, Int.reducePow, Nat.reducePow, Int.reduceMul, Int.reduceNeg, isB_i, isB_b, isB_y, isBv_i, isBv_b, eqCells_t, TT]
            refine ⟨⟨by simp, isByte_bsC _⟩, ?_⟩
            simp only [List.replicate_succ, List.replicate_zero, List.flatten_cons, List.flatten_nil, List.cons_append, List.nil_append, List.drop_succ_cons, List.drop_zero, List.length_cons, List.length_nil, Nat.reduceAdd, Nat.reduceLeDiff, reduceIte]
            simp (maxSteps := 4000000) only [Try.results5, XX, Nat.reduceBEq, Nat.reduceLT, Nat.reduceAdd, Nat.reduceMul, Nat.reduceSub, Nat.reduceLeDiff, Nat.reduceEqDiff, Int.reduceToNat, Int.reduceLT, Int.reduceLE, Int.reduceAdd, Int.reduceSub, Int.reduceEq, reduceIte, Nat.reduceBNe, Int.reducePow, Nat.reducePow, Int.reduceMul, Int.reduceNeg, isB_i, isB_b, isB_y, isBv_i, isBv_b, eqCells_t, TT]
            refine ⟨⟨by omega, by unfold maxLen; omega, by rw [ssC_len]; omega, fun h => ⟨ho1 (by omega), by rw [ssC_len]; omega⟩⟩, ?_⟩
            rw [ln] at F'
            refine xapp_lit (fun j' : Nat => [(0, .c (i64 n)), (1, .c (i64 m)), (2, .c (.ro (ops.map OpC.rc).flatten N (ops.map OpC.rc).length)), (6, .c (.v (.bool false))), (8, .c (.ptr 0 0)), (10, .c (.sl 4 0 laid.length (laid.length + j2))), (11, .c (i64 got)), (12, .c (i64 gone)), (13, .c (i64 (got % n : Nat))), (14, .c (i64 (laid.length % m : Nat))), (15, .c (i64 i)), (102, .c (.sl 3 0 (came ++ [o.l]).length ((came ++ [o.l]).length + j')))]) (fun j' => [cardB 1 2 n m ((k.rn + 1) % n : Nat) k.tn (IntKind.i64.wrap (k.cin + 1)) k.cdr k.cout, stB (slC (k.rx.set k.rn ⟨false, o.l, (s.d ++ s.j).drop o.l.length⟩)), stB (slC k.tx), ssB true (came ++ [o.l]) j', ssB o2 laid j2]) [some 0, some 1, some 2, some 3, some 4] [some 0, some 1, some 2, some 7, some 4] (fun h => ?_) (fun h c h1 => ?_) (fun j' => ?_)
            · refine ⟨j1 - 1, ⟨rfl, rfl, ?_, ?_⟩⟩
              · exact ⟨⟨.inl ⟨rfl, rfl⟩, fun _ => ⟨rfl, rfl⟩⟩, ⟨.inl ⟨slC_ids _ _, (slC_ren _ _).symm⟩, fun _ => ⟨rfl, rfl⟩⟩, ⟨.inl ⟨slC_ids _ _, (slC_ren _ _).symm⟩, fun _ => ⟨rfl, rfl⟩⟩, ⟨.inl ⟨ssC_ids _ _ _, (ssC_room came j1 o.l (by omega)).trans (ssC_ren _ _ _).symm⟩, fun _ => ⟨ho1 (by omega), rfl⟩⟩, ⟨.inl ⟨ssC_ids _ _ _, (ssC_ren _ _ _).symm⟩, fun h => ⟨h, rfl⟩⟩, trivial⟩
              · simp only [XX, Nat.reduceBEq, Nat.reduceLT, Nat.reduceAdd, Nat.reduceMul, Nat.reduceSub, Nat.reduceLeDiff, Nat.reduceEqDiff, Int.reduceToNat, Int.reduceLT, Int.reduceLE, Int.reduceAdd, Int.reduceSub, Int.reduceEq, reduceIte, Nat.reduceBNe, Int.reducePow, Nat.reducePow, Int.reduceMul, Int.reduceNeg, isB_i, isB_b, isB_y, isBv_i, isBv_b, eqCells_t, TT]
                simp
                omega
            · obtain ⟨j', rfl⟩ := Nat.exists_eq_add_of_le h1
              refine ⟨j', ⟨rfl, rfl, ?_, ?_⟩⟩
              · refine ⟨⟨.inl ⟨rfl, rfl⟩, fun _ => ⟨rfl, rfl⟩⟩, ⟨.inl ⟨slC_ids _ _, (slC_ren _ _).symm⟩, fun _ => ⟨rfl, rfl⟩⟩, ⟨.inl ⟨slC_ids _ _, (slC_ren _ _).symm⟩, fun _ => ⟨rfl, rfl⟩⟩, ⟨.inl ⟨ssC_ids _ _ _, ?_⟩, fun _ => ⟨rfl, rfl⟩⟩, ⟨.inl ⟨ssC_ids _ _ _, (ssC_ren _ _ _).symm⟩, fun h => ⟨h, rfl⟩⟩, trivial⟩
                rw [ssC_ren]
                have := ssC_grow came j1 (came.length + 1 + j' - (came.length + 1)) o.l
                rw [Nat.add_sub_cancel_left] at this ⊢
                exact this
              · simp only [XX, Nat.reduceBEq, Nat.reduceLT, Nat.reduceAdd, Nat.reduceMul, Nat.reduceSub, Nat.reduceLeDiff, Nat.reduceEqDiff, Int.reduceToNat, Int.reduceLT, Int.reduceLE, Int.reduceAdd, Int.reduceSub, Int.reduceEq, reduceIte, Nat.reduceBNe, Int.reducePow, Nat.reducePow, Int.reduceMul, Int.reduceNeg, isB_i, isB_b, isB_y, isBv_i, isBv_b, eqCells_t, TT]
                simp
            simp (maxSteps := 4000000) only [Try.results5, ei, XX, Nat.reduceBEq, Nat.reduceLT, Nat.reduceAdd, Nat.reduceMul, Nat.reduceSub, Nat.reduceLeDiff, Nat.reduceEqDiff, Int.reduceToNat, Int.reduceLT, Int.reduceLE, Int.reduceAdd, Int.reduceSub, Int.reduceEq, reduceIte, Nat.reduceBNe, Int.reducePow, Nat.reducePow, Int.reduceMul, Int.reduceNeg, isB_i, isB_b, isB_y, isBv_i, isBv_b, eqCells_t, TT]
            refine ⟨N - (i + 1), by omega, _, ⟨i + 1, _, came ++ [o.l], laid, got, gone, j', j2, true, o2, rfl, by omega, by first | omega | (simp; omega), by first | omega | (simp; omega), F', fun _ => rfl, ho2, rfl⟩, [some 0, some 1, some 2, some 3, some 4], ⟨rfl, rfl, ?_, ?_⟩⟩
            · simp only [XX, Nat.reduceBEq, Nat.reduceLT, Nat.reduceAdd, Nat.reduceMul, Nat.reduceSub, Nat.reduceLeDiff, Nat.reduceEqDiff, Int.reduceToNat, Int.reduceLT, Int.reduceLE, Int.reduceAdd, Int.reduceSub, Int.reduceEq, reduceIte, Nat.reduceBNe, Int.reducePow, Nat.reducePow, Int.reduceMul, Int.reduceNeg, isB_i, isB_b, isB_y, isBv_i, isBv_b, eqCells_t, TT, slC_ids, slC_ren, ssC_ids, ssC_ren]
            · simp only [XX, Nat.reduceBEq, Nat.reduceLT, Nat.reduceAdd, Nat.reduceMul, Nat.reduceSub, Nat.reduceLeDiff, Nat.reduceEqDiff, Int.reduceToNat, Int.reduceLT, Int.reduceLE, Int.reduceAdd, Int.reduceSub, Int.reduceEq, reduceIte, Nat.reduceBNe, Int.reducePow, Nat.reducePow, Int.reduceMul, Int.reduceNeg, isB_i, isB_b, isB_y, isBv_i, isBv_b, eqCells_t, TT]
          · have dm : decide (came.length < got + n) = false := by simpa using hroom
            refine call_frame (arriveF_spec k F.ok s hs (hs2 hroom) o.l o.sp o.c (by omega) (by omega)) [0, 1, 2] rfl rfl ?_ rfl (card_lt _) ?_
            · simp only [XX, Nat.reduceBEq, Nat.reduceLT, Nat.reduceAdd, Nat.reduceMul, Nat.reduceSub, Nat.reduceLeDiff, Nat.reduceEqDiff, Int.reduceToNat, Int.reduceLT, Int.reduceLE, Int.reduceAdd, Int.reduceSub, Int.reduceEq, reduceIte, Nat.reduceBNe, Int.reducePow, Nat.reducePow, Int.reduceMul, Int.reduceNeg, isB_i, isB_b, isB_y, isBv_i, isBv_b, eqCells_t, TT, preOk, ids_bsC, ren_bsC, noRo_bsC, plain_bsC, lt_bsC, ids_byte, ren_byte, noRo_byte, plain_byte, lt_byte, slC_ren, ln, lm]
            rintro _ _ ⟨rfl, rfl⟩
            simp (maxSteps := 4000000) only [Try.results5, ids_bsC, ren_bsC, noRo_bsC, plain_bsC, lt_bsC, ids_byte, ren_byte, noRo_byte, plain_byte, lt_byte, slC_ren, ln, lm, List.length_set, ei, dr, dm, Bool.and_true, Bool.false_and, XX, Nat.reduceBEq, Nat.reduceLT, Nat.reduceAdd, Nat.reduceMul, Nat.reduceSub, Nat.reduceLeDiff, Nat.reduceEqDiff, Int.reduceToNat, Int.reduceLT, Int.reduceLE, Int.reduceAdd, Int.reduceSub, Int.reduceEq, reduceIte, Nat.reduceBNe, Int.reducePow, Nat.reducePow, Int.reduceMul, Int.reduceNeg, isB_i, isB_b, isB_y, isBv_i, isBv_b, eqCells_t, TT]
            refine ⟨N - (i + 1), by omega, _, ⟨i + 1, { k with cdr := IntKind.i64.wrap (k.cdr + 1) }, came, laid, got, gone, j1, j2, o1, o2, rfl, by omega, by first | omega | (simp; omega), by first | omega | (simp; omega), ⟨⟨F.ok.1, F.ok.2, F.ok.3, F.ok.4, F.ok.5, F.ok.6, F.ok.7, F.ok.8⟩, F.rx, F.tx, F.rn, F.tn, F.cin, F.cout⟩, ho1, ho2, rfl⟩, [some 0, some 1, some 2, some 3, some 4], ⟨rfl, rfl, ?_, ?_⟩⟩
            · simp only [XX, Nat.reduceBEq, Nat.reduceLT, Nat.reduceAdd, Nat.reduceMul, Nat.reduceSub, Nat.reduceLeDiff, Nat.reduceEqDiff, Int.reduceToNat, Int.reduceLT, Int.reduceLE, Int.reduceAdd, Int.reduceSub, Int.reduceEq, reduceIte, Nat.reduceBNe, Int.reducePow, Nat.reducePow, Int.reduceMul, Int.reduceNeg, isB_i, isB_b, isB_y, isBv_i, isBv_b, eqCells_t, TT, slC_ids, slC_ren, ssC_ids, ssC_ren]
            · simp only [XX, Nat.reduceBEq, Nat.reduceLT, Nat.reduceAdd, Nat.reduceMul, Nat.reduceSub, Nat.reduceLeDiff, Nat.reduceEqDiff, Int.reduceToNat, Int.reduceLT, Int.reduceLE, Int.reduceAdd, Int.reduceSub, Int.reduceEq, reduceIte, Nat.reduceBNe, Int.reducePow, Nat.reducePow, Int.reduceMul, Int.reduceNeg, isB_i, isB_b, isB_y, isBv_i, isBv_b, eqCells_t, TT]
      have dk : decide (o.k = 1) = false := by simpa using k1
      by_cases k5 : o.k = 5
      · skip
        have dk5 : decide (o.k = 5) = true := by simpa using k5
        obtain ⟨s, hs, hs1, hs2⟩ := F.rx.at_a hn0
        simp (maxSteps := 4000000) only [Try.results5, di, hR, dk, dk5, XX, Nat.reduceBEq, Nat.reduceLT, Nat.reduceAdd, Nat.reduceMul, Nat.reduceSub, Nat.reduceLeDiff, Nat.reduceEqDiff, Int.reduceToNat, Int.reduceLT, Int.reduceLE, Int.reduceAdd, Int.reduceSub, Int.reduceEq, reduceIte, Nat.reduceBNe, Int.reducePow, Nat.reducePow, Int.reduceMul, Int.reduceNeg, isB_i, isB_b, isB_y, isBv_i, isBv_b, eqCells_t, TT]
        refine ⟨⟨by omega, by omega⟩, ?_⟩
        by_cases hgot : got < came.length
        · obtain ⟨so, sd⟩ := hs1 hgot
          obtain rfl := ho1 (by omega)
          have dg : decide ((got : Int) = (came.length : Int)) = false := by simp only [decide_eq_false_iff_not]; omega
          have eg : IntKind.i64.wrap ((got : Int) + 1) = ((got + 1 : Nat) : Int) := by rw [w64] <;> omega
          have er : (IntKind.i64.wrap ((got % n : Nat) + 1 : Int)).tmod (n : Int) = (((got + 1) % n : Nat) : Int) := by
            have := Nat.mod_lt got hn0
            rw [next_mod this (by omega), Nat.mod_add_mod]
          have zr : ((n : Int) = 0) = False := by simp only [eq_iff_iff, iff_false]; omega
          have gC : (ssC came j1).getD got .any = strB s.d := by
            rw [List.getD_eq_getElem?_getD, List.getElem?_append_left (by simpa using hgot), List.getElem?_map, sd]; rfl
          have tS : (bsC s.d).take s.d.length = bsC s.d := List.take_of_length_le (by simp)
          have F' : Flow n m { k with rx := k.rx.set (got % n) ⟨true, [], s.d ++ s.j⟩ } came laid (got + 1) gone := F.give hs hgot
          refine call_frame (rx_spec k F.ok (got % n) s hs) [0, 1, 2] rfl rfl ?_ rfl (card_lt _) ?_
          · simp only [XX, Nat.reduceBEq, Nat.reduceLT, Nat.reduceAdd, Nat.reduceMul, Nat.reduceSub, Nat.reduceLeDiff, Nat.reduceEqDiff, Int.reduceToNat, Int.reduceLT, Int.reduceLE, Int.reduceAdd, Int.reduceSub, Int.reduceEq, reduceIte, Nat.reduceBNe, Int.reducePow, Nat.reducePow, Int.reduceMul, Int.reduceNeg, isB_i, isB_b, isB_y, isBv_i, isBv_b, eqCells_t, TT, preOk, ids_bsC, ren_bsC, noRo_bsC, plain_bsC, lt_bsC, ids_byte, ren_byte, noRo_byte, plain_byte, lt_byte, slC_ren, ln, lm]
          rintro _ _ ⟨rfl, rfl⟩
          simp (maxSteps := 4000000) only [Try.results5, ids_bsC, ren_bsC, noRo_bsC, plain_bsC, lt_bsC, ids_byte, ren_byte, noRo_byte, plain_byte, lt_byte, slC_ren, ln, lm, List.length_set, ei, so, dg, XX, Nat.reduceBEq, Nat.reduceLT, Nat.reduceAdd, Nat.reduceMul, Nat.reduceSub, Nat.reduceLeDiff, Nat.reduceEqDiff, Int.reduceToNat, Int.reduceLT, Int.reduceLE, Int.reduceAdd, Int.reduceSub, Int.reduceEq, reduceIte, Nat.reduceBNe, Int.reducePow, Nat.reducePow, Int.reduceMul, Int.reduceNeg, isB_i, isB_b, isB_y, isBv_i, isBv_b, eqCells_t, TT]
          refine call_frame (give_spec k F.ok (got % n) s hs so) [0, 1, 2] rfl rfl ?_ rfl (card_lt _) ?_
          · simp only [XX, Nat.reduceBEq, Nat.reduceLT, Nat.reduceAdd, Nat.reduceMul, Nat.reduceSub, Nat.reduceLeDiff, Nat.reduceEqDiff, Int.reduceToNat, Int.reduceLT, Int.reduceLE, Int.reduceAdd, Int.reduceSub, Int.reduceEq, reduceIte, Nat.reduceBNe, Int.reducePow, Nat.reducePow, Int.reduceMul, Int.reduceNeg, isB_i, isB_b, isB_y, isBv_i, isBv_b, eqCells_t, TT, preOk, ids_bsC, ren_bsC, noRo_bsC, plain_bsC, lt_bsC, ids_byte, ren_byte, noRo_byte, plain_byte, lt_byte, slC_ren, ln, lm]
          rintro _ _ ⟨rfl, rfl⟩
          simp (maxSteps := 4000000) only [Try.results5, ids_bsC, ren_bsC, noRo_bsC, plain_bsC, lt_bsC, ids_byte, ren_byte, noRo_byte, plain_byte, lt_byte, slC_ren, ln, lm, List.length_set, ei, so, dg, XX, Nat.reduceBEq, Nat.reduceLT, Nat.reduceAdd, Nat.reduceMul, Nat.reduceSub, Nat.reduceLeDiff, Nat.reduceEqDiff, Int.reduceToNat, Int.reduceLT, Int.reduceLE, Int.reduceAdd, Int.reduceSub, Int.reduceEq, reduceIte, Nat.reduceBNe, Int.reducePow, Nat.reducePow, Int.reduceMul, Int.reduceNeg, isB_i, isB_b, isB_y, isBv_i, isBv_b, eqCells_t, TT]
          refine draw_of cx_ok (by kernel_rfl) 400 [3, 6, 7] [(0, true), (1, true), (2, true), (3, true), (4, true), (5, true), (6, true), (7, true), (8, true), (9, true), (10, true), (11, true)] (by kernel_rfl) rfl ?_
          simp (maxSteps := 4000000) only [Try.results5, gC, tS, strOf_bsC, str_eq, eg, er, ei, XX, Nat.reduceBEq, Nat.reduceLT, Nat.reduceAdd, Nat.reduceMul, Nat.reduceSub, Nat.reduceLeDiff, Nat.reduceEqDiff, Int.reduceToNat, Int.reduceLT, Int.reduceLE, Int.reduceAdd, Int.reduceSub, Int.reduceEq, reduceIte, Nat.reduceBNe, Int.reducePow, Nat.reducePow, Int.reduceMul, Int.reduceNeg, isB_i, isB_b, isB_y, isBv_i, isBv_b, eqCells_t, TT]
          refine ⟨⟨by simp, isByte_bsC _⟩, ⟨by omega, by omega⟩, by rw [ssC_len]; omega, by omega, ?_⟩
          refine ⟨N - (i + 1), by omega, _, ⟨i + 1, _, came, laid, got + 1, gone, j1, j2, true, o2, rfl, by omega, by first | omega | (simp; omega), by first | omega | (simp; omega), F', fun _ => rfl, ho2, rfl⟩, [some 0, some 1, some 2, some 3, some 4], ⟨rfl, rfl, ?_, ?_⟩⟩
          · simp only [XX, Nat.reduceBEq, Nat.reduceLT, Nat.reduceAdd, Nat.reduceMul, Nat.reduceSub, Nat.reduceLeDiff, Nat.reduceEqDiff, Int.reduceToNat, Int.reduceLT, Int.reduceLE, Int.reduceAdd, Int.reduceSub, Int.reduceEq, reduceIte, Nat.reduceBNe, Int.reducePow, Nat.reducePow, Int.reduceMul, Int.reduceNeg, isB_i, isB_b, isB_y, isBv_i, isBv_b, eqCells_t, TT, slC_ids, slC_ren, ssC_ids, ssC_ren]
          · simp only [XX, Nat.reduceBEq, Nat.reduceLT, Nat.reduceAdd, Nat.reduceMul, Nat.reduceSub, Nat.reduceLeDiff, Nat.reduceEqDiff, Int.reduceToNat, Int.reduceLT, Int.reduceLE, Int.reduceAdd, Int.reduceSub, Int.reduceEq, reduceIte, Nat.reduceBNe, Int.reducePow, Nat.reducePow, Int.reduceMul, Int.reduceNeg, isB_i, isB_b, isB_y, isBv_i, isBv_b, eqCells_t, TT]
        · have so := hs2 hgot
          have dg : decide ((got : Int) = (came.length : Int)) = true := by simp only [decide_eq_true_eq]; omega
          refine call_frame (rx_spec k F.ok (got % n) s hs) [0, 1, 2] rfl rfl ?_ rfl (card_lt _) ?_
          · simp only [XX, Nat.reduceBEq, Nat.reduceLT, Nat.reduceAdd, Nat.reduceMul, Nat.reduceSub, Nat.reduceLeDiff, Nat.reduceEqDiff, Int.reduceToNat, Int.reduceLT, Int.reduceLE, Int.reduceAdd, Int.reduceSub, Int.reduceEq, reduceIte, Nat.reduceBNe, Int.reducePow, Nat.reducePow, Int.reduceMul, Int.reduceNeg, isB_i, isB_b, isB_y, isBv_i, isBv_b, eqCells_t, TT, preOk, ids_bsC, ren_bsC, noRo_bsC, plain_bsC, lt_bsC, ids_byte, ren_byte, noRo_byte, plain_byte, lt_byte, slC_ren, ln, lm]
          rintro _ _ ⟨rfl, rfl⟩
          simp (maxSteps := 4000000) only [Try.results5, ids_bsC, ren_bsC, noRo_bsC, plain_bsC, lt_bsC, ids_byte, ren_byte, noRo_byte, plain_byte, lt_byte, slC_ren, ln, lm, List.length_set, ei, so, dg, XX, Nat.reduceBEq, Nat.reduceLT, Nat.reduceAdd, Nat.reduceMul, Nat.reduceSub, Nat.reduceLeDiff, Nat.reduceEqDiff, Int.reduceToNat, Int.reduceLT, Int.reduceLE, Int.reduceAdd, Int.reduceSub, Int.reduceEq, reduceIte, Nat.reduceBNe, Int.reducePow, Nat.reducePow, Int.reduceMul, Int.reduceNeg, isB_i, isB_b, isB_y, isBv_i, isBv_b, eqCells_t, TT]
          refine ⟨N - (i + 1), by omega, _, ⟨i + 1, k, came, laid, got, gone, j1, j2, o1, o2, rfl, by omega, by first | omega | (simp; omega), by first | omega | (simp; omega), F, ho1, ho2, rfl⟩, [some 0, some 1, some 2, some 3, some 4], ⟨rfl, rfl, ?_, ?_⟩⟩
          · simp only [XX, Nat.reduceBEq, Nat.reduceLT, Nat.reduceAdd, Nat.reduceMul, Nat.reduceSub, Nat.reduceLeDiff, Nat.reduceEqDiff, Int.reduceToNat, Int.reduceLT, Int.reduceLE, Int.reduceAdd, Int.reduceSub, Int.reduceEq, reduceIte, Nat.reduceBNe, Int.reducePow, Nat.reducePow, Int.reduceMul, Int.reduceNeg, isB_i, isB_b, isB_y, isBv_i, isBv_b, eqCells_t, TT, slC_ids, slC_ren, ssC_ids, ssC_ren]
          · simp only [XX, Nat.reduceBEq, Nat.reduceLT, Nat.reduceAdd, Nat.reduceMul, Nat.reduceSub, Nat.reduceLeDiff, Nat.reduceEqDiff, Int.reduceToNat, Int.reduceLT, Int.reduceLE, Int.reduceAdd, Int.reduceSub, Int.reduceEq, reduceIte, Nat.reduceBNe, Int.reducePow, Nat.reducePow, Int.reduceMul, Int.reduceNeg, isB_i, isB_b, isB_y, isBv_i, isBv_b, eqCells_t, TT]
      have dk5 : decide (o.k = 5) = false := by simpa using k5
      by_cases k6 : o.k = 6
      · skip
        have dk6 : decide (o.k = 6) = true := by simpa using k6
        obtain ⟨s, hs, hs1, hs2⟩ := F.tx.at_b hm0
        simp (maxSteps := 4000000) only [Try.results5, di, hR, dk, dk5, dk6, e23, XX, Nat.reduceBEq, Nat.reduceLT, Nat.reduceAdd, Nat.reduceMul, Nat.reduceSub, Nat.reduceLeDiff, Nat.reduceEqDiff, Int.reduceToNat, Int.reduceLT, Int.reduceLE, Int.reduceAdd, Int.reduceSub, Int.reduceEq, reduceIte, Nat.reduceBNe, Int.reducePow, Nat.reducePow, Int.reduceMul, Int.reduceNeg, isB_i, isB_b, isB_y, isBv_i, isBv_b, eqCells_t, TT]
        refine ⟨⟨by omega, by omega⟩, ?_⟩
        by_cases hgood : 60 ≤ o.l.length ∧ o.l.length ≤ 1514
        · have dr : (decide ((60 : Int) ≤ (o.l.length : Int)) && decide ((o.l.length : Int) ≤ 1514)) = true := by
            simp only [Bool.and_eq_true, decide_eq_true_eq]; omega
          by_cases hroom : laid.length < gone + m
          · have dm : decide (laid.length < gone + m) = true := by simpa using hroom
            have so := hs1 hroom
            have F' : Flow n m { k with tx := k.tx.set (laid.length % m) ⟨true, o.l, (s.d ++ s.j).drop o.l.length⟩ } came (laid ++ [o.l]) got gone := F.lay hs hroom o.l hgood.2
            have zr : ((m : Int) = 0) = False := by simp only [eq_iff_iff, iff_false]; omega
            have er : (IntKind.i64.wrap ((laid.length % m : Nat) + 1 : Int)).tmod (m : Int) = ((((laid ++ [o.l]).length) % m : Nat) : Int) := by
              have := Nat.mod_lt laid.length hm0
              rw [next_mod this (by omega), Nat.mod_add_mod, List.length_append]
              rfl
            refine call_frame (lay_spec k F.ok (laid.length % m) s hs o.l o.sp o.c hgood.1 hgood.2 so) [0, 1, 2] rfl rfl ?_ rfl (card_lt _) ?_
            · simp only [XX, Nat.reduceBEq, Nat.reduceLT, Nat.reduceAdd, Nat.reduceMul, Nat.reduceSub, Nat.reduceLeDiff, Nat.reduceEqDiff, Int.reduceToNat, Int.reduceLT, Int.reduceLE, Int.reduceAdd, Int.reduceSub, Int.reduceEq, reduceIte, Nat.reduceBNe, Int.reducePow, Nat.reducePow, Int.reduceMul, Int.reduceNeg, isB_i, isB_b, isB_y, isBv_i, isBv_b, eqCells_t, TT, preOk, ids_bsC, ren_bsC, noRo_bsC, plain_bsC, lt_bsC, ids_byte, ren_byte, noRo_byte, plain_byte, lt_byte, slC_ren, ln, lm]
            rintro _ _ ⟨rfl, rfl⟩
            simp (maxSteps := 4000000) only [Try.results5, ids_bsC, ren_bsC, noRo_bsC, plain_bsC, lt_bsC, ids_byte, ren_byte, noRo_byte, plain_byte, lt_byte, slC_ren, ln, lm, List.length_set, ei, dr, dm, Bool.and_true, Bool.and_self, m9, bsR_toSC, strOf_bsC, XX, Nat.reduceBEq, Nat.reduceLT, Nat.reduceAdd, Nat.reduceMul, Nat.reduceSub, Nat.reduceLeDiff, Nat.reduceEqDiff, Int.reduceToNat, Int.reduceLT, Int.reduceLE, Int.reduceAdd, Int.reduceSub, Int.reduceEq, reduceIte, Nat.reduceBNe, Int.reducePow, Nat.reducePow, Int.reduceMul, Int.reduceNeg, isB_i, isB_b, isB_y, isBv_i, isBv_b, eqCells_t, TT]
            refine ⟨⟨by simp, isByte_bsC _⟩, ?_⟩
            simp only [List.replicate_succ, List.replicate_zero, List.flatten_cons, List.flatten_nil, List.cons_append, List.nil_append, List.drop_succ_cons, List.drop_zero, List.length_cons, List.length_nil, Nat.reduceAdd, Nat.reduceLeDiff, reduceIte]
            simp (maxSteps := 4000000) only [Try.results5, XX, Nat.reduceBEq, Nat.reduceLT, Nat.reduceAdd, Nat.reduceMul, Nat.reduceSub, Nat.reduceLeDiff, Nat.reduceEqDiff, Int.reduceToNat, Int.reduceLT, Int.reduceLE, Int.reduceAdd, Int.reduceSub, Int.reduceEq, reduceIte, Nat.reduceBNe, Int.reducePow, Nat.reducePow, Int.reduceMul, Int.reduceNeg, isB_i, isB_b, isB_y, isBv_i, isBv_b, eqCells_t, TT]
            refine ⟨⟨by omega, by unfold maxLen; omega, by rw [ssC_len]; omega, fun h => ⟨ho2 (by omega), by rw [ssC_len]; omega⟩⟩, ?_⟩
            refine xapp_lit (fun j' : Nat => [(0, .c (i64 n)), (1, .c (i64 m)), (2, .c (.ro (ops.map OpC.rc).flatten N (ops.map OpC.rc).length)), (6, .c (.v (.bool false))), (8, .c (.ptr 0 0)), (9, .c (.sl 3 0 came.length (came.length + j1))), (11, .c (i64 got)), (12, .c (i64 gone)), (13, .c (i64 (got % n : Nat))), (14, .c (i64 (laid.length % m : Nat))), (15, .c (i64 i)), (183, .c (.sl 4 0 (laid ++ [o.l]).length ((laid ++ [o.l]).length + j')))]) (fun j' => [cardB 1 2 n m k.rn k.tn k.cin k.cdr k.cout, stB (slC k.rx), stB (slC (k.tx.set (laid.length % m) ⟨true, o.l, (s.d ++ s.j).drop o.l.length⟩)), ssB o1 came j1, ssB true (laid ++ [o.l]) j']) [some 0, some 1, some 2, some 3, some 4] [some 0, some 1, some 2, some 3, some 7] (fun h => ?_) (fun h c h1 => ?_) (fun j' => ?_)
            · refine ⟨j2 - 1, ⟨rfl, rfl, ?_, ?_⟩⟩
              · exact ⟨⟨.inl ⟨rfl, rfl⟩, fun _ => ⟨rfl, rfl⟩⟩, ⟨.inl ⟨slC_ids _ _, (slC_ren _ _).symm⟩, fun _ => ⟨rfl, rfl⟩⟩, ⟨.inl ⟨slC_ids _ _, (slC_ren _ _).symm⟩, fun _ => ⟨rfl, rfl⟩⟩, ⟨.inl ⟨ssC_ids _ _ _, (ssC_ren _ _ _).symm⟩, fun h => ⟨h, rfl⟩⟩, ⟨.inl ⟨ssC_ids _ _ _, (ssC_room laid j2 o.l (by omega)).trans (ssC_ren _ _ _).symm⟩, fun _ => ⟨ho2 (by omega), rfl⟩⟩, trivial⟩
              · simp only [XX, Nat.reduceBEq, Nat.reduceLT, Nat.reduceAdd, Nat.reduceMul, Nat.reduceSub, Nat.reduceLeDiff, Nat.reduceEqDiff, Int.reduceToNat, Int.reduceLT, Int.reduceLE, Int.reduceAdd, Int.reduceSub, Int.reduceEq, reduceIte, Nat.reduceBNe, Int.reducePow, Nat.reducePow, Int.reduceMul, Int.reduceNeg, isB_i, isB_b, isB_y, isBv_i, isBv_b, eqCells_t, TT]
                simp
                omega
            · obtain ⟨j', rfl⟩ := Nat.exists_eq_add_of_le h1
              refine ⟨j', ⟨rfl, rfl, ?_, ?_⟩⟩
              · refine ⟨⟨.inl ⟨rfl, rfl⟩, fun _ => ⟨rfl, rfl⟩⟩, ⟨.inl ⟨slC_ids _ _, (slC_ren _ _).symm⟩, fun _ => ⟨rfl, rfl⟩⟩, ⟨.inl ⟨slC_ids _ _, (slC_ren _ _).symm⟩, fun _ => ⟨rfl, rfl⟩⟩, ⟨.inl ⟨ssC_ids _ _ _, (ssC_ren _ _ _).symm⟩, fun h => ⟨h, rfl⟩⟩, ⟨.inl ⟨ssC_ids _ _ _, ?_⟩, fun _ => ⟨rfl, rfl⟩⟩, trivial⟩
                rw [ssC_ren]
                have := ssC_grow laid j2 (laid.length + 1 + j' - (laid.length + 1)) o.l
                rw [Nat.add_sub_cancel_left] at this ⊢
                exact this
              · simp only [XX, Nat.reduceBEq, Nat.reduceLT, Nat.reduceAdd, Nat.reduceMul, Nat.reduceSub, Nat.reduceLeDiff, Nat.reduceEqDiff, Int.reduceToNat, Int.reduceLT, Int.reduceLE, Int.reduceAdd, Int.reduceSub, Int.reduceEq, reduceIte, Nat.reduceBNe, Int.reducePow, Nat.reducePow, Int.reduceMul, Int.reduceNeg, isB_i, isB_b, isB_y, isBv_i, isBv_b, eqCells_t, TT]
                simp
            simp (maxSteps := 4000000) only [Try.results5, ei, er, XX, Nat.reduceBEq, Nat.reduceLT, Nat.reduceAdd, Nat.reduceMul, Nat.reduceSub, Nat.reduceLeDiff, Nat.reduceEqDiff, Int.reduceToNat, Int.reduceLT, Int.reduceLE, Int.reduceAdd, Int.reduceSub, Int.reduceEq, reduceIte, Nat.reduceBNe, Int.reducePow, Nat.reducePow, Int.reduceMul, Int.reduceNeg, isB_i, isB_b, isB_y, isBv_i, isBv_b, eqCells_t, TT]
            refine ⟨by omega, ?_⟩
            refine ⟨N - (i + 1), by omega, _, ⟨i + 1, _, came, laid ++ [o.l], got, gone, j1, j', o1, true, rfl, by omega, by first | omega | (simp; omega), by first | omega | (simp; omega), F', ho1, fun _ => rfl, rfl⟩, [some 0, some 1, some 2, some 3, some 4], ⟨rfl, rfl, ?_, ?_⟩⟩
            · simp only [XX, Nat.reduceBEq, Nat.reduceLT, Nat.reduceAdd, Nat.reduceMul, Nat.reduceSub, Nat.reduceLeDiff, Nat.reduceEqDiff, Int.reduceToNat, Int.reduceLT, Int.reduceLE, Int.reduceAdd, Int.reduceSub, Int.reduceEq, reduceIte, Nat.reduceBNe, Int.reducePow, Nat.reducePow, Int.reduceMul, Int.reduceNeg, isB_i, isB_b, isB_y, isBv_i, isBv_b, eqCells_t, TT, slC_ids, slC_ren, ssC_ids, ssC_ren]
            · simp only [XX, Nat.reduceBEq, Nat.reduceLT, Nat.reduceAdd, Nat.reduceMul, Nat.reduceSub, Nat.reduceLeDiff, Nat.reduceEqDiff, Int.reduceToNat, Int.reduceLT, Int.reduceLE, Int.reduceAdd, Int.reduceSub, Int.reduceEq, reduceIte, Nat.reduceBNe, Int.reducePow, Nat.reducePow, Int.reduceMul, Int.reduceNeg, isB_i, isB_b, isB_y, isBv_i, isBv_b, eqCells_t, TT]
          · have dm : decide (laid.length < gone + m) = false := by simpa using hroom
            refine call_frame (layE_spec k F.ok (laid.length % m) s hs o.l o.sp o.c 41 (.inr (.inr ⟨hgood.1, hgood.2, hs2 hroom, rfl⟩))) [0, 1, 2] rfl rfl ?_ rfl (card_lt _) ?_
            · simp only [XX, Nat.reduceBEq, Nat.reduceLT, Nat.reduceAdd, Nat.reduceMul, Nat.reduceSub, Nat.reduceLeDiff, Nat.reduceEqDiff, Int.reduceToNat, Int.reduceLT, Int.reduceLE, Int.reduceAdd, Int.reduceSub, Int.reduceEq, reduceIte, Nat.reduceBNe, Int.reducePow, Nat.reducePow, Int.reduceMul, Int.reduceNeg, isB_i, isB_b, isB_y, isBv_i, isBv_b, eqCells_t, TT, preOk, ids_bsC, ren_bsC, noRo_bsC, plain_bsC, lt_bsC, ids_byte, ren_byte, noRo_byte, plain_byte, lt_byte, slC_ren, ln, lm]
            rintro _ _ ⟨rfl, rfl⟩
            simp (maxSteps := 4000000) only [Try.results5, ids_bsC, ren_bsC, noRo_bsC, plain_bsC, lt_bsC, ids_byte, ren_byte, noRo_byte, plain_byte, lt_byte, slC_ren, ln, lm, List.length_set, ei, dr, dm, Bool.and_true, Bool.and_self, XX, Nat.reduceBEq, Nat.reduceLT, Nat.reduceAdd, Nat.reduceMul, Nat.reduceSub, Nat.reduceLeDiff, Nat.reduceEqDiff, Int.reduceToNat, Int.reduceLT, Int.reduceLE, Int.reduceAdd, Int.reduceSub, Int.reduceEq, reduceIte, Nat.reduceBNe, Int.reducePow, Nat.reducePow, Int.reduceMul, Int.reduceNeg, isB_i, isB_b, isB_y, isBv_i, isBv_b, eqCells_t, TT]
            refine ⟨N - (i + 1), by omega, _, ⟨i + 1, k, came, laid, got, gone, j1, j2, o1, o2, rfl, by omega, by first | omega | (simp; omega), by first | omega | (simp; omega), F, ho1, ho2, rfl⟩, [some 0, some 1, some 2, some 3, some 4], ⟨rfl, rfl, ?_, ?_⟩⟩
            · simp only [XX, Nat.reduceBEq, Nat.reduceLT, Nat.reduceAdd, Nat.reduceMul, Nat.reduceSub, Nat.reduceLeDiff, Nat.reduceEqDiff, Int.reduceToNat, Int.reduceLT, Int.reduceLE, Int.reduceAdd, Int.reduceSub, Int.reduceEq, reduceIte, Nat.reduceBNe, Int.reducePow, Nat.reducePow, Int.reduceMul, Int.reduceNeg, isB_i, isB_b, isB_y, isBv_i, isBv_b, eqCells_t, TT, slC_ids, slC_ren, ssC_ids, ssC_ren]
            · simp only [XX, Nat.reduceBEq, Nat.reduceLT, Nat.reduceAdd, Nat.reduceMul, Nat.reduceSub, Nat.reduceLeDiff, Nat.reduceEqDiff, Int.reduceToNat, Int.reduceLT, Int.reduceLE, Int.reduceAdd, Int.reduceSub, Int.reduceEq, reduceIte, Nat.reduceBNe, Int.reducePow, Nat.reducePow, Int.reduceMul, Int.reduceNeg, isB_i, isB_b, isB_y, isBv_i, isBv_b, eqCells_t, TT]
        · have dr : (decide ((60 : Int) ≤ (o.l.length : Int)) && decide ((o.l.length : Int) ≤ 1514)) = false := by
            rw [Bool.and_eq_false_iff]; simp only [decide_eq_false_iff_not]; omega
          obtain ⟨e, he, he0⟩ : ∃ e : Int, ((o.l.length < 60 ∧ e = 5) ∨ (1514 < o.l.length ∧ e = 2) ∨ (60 ≤ o.l.length ∧ o.l.length ≤ 1514 ∧ s.own = true ∧ e = 41)) ∧ e ≠ 0 := by
            by_cases h6 : o.l.length < 60
            · exact ⟨5, .inl ⟨h6, rfl⟩, by decide⟩
            · exact ⟨2, .inr (.inl ⟨by omega, rfl⟩), by decide⟩
          have de : decide (e = 0) = false := by simpa using he0
          refine call_frame (layE_spec k F.ok (laid.length % m) s hs o.l o.sp o.c e he) [0, 1, 2] rfl rfl ?_ rfl (card_lt _) ?_
          · simp only [XX, Nat.reduceBEq, Nat.reduceLT, Nat.reduceAdd, Nat.reduceMul, Nat.reduceSub, Nat.reduceLeDiff, Nat.reduceEqDiff, Int.reduceToNat, Int.reduceLT, Int.reduceLE, Int.reduceAdd, Int.reduceSub, Int.reduceEq, reduceIte, Nat.reduceBNe, Int.reducePow, Nat.reducePow, Int.reduceMul, Int.reduceNeg, isB_i, isB_b, isB_y, isBv_i, isBv_b, eqCells_t, TT, preOk, ids_bsC, ren_bsC, noRo_bsC, plain_bsC, lt_bsC, ids_byte, ren_byte, noRo_byte, plain_byte, lt_byte, slC_ren, ln, lm]
          rintro _ _ ⟨rfl, rfl⟩
          simp (maxSteps := 4000000) only [Try.results5, ids_bsC, ren_bsC, noRo_bsC, plain_bsC, lt_bsC, ids_byte, ren_byte, noRo_byte, plain_byte, lt_byte, slC_ren, ln, lm, List.length_set, ei, dr, de, Bool.and_false, XX, Nat.reduceBEq, Nat.reduceLT, Nat.reduceAdd, Nat.reduceMul, Nat.reduceSub, Nat.reduceLeDiff, Nat.reduceEqDiff, Int.reduceToNat, Int.reduceLT, Int.reduceLE, Int.reduceAdd, Int.reduceSub, Int.reduceEq, reduceIte, Nat.reduceBNe, Int.reducePow, Nat.reducePow, Int.reduceMul, Int.reduceNeg, isB_i, isB_b, isB_y, isBv_i, isBv_b, eqCells_t, TT]
          refine ⟨N - (i + 1), by omega, _, ⟨i + 1, k, came, laid, got, gone, j1, j2, o1, o2, rfl, by omega, by first | omega | (simp; omega), by first | omega | (simp; omega), F, ho1, ho2, rfl⟩, [some 0, some 1, some 2, some 3, some 4], ⟨rfl, rfl, ?_, ?_⟩⟩
          · simp only [XX, Nat.reduceBEq, Nat.reduceLT, Nat.reduceAdd, Nat.reduceMul, Nat.reduceSub, Nat.reduceLeDiff, Nat.reduceEqDiff, Int.reduceToNat, Int.reduceLT, Int.reduceLE, Int.reduceAdd, Int.reduceSub, Int.reduceEq, reduceIte, Nat.reduceBNe, Int.reducePow, Nat.reducePow, Int.reduceMul, Int.reduceNeg, isB_i, isB_b, isB_y, isBv_i, isBv_b, eqCells_t, TT, slC_ids, slC_ren, ssC_ids, ssC_ren]
          · simp only [XX, Nat.reduceBEq, Nat.reduceLT, Nat.reduceAdd, Nat.reduceMul, Nat.reduceSub, Nat.reduceLeDiff, Nat.reduceEqDiff, Int.reduceToNat, Int.reduceLT, Int.reduceLE, Int.reduceAdd, Int.reduceSub, Int.reduceEq, reduceIte, Nat.reduceBNe, Int.reducePow, Nat.reducePow, Int.reduceMul, Int.reduceNeg, isB_i, isB_b, isB_y, isBv_i, isBv_b, eqCells_t, TT]
      have dk6 : decide (o.k = 6) = false := by simpa using k6
      by_cases k2 : o.k = 2
      · skip
        have dk2 : decide (o.k = 2) = true := by simpa using k2
        obtain ⟨s, hs, hs1, hs2⟩ := F.tx.at_a hm0
        rw [← F.tn] at hs
        simp (maxSteps := 4000000) only [Try.results5, di, hR, dk, dk5, dk6, dk2, XX, Nat.reduceBEq, Nat.reduceLT, Nat.reduceAdd, Nat.reduceMul, Nat.reduceSub, Nat.reduceLeDiff, Nat.reduceEqDiff, Int.reduceToNat, Int.reduceLT, Int.reduceLE, Int.reduceAdd, Int.reduceSub, Int.reduceEq, reduceIte, Nat.reduceBNe, Int.reducePow, Nat.reducePow, Int.reduceMul, Int.reduceNeg, isB_i, isB_b, isB_y, isBv_i, isBv_b, eqCells_t, TT]
        refine ⟨⟨by omega, by omega⟩, ?_⟩
        by_cases hgone : gone < laid.length
        · obtain ⟨so, sd⟩ := hs1 hgone
          obtain rfl := ho2 (by omega)
          have dg : decide ((gone : Int) < (laid.length : Int)) = true := by simp only [decide_eq_true_eq]; omega
          have eg : IntKind.i64.wrap ((gone : Int) + 1) = ((gone + 1 : Nat) : Int) := by rw [w64] <;> omega
          have gC : (ssC laid j2).getD gone .any = strB s.d := by
            rw [List.getD_eq_getElem?_getD, List.getElem?_append_left (by simpa using hgone), List.getElem?_map, sd]; rfl
          have tS : (bsC s.d).take s.d.length = bsC s.d := List.take_of_length_le (by simp)
          have F' : Flow n m { k with tx := k.tx.set k.tn ⟨false, [], s.d ++ s.j⟩, tn := (k.tn + 1) % k.tx.length, cout := IntKind.i64.wrap (k.cout + 1) } came laid got (gone + 1) := F.depart hs hgone (by omega)
          refine call_frame (depart_spec k F.ok s hs so) [0, 1, 2] rfl rfl ?_ rfl (card_lt _) ?_
          · simp only [XX, Nat.reduceBEq, Nat.reduceLT, Nat.reduceAdd, Nat.reduceMul, Nat.reduceSub, Nat.reduceLeDiff, Nat.reduceEqDiff, Int.reduceToNat, Int.reduceLT, Int.reduceLE, Int.reduceAdd, Int.reduceSub, Int.reduceEq, reduceIte, Nat.reduceBNe, Int.reducePow, Nat.reducePow, Int.reduceMul, Int.reduceNeg, isB_i, isB_b, isB_y, isBv_i, isBv_b, eqCells_t, TT, preOk, ids_bsC, ren_bsC, noRo_bsC, plain_bsC, lt_bsC, ids_byte, ren_byte, noRo_byte, plain_byte, lt_byte, slC_ren, ln, lm]
          rintro _ _ ⟨rfl, rfl⟩
          simp (maxSteps := 4000000) only [Try.results5, ids_bsC, ren_bsC, noRo_bsC, plain_bsC, lt_bsC, ids_byte, ren_byte, noRo_byte, plain_byte, lt_byte, slC_ren, ln, lm, List.length_set, ei, so, dg, XX, Nat.reduceBEq, Nat.reduceLT, Nat.reduceAdd, Nat.reduceMul, Nat.reduceSub, Nat.reduceLeDiff, Nat.reduceEqDiff, Int.reduceToNat, Int.reduceLT, Int.reduceLE, Int.reduceAdd, Int.reduceSub, Int.reduceEq, reduceIte, Nat.reduceBNe, Int.reducePow, Nat.reducePow, Int.reduceMul, Int.reduceNeg, isB_i, isB_b, isB_y, isBv_i, isBv_b, eqCells_t, TT]
          rw [lm] at F'
          refine draw_of cx_ok (by kernel_rfl) 400 [4, 6] [(0, true), (1, true), (2, true), (3, true), (4, true), (5, true), (6, true), (7, true), (8, true), (9, true), (10, true), (11, true), (12, true), (13, true), (14, true), (15, true), (16, true), (17, true)] (by kernel_rfl) rfl ?_
          simp (maxSteps := 4000000) only [Try.results5, gC, tS, strOf_bsC, str_eq, dg, eg, ei, XX, Nat.reduceBEq, Nat.reduceLT, Nat.reduceAdd, Nat.reduceMul, Nat.reduceSub, Nat.reduceLeDiff, Nat.reduceEqDiff, Int.reduceToNat, Int.reduceLT, Int.reduceLE, Int.reduceAdd, Int.reduceSub, Int.reduceEq, reduceIte, Nat.reduceBNe, Int.reducePow, Nat.reducePow, Int.reduceMul, Int.reduceNeg, isB_i, isB_b, isB_y, isBv_i, isBv_b, eqCells_t, TT]
          refine ⟨⟨by simp, isByte_bsC _⟩, ⟨by omega, by omega⟩, by rw [ssC_len]; omega, ?_⟩
          refine ⟨N - (i + 1), by omega, _, ⟨i + 1, _, came, laid, got, gone + 1, j1, j2, o1, true, rfl, by omega, by first | omega | (simp; omega), by first | omega | (simp; omega), F', ho1, fun _ => rfl, rfl⟩, [some 0, some 1, some 2, some 3, some 4], ⟨rfl, rfl, ?_, ?_⟩⟩
          · simp only [XX, Nat.reduceBEq, Nat.reduceLT, Nat.reduceAdd, Nat.reduceMul, Nat.reduceSub, Nat.reduceLeDiff, Nat.reduceEqDiff, Int.reduceToNat, Int.reduceLT, Int.reduceLE, Int.reduceAdd, Int.reduceSub, Int.reduceEq, reduceIte, Nat.reduceBNe, Int.reducePow, Nat.reducePow, Int.reduceMul, Int.reduceNeg, isB_i, isB_b, isB_y, isBv_i, isBv_b, eqCells_t, TT, slC_ids, slC_ren, ssC_ids, ssC_ren]
          · simp only [XX, Nat.reduceBEq, Nat.reduceLT, Nat.reduceAdd, Nat.reduceMul, Nat.reduceSub, Nat.reduceLeDiff, Nat.reduceEqDiff, Int.reduceToNat, Int.reduceLT, Int.reduceLE, Int.reduceAdd, Int.reduceSub, Int.reduceEq, reduceIte, Nat.reduceBNe, Int.reducePow, Nat.reducePow, Int.reduceMul, Int.reduceNeg, isB_i, isB_b, isB_y, isBv_i, isBv_b, eqCells_t, TT]
        · have so := hs2 hgone
          have dg : decide ((gone : Int) < (laid.length : Int)) = false := by simp only [decide_eq_false_iff_not]; omega
          refine call_frame (departN_spec k F.ok s hs so) [0, 1, 2] rfl rfl ?_ rfl (card_lt _) ?_
          · simp only [XX, Nat.reduceBEq, Nat.reduceLT, Nat.reduceAdd, Nat.reduceMul, Nat.reduceSub, Nat.reduceLeDiff, Nat.reduceEqDiff, Int.reduceToNat, Int.reduceLT, Int.reduceLE, Int.reduceAdd, Int.reduceSub, Int.reduceEq, reduceIte, Nat.reduceBNe, Int.reducePow, Nat.reducePow, Int.reduceMul, Int.reduceNeg, isB_i, isB_b, isB_y, isBv_i, isBv_b, eqCells_t, TT, preOk, ids_bsC, ren_bsC, noRo_bsC, plain_bsC, lt_bsC, ids_byte, ren_byte, noRo_byte, plain_byte, lt_byte, slC_ren, ln, lm]
          rintro _ _ ⟨rfl, rfl⟩
          simp (maxSteps := 4000000) only [Try.results5, ids_bsC, ren_bsC, noRo_bsC, plain_bsC, lt_bsC, ids_byte, ren_byte, noRo_byte, plain_byte, lt_byte, slC_ren, ln, lm, List.length_set, ei, so, dg, XX, Nat.reduceBEq, Nat.reduceLT, Nat.reduceAdd, Nat.reduceMul, Nat.reduceSub, Nat.reduceLeDiff, Nat.reduceEqDiff, Int.reduceToNat, Int.reduceLT, Int.reduceLE, Int.reduceAdd, Int.reduceSub, Int.reduceEq, reduceIte, Nat.reduceBNe, Int.reducePow, Nat.reducePow, Int.reduceMul, Int.reduceNeg, isB_i, isB_b, isB_y, isBv_i, isBv_b, eqCells_t, TT]
          have hge : gone = laid.length := by omega
          have gv : (ssC laid j2).getD gone .any = noS ∨ (ssC laid j2).getD gone .any = .any := by
            rw [hge, List.getD_eq_getElem?_getD, List.getElem?_append_right (by simp), List.length_map, Nat.sub_self]
            cases j2 with
            | zero => exact .inr rfl
            | succ j => exact .inl rfl
          rcases gv with gv | gv
          · refine draw_of cx_ok (by kernel_rfl) 400 [] [(0, true), (1, true), (2, true), (3, true), (4, true), (5, true), (6, true), (7, true), (8, true), (9, true), (10, true), (11, true), (12, true), (13, true), (14, false), (15, true), (16, true), (17, true)] (by kernel_rfl) rfl ?_
            simp (maxSteps := 4000000) only [Try.results5, strOf_bsC, str_eq, dg, gv, binS_any, ei, XX, Nat.reduceBEq, Nat.reduceLT, Nat.reduceAdd, Nat.reduceMul, Nat.reduceSub, Nat.reduceLeDiff, Nat.reduceEqDiff, Int.reduceToNat, Int.reduceLT, Int.reduceLE, Int.reduceAdd, Int.reduceSub, Int.reduceEq, reduceIte, Nat.reduceBNe, Int.reducePow, Nat.reducePow, Int.reduceMul, Int.reduceNeg, isB_i, isB_b, isB_y, isBv_i, isBv_b, eqCells_t, TT]
            refine ⟨N - (i + 1), by omega, _, ⟨i + 1, k, came, laid, got, gone, j1, j2, o1, o2, rfl, by omega, by first | omega | (simp; omega), by first | omega | (simp; omega), F, ho1, ho2, rfl⟩, [some 0, some 1, some 2, some 3, some 4], ⟨rfl, rfl, ?_, ?_⟩⟩
            · simp only [XX, Nat.reduceBEq, Nat.reduceLT, Nat.reduceAdd, Nat.reduceMul, Nat.reduceSub, Nat.reduceLeDiff, Nat.reduceEqDiff, Int.reduceToNat, Int.reduceLT, Int.reduceLE, Int.reduceAdd, Int.reduceSub, Int.reduceEq, reduceIte, Nat.reduceBNe, Int.reducePow, Nat.reducePow, Int.reduceMul, Int.reduceNeg, isB_i, isB_b, isB_y, isBv_i, isBv_b, eqCells_t, TT, slC_ids, slC_ren, ssC_ids, ssC_ren]
            · simp only [XX, Nat.reduceBEq, Nat.reduceLT, Nat.reduceAdd, Nat.reduceMul, Nat.reduceSub, Nat.reduceLeDiff, Nat.reduceEqDiff, Int.reduceToNat, Int.reduceLT, Int.reduceLE, Int.reduceAdd, Int.reduceSub, Int.reduceEq, reduceIte, Nat.reduceBNe, Int.reducePow, Nat.reducePow, Int.reduceMul, Int.reduceNeg, isB_i, isB_b, isB_y, isBv_i, isBv_b, eqCells_t, TT]
          · refine draw_of cx_ok (by kernel_rfl) 400 [] [(0, true), (1, true), (2, true), (3, true), (4, true), (5, true), (6, true), (7, true), (8, true), (9, true), (10, true), (11, true), (12, true), (13, true), (14, false), (15, true), (16, true), (17, true)] (by kernel_rfl) rfl ?_
            simp (maxSteps := 4000000) only [Try.results5, strOf_bsC, str_eq, dg, gv, binS_any, ei, XX, Nat.reduceBEq, Nat.reduceLT, Nat.reduceAdd, Nat.reduceMul, Nat.reduceSub, Nat.reduceLeDiff, Nat.reduceEqDiff, Int.reduceToNat, Int.reduceLT, Int.reduceLE, Int.reduceAdd, Int.reduceSub, Int.reduceEq, reduceIte, Nat.reduceBNe, Int.reducePow, Nat.reducePow, Int.reduceMul, Int.reduceNeg, isB_i, isB_b, isB_y, isBv_i, isBv_b, eqCells_t, TT]
            refine ⟨N - (i + 1), by omega, _, ⟨i + 1, k, came, laid, got, gone, j1, j2, o1, o2, rfl, by omega, by first | omega | (simp; omega), by first | omega | (simp; omega), F, ho1, ho2, rfl⟩, [some 0, some 1, some 2, some 3, some 4], ⟨rfl, rfl, ?_, ?_⟩⟩
            · simp only [XX, Nat.reduceBEq, Nat.reduceLT, Nat.reduceAdd, Nat.reduceMul, Nat.reduceSub, Nat.reduceLeDiff, Nat.reduceEqDiff, Int.reduceToNat, Int.reduceLT, Int.reduceLE, Int.reduceAdd, Int.reduceSub, Int.reduceEq, reduceIte, Nat.reduceBNe, Int.reducePow, Nat.reducePow, Int.reduceMul, Int.reduceNeg, isB_i, isB_b, isB_y, isBv_i, isBv_b, eqCells_t, TT, slC_ids, slC_ren, ssC_ids, ssC_ren]
            · simp only [XX, Nat.reduceBEq, Nat.reduceLT, Nat.reduceAdd, Nat.reduceMul, Nat.reduceSub, Nat.reduceLeDiff, Nat.reduceEqDiff, Int.reduceToNat, Int.reduceLT, Int.reduceLE, Int.reduceAdd, Int.reduceSub, Int.reduceEq, reduceIte, Nat.reduceBNe, Int.reducePow, Nat.reducePow, Int.reduceMul, Int.reduceNeg, isB_i, isB_b, isB_y, isBv_i, isBv_b, eqCells_t, TT]
      have dk2 : decide (o.k = 2) = false := by simpa using k2
      simp (maxSteps := 4000000) only [Try.results5, di, hR, dk, dk5, dk6, dk2, ei, XX, Nat.reduceBEq, Nat.reduceLT, Nat.reduceAdd, Nat.reduceMul, Nat.reduceSub, Nat.reduceLeDiff, Nat.reduceEqDiff, Int.reduceToNat, Int.reduceLT, Int.reduceLE, Int.reduceAdd, Int.reduceSub, Int.reduceEq, reduceIte, Nat.reduceBNe, Int.reducePow, Nat.reducePow, Int.reduceMul, Int.reduceNeg, isB_i, isB_b, isB_y, isBv_i, isBv_b, eqCells_t, TT]
      refine ⟨⟨by omega, by omega⟩, ?_⟩
      refine ⟨N - (i + 1), by omega, _, ⟨i + 1, k, came, laid, got, gone, j1, j2, o1, o2, rfl, by omega, by first | omega | (simp; omega), by first | omega | (simp; omega), F, ho1, ho2, rfl⟩, [some 0, some 1, some 2, some 3, some 4], ⟨rfl, rfl, ?_, ?_⟩⟩
      · simp only [XX, Nat.reduceBEq, Nat.reduceLT, Nat.reduceAdd, Nat.reduceMul, Nat.reduceSub, Nat.reduceLeDiff, Nat.reduceEqDiff, Int.reduceToNat, Int.reduceLT, Int.reduceLE, Int.reduceAdd, Int.reduceSub, Int.reduceEq, reduceIte, Nat.reduceBNe, Int.reducePow, Nat.reducePow, Int.reduceMul, Int.reduceNeg, isB_i, isB_b, isB_y, isBv_i, isBv_b, eqCells_t, TT, slC_ids, slC_ren, ssC_ids, ssC_ren]
      · simp only [XX, Nat.reduceBEq, Nat.reduceLT, Nat.reduceAdd, Nat.reduceMul, Nat.reduceSub, Nat.reduceLeDiff, Nat.reduceEqDiff, Int.reduceToNat, Int.reduceLT, Int.reduceLE, Int.reduceAdd, Int.reduceSub, Int.reduceEq, reduceIte, Nat.reduceBNe, Int.reducePow, Nat.reducePow, Int.reduceMul, Int.reduceNeg, isB_i, isB_b, isB_y, isBv_i, isBv_b, eqCells_t, TT]
    · have di : decide ((i : Int) < (N : Int)) = false := by simp only [decide_eq_false_iff_not]; omega
      simp (maxSteps := 4000000) only [Try.results5, di, XX, Nat.reduceBEq, Nat.reduceLT, Nat.reduceAdd, Nat.reduceMul, Nat.reduceSub, Nat.reduceLeDiff, Nat.reduceEqDiff, Int.reduceToNat, Int.reduceLT, Int.reduceLE, Int.reduceAdd, Int.reduceSub, Int.reduceEq, reduceIte, Nat.reduceBNe, Int.reducePow, Nat.reducePow, Int.reduceMul, Int.reduceNeg, isB_i, isB_b, isB_y, isBv_i, isBv_b, eqCells_t, TT]
      have ln := F.rx.len
      have lm := F.tx.len
      have tbn := F.tx.ab
      have c1 := F.cin
      have c2 := F.cout
      refine call_frame (counts_spec k) [0, 1, 2] rfl rfl ?_ rfl (card_lt _) ?_
      · simp only [XX, Nat.reduceBEq, Nat.reduceLT, Nat.reduceAdd, Nat.reduceMul, Nat.reduceSub, Nat.reduceLeDiff, Nat.reduceEqDiff, Int.reduceToNat, Int.reduceLT, Int.reduceLE, Int.reduceAdd, Int.reduceSub, Int.reduceEq, reduceIte, Nat.reduceBNe, Int.reducePow, Nat.reducePow, Int.reduceMul, Int.reduceNeg, isB_i, isB_b, isB_y, isBv_i, isBv_b, eqCells_t, TT, preOk, ids_bsC, ren_bsC, noRo_bsC, plain_bsC, lt_bsC, ids_byte, ren_byte, noRo_byte, plain_byte, lt_byte, slC_ren, ln, lm]
      rintro _ _ ⟨rfl, rfl⟩
      simp (maxSteps := 4000000) only [Try.results5, ids_bsC, ren_bsC, noRo_bsC, plain_bsC, lt_bsC, ids_byte, ren_byte, noRo_byte, plain_byte, lt_byte, slC_ren, ln, lm, c1, c2, XX, Nat.reduceBEq, Nat.reduceLT, Nat.reduceAdd, Nat.reduceMul, Nat.reduceSub, Nat.reduceLeDiff, Nat.reduceEqDiff, Int.reduceToNat, Int.reduceLT, Int.reduceLE, Int.reduceAdd, Int.reduceSub, Int.reduceEq, reduceIte, Nat.reduceBNe, Int.reducePow, Nat.reducePow, Int.reduceMul, Int.reduceNeg, isB_i, isB_b, isB_y, isBv_i, isBv_b, eqCells_t, TT]

end Go.Proofs.Ytdfhmpheepobnaa.Sx
