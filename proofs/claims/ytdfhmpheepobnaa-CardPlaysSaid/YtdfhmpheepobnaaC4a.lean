/- The symbolic executor, at work: a card's slots. No condition. -/
import Derived.Test.YtdfhmpheepobnaaBf
import Derived.Test.YtdfhmpheepobnaaRs
namespace Go.Proofs.Ytdfhmpheepobnaa.Sx
open Go
set_option linter.unusedSimpArgs false
set_option linter.unusedVariables false
set_option maxRecDepth 10000
set_option maxHeartbeats 2000000

/-- A slot: whose it is, its bytes, what else stands in its room. -/
structure Sl where
  own : Bool
  d : List UInt8
  j : List UInt8
abbrev slotC (own : Bool) (room : List UInt8) (n : Nat) : List SC := bC own :: (bsC room ++ [i64 n])
def Sl.cells (s : Sl) : List SC := slotC s.own (s.d ++ s.j) s.d.length
def Sl.ok (s : Sl) : Prop := s.d.length + s.j.length = 1514
def slC (l : List Sl) : List SC := (l.map Sl.cells).flatten
theorem Sl.cells_len {s : Sl} (h : s.ok) : s.cells.length = 1516 := by
  unfold Sl.ok at h
  simp only [Sl.cells, slotC, List.length_cons, List.length_append, List.length_map, List.length_nil]; omega
theorem slC_len : ∀ {l : List Sl}, (∀ s ∈ l, s.ok) → (slC l).length = l.length * 1516
  | [], _ => rfl
  | s :: l, h => by
    have h1 := Sl.cells_len (h s (by simp))
    have h2 := slC_len (l := l) fun x hx => h x (by simp [hx])
    simp only [slC, List.map_cons, List.flatten_cons, List.length_append, List.length_cons] at h2 ⊢
    omega
theorem slC_app (a b : List Sl) : slC (a ++ b) = slC a ++ slC b := by simp [slC]
theorem slC_cons (a : Sl) (b : List Sl) : slC (a :: b) = a.cells ++ slC b := by simp [slC]
theorem slC_split {l : List Sl} {i : Nat} {s : Sl} (hi : l[i]? = some s) : slC l = slC (l.take i) ++ (s.cells ++ slC (l.drop (i + 1))) := by
  obtain ⟨h1, rfl⟩ := List.getElem?_eq_some_iff.1 hi
  rw [← slC_cons, ← slC_app, ← List.drop_eq_getElem_cons h1, List.take_append_drop]
theorem slC_set {l : List Sl} {i : Nat} {s s' : Sl} (hi : l[i]? = some s) : slC (l.set i s') = slC (l.take i) ++ (s'.cells ++ slC (l.drop (i + 1))) := by
  obtain ⟨h1, rfl⟩ := List.getElem?_eq_some_iff.1 hi
  rw [List.set_eq_take_append_cons_drop, if_pos h1, slC_app, slC_cons]
theorem slC_lt (n : Nat) (l : List Sl) : (slC l).all (SC.lt n) = true := by
  simp only [slC, List.all_eq_true, List.mem_flatten, List.mem_map]
  rintro x ⟨_, ⟨s, _, rfl⟩, hx⟩
  simp only [Sl.cells, slotC, List.mem_cons, List.mem_append, List.mem_map, List.not_mem_nil, or_false] at hx
  rcases hx with rfl | ⟨b, _, rfl⟩ | rfl <;> rfl
theorem slC_noRo (l : List Sl) : (slC l).all SC.noRo = true := by
  simp only [slC, List.all_eq_true, List.mem_flatten, List.mem_map]
  rintro x ⟨_, ⟨s, _, rfl⟩, hx⟩
  simp only [Sl.cells, slotC, List.mem_cons, List.mem_append, List.mem_map, List.not_mem_nil, or_false] at hx
  rcases hx with rfl | ⟨b, _, rfl⟩ | rfl <;> rfl
theorem slC_ren (r : Nat → Nat) (l : List Sl) : (slC l).map (SC.ren r) = slC l := by
  conv => rhs; rw [← List.map_id (slC l)]
  refine List.map_congr_left fun x hx => ?_
  simp only [slC, List.mem_flatten, List.mem_map] at hx
  obtain ⟨_, ⟨s, _, rfl⟩, hx⟩ := hx
  simp only [Sl.cells, slotC, List.mem_cons, List.mem_append, List.mem_map, List.not_mem_nil, or_false] at hx
  rcases hx with rfl | ⟨b, _, rfl⟩ | rfl <;> rfl
theorem slC_ids (p : Nat → Bool) (l : List Sl) : (slC l).all (SC.ids p) = true := by
  simp only [slC, List.all_eq_true, List.mem_flatten, List.mem_map]
  rintro x ⟨_, ⟨s, _, rfl⟩, hx⟩
  simp only [Sl.cells, slotC, List.mem_cons, List.mem_append, List.mem_map, List.not_mem_nil, or_false] at hx
  rcases hx with rfl | ⟨b, _, rfl⟩ | rfl <;> rfl

theorem seg {A x y C : List SC} {i j : Nat} (hA : A.length = i) (hj : i + x.length = j) : (A ++ (x ++ C)).take i ++ y ++ (A ++ (x ++ C)).drop j = A ++ (y ++ C) := by
  rw [List.take_left' hA, ← List.append_assoc, List.drop_left' (by rw [List.length_append]; omega), List.append_assoc]
abbrev stB (l : List SC) : SB := ⟨true, 66, l⟩

/-- A frame is laid in. -/
theorem put_spec (H : List SB) (w o : Nat) (pre post : List SC) (s : Sl) (own : Bool) (b sp : List UInt8) (c : Nat) (hs : s.ok) (hw : H[w]? = some (stB (pre ++ (s.cells ++ post)))) (ho : pre.length = o) (hb : b.length ≤ 1514) :
    Spec cx.P 22 [.c (.ptr w o), .c (roB b sp c), .c (bC own)] H fun t h' => t = .tup [] ∧ h' = H.set w (stB (pre ++ ((⟨own, b, (s.d ++ s.j).drop b.length⟩ : Sl).cells ++ post))) := by
  have lt := lt_of hw
  have hk : (s.d ++ s.j).length = 1514 := by rw [List.length_append]; exact hs
  unfold Sl.cells at hw ⊢
  generalize s.d.length = n at hw
  generalize hR : s.d ++ s.j = R at hw hk ⊢
  have m1 : min b.length 1514 = b.length := Nat.min_eq_left hb
  have e0 : (bsR (b ++ sp)).take b.length = bsR b := by rw [rs_take, List.take_left' rfl]
  refine spec_of_X cx_ok Try.func22 rfl (by kernel_rfl) (by kernel_rfl) (Nat.le_of_ble_eq_true rfl) 400 3 ?_
  simp (maxSteps := 4000000) only [Try.results22, XX, Nat.reduceBEq, Nat.reduceLT, Nat.reduceAdd, Nat.reduceMul, Nat.reduceSub, Nat.reduceLeDiff, Nat.reduceEqDiff, Int.reduceToNat, Int.reduceLT, Int.reduceLE, Int.reduceAdd, Int.reduceSub, Int.reduceEq, reduceIte, Nat.reduceBNe, Int.reducePow, Nat.reducePow, Int.reduceMul, Int.reduceNeg, isB_i, isB_b, isB_y, isBv_i, isBv_b, eqCells_t, TT]
  have X0 : pre ++ bC s.own :: (bsC R ++ [i64 n] ++ post) = (pre ++ [bC s.own]) ++ (bsC (R.take b.length) ++ (bsC (R.drop b.length) ++ [i64 n] ++ post)) := by
    rw [show bsC R = bsC (R.take b.length) ++ bsC (R.drop b.length) by rw [bs_app, List.take_append_drop]]
    simp only [List.append_assoc, List.cons_append, List.nil_append]
  have l0 : (pre ++ [bC s.own]).length = o + 1 := by simp [ho]
  have x1 : (pre ++ [bC s.own]) ++ (bsC b ++ (bsC (R.drop b.length) ++ [i64 n] ++ post)) = (pre ++ [bC s.own] ++ bsC (b ++ R.drop b.length)) ++ ([i64 n] ++ post) := by simp
  have l1 : (pre ++ [bC s.own] ++ bsC (b ++ R.drop b.length)).length = o + 1515 := by simp [ho]; omega
  have x2 : (pre ++ [bC s.own] ++ bsC (b ++ R.drop b.length)) ++ i64 b.length :: post = pre ++ bC s.own :: (bsC (b ++ R.drop b.length) ++ i64 b.length :: post) := by simp
  have tb : (bsC b).take b.length = bsC b := List.take_of_length_le (by simp)
  have s1 := seg (A := pre ++ [bC s.own]) (x := bsC (R.take b.length)) (y := bsC b) (C := bsC (R.drop b.length) ++ [i64 n] ++ post) (j := o + 1 + b.length) l0 (by simp; omega)
  have s2 : (pre ++ [bC s.own] ++ bsC (b ++ R.drop b.length) ++ i64 n :: post).take (o + 1515) ++ [i64 b.length] ++ (pre ++ [bC s.own] ++ bsC (b ++ R.drop b.length) ++ i64 n :: post).drop (o + 1515 + 1) = pre ++ [bC s.own] ++ bsC (b ++ R.drop b.length) ++ i64 b.length :: post := seg (x := [i64 n]) (C := post) l1 rfl
  have s3 : (pre ++ bC s.own :: (bsC (b ++ R.drop b.length) ++ i64 b.length :: post)).take o ++ [bC own] ++ (pre ++ bC s.own :: (bsC (b ++ R.drop b.length) ++ i64 b.length :: post)).drop (o + 1) = pre ++ bC own :: (bsC (b ++ R.drop b.length) ++ i64 b.length :: post) := seg (x := [bC s.own]) ho rfl
  have l2 : (pre ++ bC s.own :: (bsC (b ++ R.drop b.length) ++ i64 b.length :: post)).length = o + 1516 + post.length := by simp [ho]; omega
  have l3 : (pre ++ [bC s.own] ++ bsC (b ++ R.drop b.length) ++ i64 n :: post).length = o + 1516 + post.length := by simp [ho]; omega
  have hw : H[w]? = some (stB (pre ++ bC s.own :: (bsC R ++ [i64 n] ++ post))) := hw
  rw [X0] at hw
  simp (maxSteps := 4000000) only [Try.results22, hw, lt, m1, e0, bsR_toSC, gset, tb, bsC_len, s1, x1, s2, x2, s3, l2, l3, XX, Nat.reduceBEq, Nat.reduceLT, Nat.reduceAdd, Nat.reduceMul, Nat.reduceSub, Nat.reduceLeDiff, Nat.reduceEqDiff, Int.reduceToNat, Int.reduceLT, Int.reduceLE, Int.reduceAdd, Int.reduceSub, Int.reduceEq, reduceIte, Nat.reduceBNe, Int.reducePow, Nat.reducePow, Int.reduceMul, Int.reduceNeg, isB_i, isB_b, isB_y, isBv_i, isBv_b, eqCells_t, TT]
  exact ⟨⟨by simp, by simp [ho]; omega⟩, by omega, by omega, by rw [List.set_set, List.set_set]; simp only [stB, slotC, List.cons_append, List.append_assoc, List.nil_append]⟩

/-- A slot is emptied. -/
theorem put0_spec (H : List SB) (w o : Nat) (pre post : List SC) (s : Sl) (own : Bool) (hs : s.ok) (hw : H[w]? = some (stB (pre ++ (s.cells ++ post)))) (ho : pre.length = o) :
    Spec cx.P 22 [.c (.ptr w o), .c (.v (.slice none 0 0)), .c (bC own)] H fun t h' => t = .tup [] ∧ h' = H.set w (stB (pre ++ ((⟨own, [], s.d ++ s.j⟩ : Sl).cells ++ post))) := by
  have lt := lt_of hw
  have hk : (s.d ++ s.j).length = 1514 := by rw [List.length_append]; exact hs
  unfold Sl.cells at hw ⊢
  generalize s.d.length = n at hw
  rw [List.nil_append]
  generalize hR : s.d ++ s.j = R at hw hk ⊢
  have hw : H[w]? = some (stB (pre ++ bC s.own :: (bsC R ++ [i64 n] ++ post))) := hw
  have hw2 : H[w]? = some (stB (pre ++ bC s.own :: (bsC R ++ i64 n :: post))) := by rw [hw]; simp
  have l1 : (pre ++ [bC s.own] ++ bsC R).length = o + 1515 := by simp [ho]; omega
  have x1 : pre ++ bC s.own :: (bsC R ++ i64 n :: post) = pre ++ [bC s.own] ++ bsC R ++ i64 n :: post := by simp
  have s2 : (pre ++ [bC s.own] ++ bsC R ++ i64 n :: post).take (o + 1515) ++ [i64 0] ++ (pre ++ [bC s.own] ++ bsC R ++ i64 n :: post).drop (o + 1515 + 1) = pre ++ [bC s.own] ++ bsC R ++ i64 0 :: post := seg (x := [i64 n]) (C := post) l1 rfl
  have x2 : pre ++ [bC s.own] ++ bsC R ++ i64 0 :: post = pre ++ bC s.own :: (bsC R ++ i64 0 :: post) := by simp
  have s3 : (pre ++ bC s.own :: (bsC R ++ i64 0 :: post)).take o ++ [bC own] ++ (pre ++ bC s.own :: (bsC R ++ i64 0 :: post)).drop (o + 1) = pre ++ bC own :: (bsC R ++ i64 0 :: post) := seg (x := [bC s.own]) ho rfl
  have l2 : (pre ++ bC s.own :: (bsC R ++ i64 0 :: post)).length = o + 1516 + post.length := by simp [ho]; omega
  have l3 : (pre ++ [bC s.own] ++ bsC R ++ i64 n :: post).length = o + 1516 + post.length := by simp [ho]; omega
  rw [x1] at hw2
  refine spec_of_X cx_ok Try.func22 rfl (by kernel_rfl) (by kernel_rfl) (Nat.le_of_ble_eq_true rfl) 400 3 ?_
  simp (maxSteps := 4000000) only [Try.results22, XX, Nat.reduceBEq, Nat.reduceLT, Nat.reduceAdd, Nat.reduceMul, Nat.reduceSub, Nat.reduceLeDiff, Nat.reduceEqDiff, Int.reduceToNat, Int.reduceLT, Int.reduceLE, Int.reduceAdd, Int.reduceSub, Int.reduceEq, reduceIte, Nat.reduceBNe, Int.reducePow, Nat.reducePow, Int.reduceMul, Int.reduceNeg, isB_i, isB_b, isB_y, isBv_i, isBv_b, eqCells_t, TT]
  simp (maxSteps := 4000000) only [Try.results22, hw2, lt, gset, Nat.zero_min, List.take_nil, List.append_nil, List.length_nil, Nat.add_zero, List.take_append_drop, Int.natCast_zero, Int.ofNat_zero, s2, x2, s3, l2, l3, XX, Nat.reduceBEq, Nat.reduceLT, Nat.reduceAdd, Nat.reduceMul, Nat.reduceSub, Nat.reduceLeDiff, Nat.reduceEqDiff, Int.reduceToNat, Int.reduceLT, Int.reduceLE, Int.reduceAdd, Int.reduceSub, Int.reduceEq, reduceIte, Nat.reduceBNe, Int.reducePow, Nat.reducePow, Int.reduceMul, Int.reduceNeg, isB_i, isB_b, isB_y, isBv_i, isBv_b, eqCells_t, TT]
  exact ⟨by omega, by omega, by omega, by rw [List.set_set, List.set_set]; simp only [stB, slotC, List.cons_append, List.append_assoc, List.nil_append]⟩

/-- The card's cells. -/
abbrev cardC (w1 w2 n1 n2 : Nat) (a1 a2 c1 c2 c3 : Int) : List SC := [.sl w1 0 n1 n1, i64 a1, .sl w2 0 n2 n2, i64 a2, i64 c1, i64 c2, i64 c3]
abbrev cardB (w1 w2 n1 n2 : Nat) (a1 a2 c1 c2 c3 : Int) : SB := ⟨true, 63, cardC w1 w2 n1 n2 a1 a2 c1 c2 c3⟩

theorem at1_spec (oc : Bool) (H : List SB) (c w1 w2 n1 n2 : Nat) (a1 a2 c1 c2 c3 : Int) (hc : H[c]? = some ⟨oc, 63, cardC w1 w2 n1 n2 a1 a2 c1 c2 c3⟩) (i : Nat) (hi : i < n1) (hn : n1 ≤ 64) :
    Spec cx.P 21 [.c (.ptr c 0), .c (i64 i)] H fun t h' => t = .c (.ptr w1 (i * 1516)) ∧ h' = H := by
  have lt := lt_of hc
  have d1 : decide ((i : Int) < 0) = false := by simp only [decide_eq_false_iff_not]; omega
  have d2 : decide ((n1 : Int) ≤ (i : Int)) = false := by simp only [decide_eq_false_iff_not]; omega
  refine spec_of_X cx_ok Try.func21 rfl (by kernel_rfl) (by kernel_rfl) (Nat.le_of_ble_eq_true rfl) 400 5 ?_
  simp (maxSteps := 4000000) only [Try.results21, XX, Nat.reduceBEq, Nat.reduceLT, Nat.reduceAdd, Nat.reduceMul, Nat.reduceSub, Nat.reduceLeDiff, Nat.reduceEqDiff, Int.reduceToNat, Int.reduceLT, Int.reduceLE, Int.reduceAdd, Int.reduceSub, Int.reduceEq, reduceIte, Nat.reduceBNe, Int.reducePow, Nat.reducePow, Int.reduceMul, Int.reduceNeg, isB_i, isB_b, isB_y, isBv_i, isBv_b, eqCells_t, TT]
  simp (maxSteps := 4000000) only [Try.results21, hc, lt, d1, d2, XX, Nat.reduceBEq, Nat.reduceLT, Nat.reduceAdd, Nat.reduceMul, Nat.reduceSub, Nat.reduceLeDiff, Nat.reduceEqDiff, Int.reduceToNat, Int.reduceLT, Int.reduceLE, Int.reduceAdd, Int.reduceSub, Int.reduceEq, reduceIte, Nat.reduceBNe, Int.reducePow, Nat.reducePow, Int.reduceMul, Int.reduceNeg, isB_i, isB_b, isB_y, isBv_i, isBv_b, eqCells_t, TT]
  omega
theorem at2_spec (oc : Bool) (H : List SB) (c w1 w2 n1 n2 : Nat) (a1 a2 c1 c2 c3 : Int) (hc : H[c]? = some ⟨oc, 63, cardC w1 w2 n1 n2 a1 a2 c1 c2 c3⟩) (i : Nat) (hi : i < n2) (hn : n2 ≤ 64) :
    Spec cx.P 21 [.c (.ptr c 2), .c (i64 i)] H fun t h' => t = .c (.ptr w2 (i * 1516)) ∧ h' = H := by
  have lt := lt_of hc
  have d1 : decide ((i : Int) < 0) = false := by simp only [decide_eq_false_iff_not]; omega
  have d2 : decide ((n2 : Int) ≤ (i : Int)) = false := by simp only [decide_eq_false_iff_not]; omega
  refine spec_of_X cx_ok Try.func21 rfl (by kernel_rfl) (by kernel_rfl) (Nat.le_of_ble_eq_true rfl) 400 5 ?_
  simp (maxSteps := 4000000) only [Try.results21, XX, Nat.reduceBEq, Nat.reduceLT, Nat.reduceAdd, Nat.reduceMul, Nat.reduceSub, Nat.reduceLeDiff, Nat.reduceEqDiff, Int.reduceToNat, Int.reduceLT, Int.reduceLE, Int.reduceAdd, Int.reduceSub, Int.reduceEq, reduceIte, Nat.reduceBNe, Int.reducePow, Nat.reducePow, Int.reduceMul, Int.reduceNeg, isB_i, isB_b, isB_y, isBv_i, isBv_b, eqCells_t, TT]
  simp (maxSteps := 4000000) only [Try.results21, hc, lt, d1, d2, XX, Nat.reduceBEq, Nat.reduceLT, Nat.reduceAdd, Nat.reduceMul, Nat.reduceSub, Nat.reduceLeDiff, Nat.reduceEqDiff, Int.reduceToNat, Int.reduceLT, Int.reduceLE, Int.reduceAdd, Int.reduceSub, Int.reduceEq, reduceIte, Nat.reduceBNe, Int.reducePow, Nat.reducePow, Int.reduceMul, Int.reduceNeg, isB_i, isB_b, isB_y, isBv_i, isBv_b, eqCells_t, TT]
  omega
theorem at1N_spec (oc : Bool) (H : List SB) (c w1 w2 n1 n2 : Nat) (a1 a2 c1 c2 c3 : Int) (hc : H[c]? = some ⟨oc, 63, cardC w1 w2 n1 n2 a1 a2 c1 c2 c3⟩) (i : Int) (hi : i < 0 ∨ (n1 : Int) ≤ i) :
    Spec cx.P 21 [.c (.ptr c 0), .c (i64 i)] H fun t h' => t = .c (.v (.pointer none)) ∧ h' = H := by
  have lt := lt_of hc
  refine spec_of_X cx_ok Try.func21 rfl (by kernel_rfl) (by kernel_rfl) (Nat.le_of_ble_eq_true rfl) 400 5 ?_
  simp (maxSteps := 4000000) only [Try.results21, XX, Nat.reduceBEq, Nat.reduceLT, Nat.reduceAdd, Nat.reduceMul, Nat.reduceSub, Nat.reduceLeDiff, Nat.reduceEqDiff, Int.reduceToNat, Int.reduceLT, Int.reduceLE, Int.reduceAdd, Int.reduceSub, Int.reduceEq, reduceIte, Nat.reduceBNe, Int.reducePow, Nat.reducePow, Int.reduceMul, Int.reduceNeg, isB_i, isB_b, isB_y, isBv_i, isBv_b, eqCells_t, TT]
  cases d1 : decide (i < 0)
  · have d2 : decide ((n1 : Int) ≤ i) = true := by simp only [decide_eq_false_iff_not] at d1; simp only [decide_eq_true_eq]; omega
    simp (maxSteps := 4000000) only [Try.results21, hc, lt, d1, d2, XX, Nat.reduceBEq, Nat.reduceLT, Nat.reduceAdd, Nat.reduceMul, Nat.reduceSub, Nat.reduceLeDiff, Nat.reduceEqDiff, Int.reduceToNat, Int.reduceLT, Int.reduceLE, Int.reduceAdd, Int.reduceSub, Int.reduceEq, reduceIte, Nat.reduceBNe, Int.reducePow, Nat.reducePow, Int.reduceMul, Int.reduceNeg, isB_i, isB_b, isB_y, isBv_i, isBv_b, eqCells_t, TT]
  · simp (maxSteps := 4000000) only [Try.results21, hc, lt, d1, XX, Nat.reduceBEq, Nat.reduceLT, Nat.reduceAdd, Nat.reduceMul, Nat.reduceSub, Nat.reduceLeDiff, Nat.reduceEqDiff, Int.reduceToNat, Int.reduceLT, Int.reduceLE, Int.reduceAdd, Int.reduceSub, Int.reduceEq, reduceIte, Nat.reduceBNe, Int.reducePow, Nat.reducePow, Int.reduceMul, Int.reduceNeg, isB_i, isB_b, isB_y, isBv_i, isBv_b, eqCells_t, TT]
theorem at2N_spec (oc : Bool) (H : List SB) (c w1 w2 n1 n2 : Nat) (a1 a2 c1 c2 c3 : Int) (hc : H[c]? = some ⟨oc, 63, cardC w1 w2 n1 n2 a1 a2 c1 c2 c3⟩) (i : Int) (hi : i < 0 ∨ (n2 : Int) ≤ i) :
    Spec cx.P 21 [.c (.ptr c 2), .c (i64 i)] H fun t h' => t = .c (.v (.pointer none)) ∧ h' = H := by
  have lt := lt_of hc
  refine spec_of_X cx_ok Try.func21 rfl (by kernel_rfl) (by kernel_rfl) (Nat.le_of_ble_eq_true rfl) 400 5 ?_
  simp (maxSteps := 4000000) only [Try.results21, XX, Nat.reduceBEq, Nat.reduceLT, Nat.reduceAdd, Nat.reduceMul, Nat.reduceSub, Nat.reduceLeDiff, Nat.reduceEqDiff, Int.reduceToNat, Int.reduceLT, Int.reduceLE, Int.reduceAdd, Int.reduceSub, Int.reduceEq, reduceIte, Nat.reduceBNe, Int.reducePow, Nat.reducePow, Int.reduceMul, Int.reduceNeg, isB_i, isB_b, isB_y, isBv_i, isBv_b, eqCells_t, TT]
  cases d1 : decide (i < 0)
  · have d2 : decide ((n2 : Int) ≤ i) = true := by simp only [decide_eq_false_iff_not] at d1; simp only [decide_eq_true_eq]; omega
    simp (maxSteps := 4000000) only [Try.results21, hc, lt, d1, d2, XX, Nat.reduceBEq, Nat.reduceLT, Nat.reduceAdd, Nat.reduceMul, Nat.reduceSub, Nat.reduceLeDiff, Nat.reduceEqDiff, Int.reduceToNat, Int.reduceLT, Int.reduceLE, Int.reduceAdd, Int.reduceSub, Int.reduceEq, reduceIte, Nat.reduceBNe, Int.reducePow, Nat.reducePow, Int.reduceMul, Int.reduceNeg, isB_i, isB_b, isB_y, isBv_i, isBv_b, eqCells_t, TT]
  · simp (maxSteps := 4000000) only [Try.results21, hc, lt, d1, XX, Nat.reduceBEq, Nat.reduceLT, Nat.reduceAdd, Nat.reduceMul, Nat.reduceSub, Nat.reduceLeDiff, Nat.reduceEqDiff, Int.reduceToNat, Int.reduceLT, Int.reduceLE, Int.reduceAdd, Int.reduceSub, Int.reduceEq, reduceIte, Nat.reduceBNe, Int.reducePow, Nat.reducePow, Int.reduceMul, Int.reduceNeg, isB_i, isB_b, isB_y, isBv_i, isBv_b, eqCells_t, TT]

end Go.Proofs.Ytdfhmpheepobnaa.Sx
