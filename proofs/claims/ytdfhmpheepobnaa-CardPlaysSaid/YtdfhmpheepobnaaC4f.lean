/- The symbolic executor, at work: the document's card is made. No condition. -/
import Derived.Test.YtdfhmpheepobnaaC4e
import Derived.Test.YtdfhmpheepobnaaOw
namespace Go.Proofs.Ytdfhmpheepobnaa.Sx
open Go
set_option linter.unusedSimpArgs false
set_option linter.unusedVariables false
set_option maxRecDepth 10000
set_option maxHeartbeats 2000000

/-- Descriptors' cells. -/
abbrev dsC (l : List (Bool × SC)) : List SC := (l.map fun q => [bC q.1, q.2]).flatten
abbrev zD : Bool × SC := (false, .v (.slice none 0 0))
theorem dsC_len : ∀ l : List (Bool × SC), (dsC l).length = l.length * 2
  | [] => rfl
  | q :: l => by
    have := dsC_len l
    simp only [dsC, List.map_cons, List.flatten_cons, List.length_append, List.length_cons, List.length_nil] at this ⊢
    omega
theorem dsC_app (a b : List (Bool × SC)) : dsC (a ++ b) = dsC a ++ dsC b := by simp [dsC]
theorem dsC_room {l : List (Bool × SC)} {j n : Nat} (q : Bool × SC) (hn : l.length = n) (hj : 1 ≤ j) : (dsC (l ++ List.replicate j zD)).take (n * 2) ++ [bC q.1, q.2] ++ (dsC (l ++ List.replicate j zD)).drop (n * 2 + 2) = dsC ((l ++ [q]) ++ List.replicate (j - 1) zD) := by
  obtain ⟨j', rfl⟩ := Nat.exists_eq_add_of_le hj
  rw [Nat.add_comm 1 j', List.replicate_succ, dsC_app, show dsC (zD :: List.replicate j' zD) = [bC false, .v (.slice none 0 0)] ++ dsC (List.replicate j' zD) from rfl, seg (A := dsC l) (x := [bC false, .v (.slice none 0 0)]) (j := n * 2 + 2) (by rw [dsC_len, hn]) rfl, Nat.add_sub_cancel, dsC_app, dsC_app, List.append_assoc]
  rfl
theorem dsC_grow (l : List (Bool × SC)) (q : Bool × SC) (j : Nat) : dsC l ++ [bC q.1, q.2] ++ (List.replicate j [SC.v (.bool false), SC.v (.slice none 0 0)]).flatten = dsC ((l ++ [q]) ++ List.replicate j zD) := by
  rw [dsC_app, dsC_app]
  congr 1
  unfold dsC
  rw [List.map_replicate]
abbrev rcB (r t : SC) (a1 a2 c1 c2 c3 : Int) : SB := ⟨true, 69, [r, t, i64 a1, i64 a2, i64 c1, i64 c2, i64 c3]⟩
abbrev dB (o : Bool) (l : List (Bool × SC)) : SB := ⟨o, 40, dsC l⟩

/-- Descriptors without bytes. -/
abbrev rowsN (b : Bool) (i j : Nat) : List (Bool × SC) := List.replicate i (b, .v (.slice none 0 0)) ++ List.replicate j zD
theorem dsN_mem {b : Bool} {i j : Nat} {x : SC} (hx : x ∈ dsC (rowsN b i j)) : ∃ c, x = bC c ∨ x = .v (.slice none 0 0) := by
  simp only [dsC, List.mem_flatten, List.mem_map] at hx
  obtain ⟨_, ⟨q, hq, rfl⟩, hx⟩ := hx
  simp only [List.mem_cons, List.not_mem_nil, or_false] at hx
  rcases List.mem_append.1 hq with h | h <;> rw [List.eq_of_mem_replicate h] at hx <;> exact ⟨_, hx⟩
theorem dsN_ids (p : Nat → Bool) (b : Bool) (i j : Nat) : (dsC (rowsN b i j)).all (SC.ids p) = true := by
  rw [List.all_eq_true]
  intro x hx
  obtain ⟨c, rfl | rfl⟩ := dsN_mem hx <;> rfl
theorem dsN_ren (r : Nat → Nat) (b : Bool) (i j : Nat) : (dsC (rowsN b i j)).map (SC.ren r) = dsC (rowsN b i j) := by
  conv => rhs; rw [← List.map_id (dsC (rowsN b i j))]
  refine List.map_congr_left fun x hx => ?_
  obtain ⟨c, rfl | rfl⟩ := dsN_mem hx <;> rfl
theorem rowsN_room (b : Bool) (i j : Nat) (hj : 1 ≤ j) : (dsC (rowsN b i j)).take (i * 2) ++ [bC b, .v (.slice none 0 0)] ++ (dsC (rowsN b i j)).drop (i * 2 + 2) = dsC (rowsN b (i + 1) (j - 1)) := by
  rw [dsC_room (b, .v (.slice none 0 0)) (by simp) hj, rowsN, List.replicate_succ']
theorem rowsN_grow (b : Bool) (i j j' : Nat) : (dsC (rowsN b i j)).take (i * 2) ++ [bC b, .v (.slice none 0 0)] ++ (List.replicate j' [SC.v (.bool false), SC.v (.slice none 0 0)]).flatten = dsC (rowsN b (i + 1) j') := by
  rw [rowsN, dsC_app, List.take_left' (by rw [dsC_len, List.length_replicate]), dsC_grow _ (b, .v (.slice none 0 0)), rowsN, List.replicate_succ']
theorem rowsN_len (b : Bool) (i j : Nat) : (dsC (rowsN b i j)).length = (i + j) * 2 := by rw [dsC_len]; simp

theorem rnewN_spec (n m : Int) (h : n < 1 ∨ 64 < n ∨ m < 1 ∨ 64 < m) : Spec cx.P 9 [.c (i64 n), .c (i64 m)] [] fun t _ => t.plain = true ∧ t = .c (.v (.pointer none)) := by
  refine spec_of_X cx_ok Try.func9 rfl (by kernel_rfl) (by kernel_rfl) (Nat.le_of_ble_eq_true rfl) 400 8 ?_
  simp (maxSteps := 4000000) only [Try.results9, XX, Nat.reduceBEq, Nat.reduceLT, Nat.reduceAdd, Nat.reduceMul, Nat.reduceSub, Nat.reduceLeDiff, Nat.reduceEqDiff, Int.reduceToNat, Int.reduceLT, Int.reduceLE, Int.reduceAdd, Int.reduceSub, Int.reduceEq, reduceIte, Nat.reduceBNe, Int.reducePow, Nat.reducePow, Int.reduceMul, Int.reduceNeg, isB_i, isB_b, isB_y, isBv_i, isBv_b, eqCells_t, TT]
  cases h1 : decide (n < 1)
  · cases h2 : decide (64 < n)
    · cases h3 : decide (m < 1)
      · have h4 : decide (64 < m) = true := by
          simp only [decide_eq_false_iff_not] at h1 h2 h3
          simp only [decide_eq_true_eq]; omega
        simp (maxSteps := 4000000) only [Try.results9, h1, h2, h3, h4, XX, Nat.reduceBEq, Nat.reduceLT, Nat.reduceAdd, Nat.reduceMul, Nat.reduceSub, Nat.reduceLeDiff, Nat.reduceEqDiff, Int.reduceToNat, Int.reduceLT, Int.reduceLE, Int.reduceAdd, Int.reduceSub, Int.reduceEq, reduceIte, Nat.reduceBNe, Int.reducePow, Nat.reducePow, Int.reduceMul, Int.reduceNeg, isB_i, isB_b, isB_y, isBv_i, isBv_b, eqCells_t, TT]
      · simp (maxSteps := 4000000) only [Try.results9, h1, h2, h3, XX, Nat.reduceBEq, Nat.reduceLT, Nat.reduceAdd, Nat.reduceMul, Nat.reduceSub, Nat.reduceLeDiff, Nat.reduceEqDiff, Int.reduceToNat, Int.reduceLT, Int.reduceLE, Int.reduceAdd, Int.reduceSub, Int.reduceEq, reduceIte, Nat.reduceBNe, Int.reducePow, Nat.reducePow, Int.reduceMul, Int.reduceNeg, isB_i, isB_b, isB_y, isBv_i, isBv_b, eqCells_t, TT]
    · simp (maxSteps := 4000000) only [Try.results9, h1, h2, XX, Nat.reduceBEq, Nat.reduceLT, Nat.reduceAdd, Nat.reduceMul, Nat.reduceSub, Nat.reduceLeDiff, Nat.reduceEqDiff, Int.reduceToNat, Int.reduceLT, Int.reduceLE, Int.reduceAdd, Int.reduceSub, Int.reduceEq, reduceIte, Nat.reduceBNe, Int.reducePow, Nat.reducePow, Int.reduceMul, Int.reduceNeg, isB_i, isB_b, isB_y, isBv_i, isBv_b, eqCells_t, TT]
  · simp (maxSteps := 4000000) only [Try.results9, h1, XX, Nat.reduceBEq, Nat.reduceLT, Nat.reduceAdd, Nat.reduceMul, Nat.reduceSub, Nat.reduceLeDiff, Nat.reduceEqDiff, Int.reduceToNat, Int.reduceLT, Int.reduceLE, Int.reduceAdd, Int.reduceSub, Int.reduceEq, reduceIte, Nat.reduceBNe, Int.reducePow, Nat.reducePow, Int.reduceMul, Int.reduceNeg, isB_i, isB_b, isB_y, isBv_i, isBv_b, eqCells_t, TT]

theorem rnew_spec (n m : Nat) (h1 : 1 ≤ n) (h2 : n ≤ 64) (h3 : 1 ≤ m) (h4 : m ≤ 64) : Spec cx.P 9 [.c (i64 n), .c (i64 m)] [] fun t h' => ∃ j1 j2, t = .c (.ptr 0 0) ∧ h' = [rcB (.sl 1 0 n (n + j1)) (.sl 2 0 m (m + j2)) 0 0 0 0 0, dB true (rowsN true n j1), dB true (rowsN false m j2)] := by
  have d1 : decide ((n : Int) < 1) = false := by simp only [decide_eq_false_iff_not]; omega
  have d2 : decide (64 < (n : Int)) = false := by simp only [decide_eq_false_iff_not]; omega
  have d3 : decide ((m : Int) < 1) = false := by simp only [decide_eq_false_iff_not]; omega
  have d4 : decide (64 < (m : Int)) = false := by simp only [decide_eq_false_iff_not]; omega
  refine spec_of_X cx_ok Try.func9 rfl (by kernel_rfl) (by kernel_rfl) (Nat.le_of_ble_eq_true rfl) 400 8 ?_
  simp (maxSteps := 4000000) only [Try.results9, XX, Nat.reduceBEq, Nat.reduceLT, Nat.reduceAdd, Nat.reduceMul, Nat.reduceSub, Nat.reduceLeDiff, Nat.reduceEqDiff, Int.reduceToNat, Int.reduceLT, Int.reduceLE, Int.reduceAdd, Int.reduceSub, Int.reduceEq, reduceIte, Nat.reduceBNe, Int.reducePow, Nat.reducePow, Int.reduceMul, Int.reduceNeg, isB_i, isB_b, isB_y, isBv_i, isBv_b, eqCells_t, TT]
  simp (maxSteps := 4000000) only [Try.results9, d1, d2, d3, d4, XX, Nat.reduceBEq, Nat.reduceLT, Nat.reduceAdd, Nat.reduceMul, Nat.reduceSub, Nat.reduceLeDiff, Nat.reduceEqDiff, Int.reduceToNat, Int.reduceLT, Int.reduceLE, Int.reduceAdd, Int.reduceSub, Int.reduceEq, reduceIte, Nat.reduceBNe, Int.reducePow, Nat.reducePow, Int.reduceMul, Int.reduceNeg, isB_i, isB_b, isB_y, isBv_i, isBv_b, eqCells_t, TT]
  refine loop_of cx_ok 400 (fun μ σ => ∃ i j o, μ = n - i ∧ i ≤ n ∧ (0 < i + j → o = true) ∧
      σ = ⟨⟨8, 0⟩, [(0, .c (i64 n)), (1, .c (i64 m)), (4, .c (.v (.pointer none))), (5, .c (.ptr 0 0)), (6, .c (i64 (i : Nat)))], [rcB (.sl 1 0 i (i + j)) (.v (.slice none 0 0)) 0 0 0 0 0, dB o (rowsN true i j)]⟩) n ⟨⟨8, 0⟩, [(0, .c (i64 n)), (1, .c (i64 m)), (4, .c (.v (.pointer none))), (5, .c (.ptr 0 0)), (6, .c (i64 (0 : Nat)))], [rcB (.sl 1 0 0 0) (.v (.slice none 0 0)) 0 0 0 0 0, dB false []]⟩ ⟨0, 0, false, by omega, Nat.zero_le _, fun h => by omega, rfl⟩ [some 0, none]
    ⟨rfl, rfl, ?_, by simp only [XX, Nat.reduceBEq, Nat.reduceLT, Nat.reduceAdd, Nat.reduceMul, Nat.reduceSub, Nat.reduceLeDiff, Nat.reduceEqDiff, Int.reduceToNat, Int.reduceLT, Int.reduceLE, Int.reduceAdd, Int.reduceSub, Int.reduceEq, reduceIte, Nat.reduceBNe, Int.reducePow, Nat.reducePow, Int.reduceMul, Int.reduceNeg, isB_i, isB_b, isB_y, isBv_i, isBv_b, eqCells_t, TT]⟩ ?_
  · exact ⟨⟨.inr ⟨.inr (.inr ⟨1, 0, rfl, .inl rfl⟩), .inl ⟨rfl, rfl⟩, .inl ⟨rfl, rfl⟩, .inl ⟨rfl, rfl⟩, .inl ⟨rfl, rfl⟩, .inl ⟨rfl, rfl⟩, .inl ⟨rfl, rfl⟩, trivial⟩, fun _ => ⟨rfl, rfl⟩⟩, ⟨rfl, rfl⟩, trivial⟩
  rintro μ σ ⟨i, j, o, rfl, hi, ho, rfl⟩
  simp (maxSteps := 4000000) only [Try.results9, XX, Nat.reduceBEq, Nat.reduceLT, Nat.reduceAdd, Nat.reduceMul, Nat.reduceSub, Nat.reduceLeDiff, Nat.reduceEqDiff, Int.reduceToNat, Int.reduceLT, Int.reduceLE, Int.reduceAdd, Int.reduceSub, Int.reduceEq, reduceIte, Nat.reduceBNe, Int.reducePow, Nat.reducePow, Int.reduceMul, Int.reduceNeg, isB_i, isB_b, isB_y, isBv_i, isBv_b, eqCells_t, TT]
  by_cases hlt : i < n
  · have hd : decide ((i : Int) < (n : Int)) = true := by simp only [decide_eq_true_eq]; omega
    have e1 : IntKind.i64.wrap ((i : Int) + 1) = ((i + 1 : Nat) : Int) := by rw [w64] <;> omega
    simp (maxSteps := 4000000) only [Try.results9, hd, e1, XX, Nat.reduceBEq, Nat.reduceLT, Nat.reduceAdd, Nat.reduceMul, Nat.reduceSub, Nat.reduceLeDiff, Nat.reduceEqDiff, Int.reduceToNat, Int.reduceLT, Int.reduceLE, Int.reduceAdd, Int.reduceSub, Int.reduceEq, reduceIte, Nat.reduceBNe, Int.reducePow, Nat.reducePow, Int.reduceMul, Int.reduceNeg, isB_i, isB_b, isB_y, isBv_i, isBv_b, eqCells_t, TT]
    simp only [List.replicate_succ, List.replicate_zero, List.flatten_cons, List.flatten_nil, List.cons_append, List.nil_append, List.drop_succ_cons, List.drop_zero, List.length_cons, List.length_nil, Nat.reduceAdd, Nat.reduceLeDiff, reduceIte]
    simp (maxSteps := 4000000) only [Try.results9, XX, Nat.reduceBEq, Nat.reduceLT, Nat.reduceAdd, Nat.reduceMul, Nat.reduceSub, Nat.reduceLeDiff, Nat.reduceEqDiff, Int.reduceToNat, Int.reduceLT, Int.reduceLE, Int.reduceAdd, Int.reduceSub, Int.reduceEq, reduceIte, Nat.reduceBNe, Int.reducePow, Nat.reducePow, Int.reduceMul, Int.reduceNeg, isB_i, isB_b, isB_y, isBv_i, isBv_b, eqCells_t, TT]
    refine ⟨⟨by omega, by unfold maxLen; omega, by rw [rowsN_len]; omega, fun h => ⟨ho (by omega), by rw [rowsN_len]; omega⟩⟩, ?_⟩
    refine xapp_lit (fun j' : Nat => [(0, .c (i64 n)), (1, .c (i64 m)), (4, .c (.v (.pointer none))), (5, .c (.ptr 0 0)), (6, .c (i64 (i : Nat))), (29, .c (.ptr 0 0)), (36, .c (.sl 1 0 (i + 1) (i + 1 + j')))]) (fun j' => [rcB .any (.v (.slice none 0 0)) 0 0 0 0 0, dB true (rowsN true (i + 1) j')]) [some 0, some 1] [some 0, some 3] (fun h => ?_) (fun h c h1 => ?_) (fun j' => ?_)
    · refine ⟨j - 1, ⟨rfl, rfl, ?_, ?_⟩⟩
      · refine ⟨⟨.inr ⟨.inr (.inl rfl), .inl ⟨rfl, rfl⟩, .inl ⟨rfl, rfl⟩, .inl ⟨rfl, rfl⟩, .inl ⟨rfl, rfl⟩, .inl ⟨rfl, rfl⟩, .inl ⟨rfl, rfl⟩, trivial⟩, fun _ => ⟨rfl, rfl⟩⟩, ⟨.inl ⟨dsN_ids _ _ _ _, ?_⟩, fun _ => ⟨ho (by omega), rfl⟩⟩, trivial⟩
        exact (rowsN_room true i j (by omega)).trans (dsN_ren _ _ _ _).symm
      · simp only [XX, Nat.reduceBEq, Nat.reduceLT, Nat.reduceAdd, Nat.reduceMul, Nat.reduceSub, Nat.reduceLeDiff, Nat.reduceEqDiff, Int.reduceToNat, Int.reduceLT, Int.reduceLE, Int.reduceAdd, Int.reduceSub, Int.reduceEq, reduceIte, Nat.reduceBNe, Int.reducePow, Nat.reducePow, Int.reduceMul, Int.reduceNeg, isB_i, isB_b, isB_y, isBv_i, isBv_b, eqCells_t, TT]
        simp
        omega
    · obtain ⟨j', rfl⟩ := Nat.exists_eq_add_of_le h1
      refine ⟨j', ⟨rfl, rfl, ?_, ?_⟩⟩
      · refine ⟨⟨.inr ⟨.inr (.inl rfl), .inl ⟨rfl, rfl⟩, .inl ⟨rfl, rfl⟩, .inl ⟨rfl, rfl⟩, .inl ⟨rfl, rfl⟩, .inl ⟨rfl, rfl⟩, .inl ⟨rfl, rfl⟩, trivial⟩, fun _ => ⟨rfl, rfl⟩⟩, ⟨.inl ⟨dsN_ids _ _ _ _, ?_⟩, fun _ => ⟨rfl, rfl⟩⟩, trivial⟩
        rw [dsN_ren]
        have := rowsN_grow true i j (i + 1 + j' - (i + 1))
        rw [Nat.add_sub_cancel_left] at this ⊢
        exact this
      · simp only [XX, Nat.reduceBEq, Nat.reduceLT, Nat.reduceAdd, Nat.reduceMul, Nat.reduceSub, Nat.reduceLeDiff, Nat.reduceEqDiff, Int.reduceToNat, Int.reduceLT, Int.reduceLE, Int.reduceAdd, Int.reduceSub, Int.reduceEq, reduceIte, Nat.reduceBNe, Int.reducePow, Nat.reducePow, Int.reduceMul, Int.reduceNeg, isB_i, isB_b, isB_y, isBv_i, isBv_b, eqCells_t, TT]
    simp (maxSteps := 4000000) only [Try.results9, e1, XX, Nat.reduceBEq, Nat.reduceLT, Nat.reduceAdd, Nat.reduceMul, Nat.reduceSub, Nat.reduceLeDiff, Nat.reduceEqDiff, Int.reduceToNat, Int.reduceLT, Int.reduceLE, Int.reduceAdd, Int.reduceSub, Int.reduceEq, reduceIte, Nat.reduceBNe, Int.reducePow, Nat.reducePow, Int.reduceMul, Int.reduceNeg, isB_i, isB_b, isB_y, isBv_i, isBv_b, eqCells_t, TT]
    refine ⟨n - (i + 1), by omega, _, ⟨i + 1, j', true, rfl, by omega, fun _ => rfl, rfl⟩, [some 0, some 1], ⟨rfl, rfl, ?_, ?_⟩⟩
    · simp only [XX, Nat.reduceBEq, Nat.reduceLT, Nat.reduceAdd, Nat.reduceMul, Nat.reduceSub, Nat.reduceLeDiff, Nat.reduceEqDiff, Int.reduceToNat, Int.reduceLT, Int.reduceLE, Int.reduceAdd, Int.reduceSub, Int.reduceEq, reduceIte, Nat.reduceBNe, Int.reducePow, Nat.reducePow, Int.reduceMul, Int.reduceNeg, isB_i, isB_b, isB_y, isBv_i, isBv_b, eqCells_t, TT, dsN_ids, dsN_ren]
    · simp only [XX, Nat.reduceBEq, Nat.reduceLT, Nat.reduceAdd, Nat.reduceMul, Nat.reduceSub, Nat.reduceLeDiff, Nat.reduceEqDiff, Int.reduceToNat, Int.reduceLT, Int.reduceLE, Int.reduceAdd, Int.reduceSub, Int.reduceEq, reduceIte, Nat.reduceBNe, Int.reducePow, Nat.reducePow, Int.reduceMul, Int.reduceNeg, isB_i, isB_b, isB_y, isBv_i, isBv_b, eqCells_t, TT]
  · have hd : decide ((i : Int) < (n : Int)) = false := by simp only [decide_eq_false_iff_not]; omega
    obtain rfl : i = n := by omega
    simp (maxSteps := 4000000) only [Try.results9, hd, XX, Nat.reduceBEq, Nat.reduceLT, Nat.reduceAdd, Nat.reduceMul, Nat.reduceSub, Nat.reduceLeDiff, Nat.reduceEqDiff, Int.reduceToNat, Int.reduceLT, Int.reduceLE, Int.reduceAdd, Int.reduceSub, Int.reduceEq, reduceIte, Nat.reduceBNe, Int.reducePow, Nat.reducePow, Int.reduceMul, Int.reduceNeg, isB_i, isB_b, isB_y, isBv_i, isBv_b, eqCells_t, TT]
    obtain rfl := ho (by omega)
    refine loop_of cx_ok 400 (fun μ σ => ∃ p q o, μ = m - p ∧ p ≤ m ∧ (0 < p + q → o = true) ∧
        σ = ⟨⟨8, 0⟩, [(1, .c (i64 m)), (4, .c (.v (.pointer none))), (5, .c (.ptr 0 0)), (7, .c (i64 (p : Nat)))], [rcB (.sl 1 0 i (i + j)) (.sl 2 0 p (p + q)) 0 0 0 0 0, dB true (rowsN true i j), dB o (rowsN false p q)]⟩) m ⟨⟨8, 0⟩, [(1, .c (i64 m)), (4, .c (.v (.pointer none))), (5, .c (.ptr 0 0)), (7, .c (i64 (0 : Nat)))], [rcB (.sl 1 0 i (i + j)) (.sl 2 0 0 0) 0 0 0 0 0, dB true (rowsN true i j), dB false []]⟩ ⟨0, 0, false, by omega, Nat.zero_le _, fun h => by omega, rfl⟩ [some 0, some 1, none]
      ⟨rfl, rfl, ?_, by simp only [XX, Nat.reduceBEq, Nat.reduceLT, Nat.reduceAdd, Nat.reduceMul, Nat.reduceSub, Nat.reduceLeDiff, Nat.reduceEqDiff, Int.reduceToNat, Int.reduceLT, Int.reduceLE, Int.reduceAdd, Int.reduceSub, Int.reduceEq, reduceIte, Nat.reduceBNe, Int.reducePow, Nat.reducePow, Int.reduceMul, Int.reduceNeg, isB_i, isB_b, isB_y, isBv_i, isBv_b, eqCells_t, TT]⟩ ?_
    · exact ⟨⟨.inr ⟨.inl ⟨rfl, rfl⟩, .inr (.inr ⟨2, 0, rfl, .inl rfl⟩), .inl ⟨rfl, rfl⟩, .inl ⟨rfl, rfl⟩, .inl ⟨rfl, rfl⟩, .inl ⟨rfl, rfl⟩, .inl ⟨rfl, rfl⟩, trivial⟩, fun _ => ⟨rfl, rfl⟩⟩, ⟨.inl ⟨dsN_ids _ _ _ _, (dsN_ren _ _ _ _).symm⟩, fun _ => ⟨rfl, rfl⟩⟩, ⟨rfl, rfl⟩, trivial⟩
    rintro μ σ ⟨p, q, o, rfl, hp, ho, rfl⟩
    simp (maxSteps := 4000000) only [Try.results9, XX, Nat.reduceBEq, Nat.reduceLT, Nat.reduceAdd, Nat.reduceMul, Nat.reduceSub, Nat.reduceLeDiff, Nat.reduceEqDiff, Int.reduceToNat, Int.reduceLT, Int.reduceLE, Int.reduceAdd, Int.reduceSub, Int.reduceEq, reduceIte, Nat.reduceBNe, Int.reducePow, Nat.reducePow, Int.reduceMul, Int.reduceNeg, isB_i, isB_b, isB_y, isBv_i, isBv_b, eqCells_t, TT]
    by_cases hlt : p < m
    · have hd : decide ((p : Int) < (m : Int)) = true := by simp only [decide_eq_true_eq]; omega
      have e1 : IntKind.i64.wrap ((p : Int) + 1) = ((p + 1 : Nat) : Int) := by rw [w64] <;> omega
      simp (maxSteps := 4000000) only [Try.results9, hd, e1, XX, Nat.reduceBEq, Nat.reduceLT, Nat.reduceAdd, Nat.reduceMul, Nat.reduceSub, Nat.reduceLeDiff, Nat.reduceEqDiff, Int.reduceToNat, Int.reduceLT, Int.reduceLE, Int.reduceAdd, Int.reduceSub, Int.reduceEq, reduceIte, Nat.reduceBNe, Int.reducePow, Nat.reducePow, Int.reduceMul, Int.reduceNeg, isB_i, isB_b, isB_y, isBv_i, isBv_b, eqCells_t, TT]
      simp only [List.replicate_succ, List.replicate_zero, List.flatten_cons, List.flatten_nil, List.cons_append, List.nil_append, List.drop_succ_cons, List.drop_zero, List.length_cons, List.length_nil, Nat.reduceAdd, Nat.reduceLeDiff, reduceIte]
      simp (maxSteps := 4000000) only [Try.results9, XX, Nat.reduceBEq, Nat.reduceLT, Nat.reduceAdd, Nat.reduceMul, Nat.reduceSub, Nat.reduceLeDiff, Nat.reduceEqDiff, Int.reduceToNat, Int.reduceLT, Int.reduceLE, Int.reduceAdd, Int.reduceSub, Int.reduceEq, reduceIte, Nat.reduceBNe, Int.reducePow, Nat.reducePow, Int.reduceMul, Int.reduceNeg, isB_i, isB_b, isB_y, isBv_i, isBv_b, eqCells_t, TT]
      refine ⟨⟨by omega, by unfold maxLen; omega, by rw [rowsN_len]; omega, fun h => ⟨ho (by omega), by rw [rowsN_len]; omega⟩⟩, ?_⟩
      refine xapp_lit (fun j' : Nat => [(1, .c (i64 m)), (4, .c (.v (.pointer none))), (5, .c (.ptr 0 0)), (7, .c (i64 (p : Nat))), (44, .c (.ptr 0 0)), (51, .c (.sl 2 0 (p + 1) (p + 1 + j')))]) (fun j' => [rcB (.sl 1 0 i (i + j)) .any 0 0 0 0 0, dB true (rowsN true i j), dB true (rowsN false (p + 1) j')]) [some 0, some 1, some 2] [some 0, some 1, some 4] (fun h => ?_) (fun h c h1 => ?_) (fun j' => ?_)
      · refine ⟨q - 1, ⟨rfl, rfl, ?_, ?_⟩⟩
        · refine ⟨⟨.inr ⟨.inl ⟨rfl, rfl⟩, .inr (.inl rfl), .inl ⟨rfl, rfl⟩, .inl ⟨rfl, rfl⟩, .inl ⟨rfl, rfl⟩, .inl ⟨rfl, rfl⟩, .inl ⟨rfl, rfl⟩, trivial⟩, fun _ => ⟨rfl, rfl⟩⟩, ⟨.inl ⟨dsN_ids _ _ _ _, (dsN_ren _ _ _ _).symm⟩, fun _ => ⟨rfl, rfl⟩⟩, ⟨.inl ⟨dsN_ids _ _ _ _, ?_⟩, fun _ => ⟨ho (by omega), rfl⟩⟩, trivial⟩
          exact (rowsN_room false p q (by omega)).trans (dsN_ren _ _ _ _).symm
        · simp only [XX, Nat.reduceBEq, Nat.reduceLT, Nat.reduceAdd, Nat.reduceMul, Nat.reduceSub, Nat.reduceLeDiff, Nat.reduceEqDiff, Int.reduceToNat, Int.reduceLT, Int.reduceLE, Int.reduceAdd, Int.reduceSub, Int.reduceEq, reduceIte, Nat.reduceBNe, Int.reducePow, Nat.reducePow, Int.reduceMul, Int.reduceNeg, isB_i, isB_b, isB_y, isBv_i, isBv_b, eqCells_t, TT]
          simp
          omega
      · obtain ⟨j', rfl⟩ := Nat.exists_eq_add_of_le h1
        refine ⟨j', ⟨rfl, rfl, ?_, ?_⟩⟩
        · refine ⟨⟨.inr ⟨.inl ⟨rfl, rfl⟩, .inr (.inl rfl), .inl ⟨rfl, rfl⟩, .inl ⟨rfl, rfl⟩, .inl ⟨rfl, rfl⟩, .inl ⟨rfl, rfl⟩, .inl ⟨rfl, rfl⟩, trivial⟩, fun _ => ⟨rfl, rfl⟩⟩, ⟨.inl ⟨dsN_ids _ _ _ _, (dsN_ren _ _ _ _).symm⟩, fun _ => ⟨rfl, rfl⟩⟩, ⟨.inl ⟨dsN_ids _ _ _ _, ?_⟩, fun _ => ⟨rfl, rfl⟩⟩, trivial⟩
          rw [dsN_ren]
          have := rowsN_grow false p q (p + 1 + j' - (p + 1))
          rw [Nat.add_sub_cancel_left] at this ⊢
          exact this
        · simp only [XX, Nat.reduceBEq, Nat.reduceLT, Nat.reduceAdd, Nat.reduceMul, Nat.reduceSub, Nat.reduceLeDiff, Nat.reduceEqDiff, Int.reduceToNat, Int.reduceLT, Int.reduceLE, Int.reduceAdd, Int.reduceSub, Int.reduceEq, reduceIte, Nat.reduceBNe, Int.reducePow, Nat.reducePow, Int.reduceMul, Int.reduceNeg, isB_i, isB_b, isB_y, isBv_i, isBv_b, eqCells_t, TT]
      simp (maxSteps := 4000000) only [Try.results9, e1, XX, Nat.reduceBEq, Nat.reduceLT, Nat.reduceAdd, Nat.reduceMul, Nat.reduceSub, Nat.reduceLeDiff, Nat.reduceEqDiff, Int.reduceToNat, Int.reduceLT, Int.reduceLE, Int.reduceAdd, Int.reduceSub, Int.reduceEq, reduceIte, Nat.reduceBNe, Int.reducePow, Nat.reducePow, Int.reduceMul, Int.reduceNeg, isB_i, isB_b, isB_y, isBv_i, isBv_b, eqCells_t, TT]
      refine ⟨m - (p + 1), by omega, _, ⟨p + 1, j', true, rfl, by omega, fun _ => rfl, rfl⟩, [some 0, some 1, some 2], ⟨rfl, rfl, ?_, ?_⟩⟩
      · simp only [XX, Nat.reduceBEq, Nat.reduceLT, Nat.reduceAdd, Nat.reduceMul, Nat.reduceSub, Nat.reduceLeDiff, Nat.reduceEqDiff, Int.reduceToNat, Int.reduceLT, Int.reduceLE, Int.reduceAdd, Int.reduceSub, Int.reduceEq, reduceIte, Nat.reduceBNe, Int.reducePow, Nat.reducePow, Int.reduceMul, Int.reduceNeg, isB_i, isB_b, isB_y, isBv_i, isBv_b, eqCells_t, TT, dsN_ids, dsN_ren]
      · simp only [XX, Nat.reduceBEq, Nat.reduceLT, Nat.reduceAdd, Nat.reduceMul, Nat.reduceSub, Nat.reduceLeDiff, Nat.reduceEqDiff, Int.reduceToNat, Int.reduceLT, Int.reduceLE, Int.reduceAdd, Int.reduceSub, Int.reduceEq, reduceIte, Nat.reduceBNe, Int.reducePow, Nat.reducePow, Int.reduceMul, Int.reduceNeg, isB_i, isB_b, isB_y, isBv_i, isBv_b, eqCells_t, TT]
    · have hd : decide ((p : Int) < (m : Int)) = false := by simp only [decide_eq_false_iff_not]; omega
      obtain rfl : p = m := by omega
      obtain rfl := ho (by omega)
      simp (maxSteps := 4000000) only [Try.results9, hd, XX, Nat.reduceBEq, Nat.reduceLT, Nat.reduceAdd, Nat.reduceMul, Nat.reduceSub, Nat.reduceLeDiff, Nat.reduceEqDiff, Int.reduceToNat, Int.reduceLT, Int.reduceLE, Int.reduceAdd, Int.reduceSub, Int.reduceEq, reduceIte, Nat.reduceBNe, Int.reducePow, Nat.reducePow, Int.reduceMul, Int.reduceNeg, isB_i, isB_b, isB_y, isBv_i, isBv_b, eqCells_t, TT]
      exact ⟨j, q, rfl⟩

theorem cardMakes_walk : ∀ css, RTyL (RTy T reachBytes DEPTH) [3, 3] css → Spec Try.prog 4 (svs T [3, 3] css) [] fun r _ => r = .c (.v (.bool true)) := by
  intro css h
  obtain ⟨x1, xs1, rfl, h1, g1⟩ := RTyL_cons h
  obtain ⟨x2, xs2, rfl, h2, g2⟩ := RTyL_cons g1
  obtain rfl := RTyL_nil g2
  obtain ⟨n, rfl, hn⟩ := RTy_int T_3 h1
  obtain ⟨m, rfl, hm⟩ := RTy_int T_3 h2
  have e1 : ∀ a : Int, svOf T 3 [.v (.int .i64 a)] = .c (i64 a) := fun _ => rfl
  simp only [svs, e1]
  clear h1 h2 g1 g2 h
  by_cases hb : n < 1 ∨ 64 < n ∨ m < 1 ∨ 64 < m
  · refine spec_of_X cx_ok Try.func4 rfl (by kernel_rfl) (by kernel_rfl) (Nat.le_of_ble_eq_true rfl) 400 11 ?_
    simp (maxSteps := 4000000) only [Try.results4, XX, Nat.reduceBEq, Nat.reduceLT, Nat.reduceAdd, Nat.reduceMul, Nat.reduceSub, Nat.reduceLeDiff, Nat.reduceEqDiff, Int.reduceToNat, Int.reduceLT, Int.reduceLE, Int.reduceAdd, Int.reduceSub, Int.reduceEq, reduceIte, Nat.reduceBNe, Int.reducePow, Nat.reducePow, Int.reduceMul, Int.reduceNeg, isB_i, isB_b, isB_y, isBv_i, isBv_b, eqCells_t, TT]
    refine call_plain (live_spec) rfl ?_
    rintro _ rfl
    simp (maxSteps := 4000000) only [Try.results4, XX, Nat.reduceBEq, Nat.reduceLT, Nat.reduceAdd, Nat.reduceMul, Nat.reduceSub, Nat.reduceLeDiff, Nat.reduceEqDiff, Int.reduceToNat, Int.reduceLT, Int.reduceLE, Int.reduceAdd, Int.reduceSub, Int.reduceEq, reduceIte, Nat.reduceBNe, Int.reducePow, Nat.reducePow, Int.reduceMul, Int.reduceNeg, isB_i, isB_b, isB_y, isBv_i, isBv_b, eqCells_t, TT]
    refine call_plain (newN_spec n m hb) rfl ?_
    rintro _ rfl
    simp (maxSteps := 4000000) only [Try.results4, XX, Nat.reduceBEq, Nat.reduceLT, Nat.reduceAdd, Nat.reduceMul, Nat.reduceSub, Nat.reduceLeDiff, Nat.reduceEqDiff, Int.reduceToNat, Int.reduceLT, Int.reduceLE, Int.reduceAdd, Int.reduceSub, Int.reduceEq, reduceIte, Nat.reduceBNe, Int.reducePow, Nat.reducePow, Int.reduceMul, Int.reduceNeg, isB_i, isB_b, isB_y, isBv_i, isBv_b, eqCells_t, TT]
    refine call_plain (rnewN_spec n m hb) rfl ?_
    rintro _ rfl
    simp (maxSteps := 4000000) only [Try.results4, XX, Nat.reduceBEq, Nat.reduceLT, Nat.reduceAdd, Nat.reduceMul, Nat.reduceSub, Nat.reduceLeDiff, Nat.reduceEqDiff, Int.reduceToNat, Int.reduceLT, Int.reduceLE, Int.reduceAdd, Int.reduceSub, Int.reduceEq, reduceIte, Nat.reduceBNe, Int.reducePow, Nat.reducePow, Int.reduceMul, Int.reduceNeg, isB_i, isB_b, isB_y, isBv_i, isBv_b, eqCells_t, TT]
  · obtain ⟨n, rfl⟩ : ∃ k : Nat, n = k := ⟨n.toNat, by omega⟩
    obtain ⟨m, rfl⟩ : ∃ k : Nat, m = k := ⟨m.toNat, by omega⟩
    have hN := new_spec n m (by omega) (by omega) (by omega) (by omega)
    have hR := rnew_spec n m (by omega) (by omega) (by omega) (by omega)
    have hg := rings_spec (newK n m)
    have hc := counts_spec (newK n m)
    simp only [List.length_replicate] at hg
    refine spec_of_X cx_ok Try.func4 rfl (by kernel_rfl) (by kernel_rfl) (Nat.le_of_ble_eq_true rfl) 400 11 ?_
    simp (maxSteps := 4000000) only [Try.results4, XX, Nat.reduceBEq, Nat.reduceLT, Nat.reduceAdd, Nat.reduceMul, Nat.reduceSub, Nat.reduceLeDiff, Nat.reduceEqDiff, Int.reduceToNat, Int.reduceLT, Int.reduceLE, Int.reduceAdd, Int.reduceSub, Int.reduceEq, reduceIte, Nat.reduceBNe, Int.reducePow, Nat.reducePow, Int.reduceMul, Int.reduceNeg, isB_i, isB_b, isB_y, isBv_i, isBv_b, eqCells_t, TT]
    refine call_plain (live_spec) rfl ?_
    rintro _ rfl
    simp (maxSteps := 4000000) only [Try.results4, XX, Nat.reduceBEq, Nat.reduceLT, Nat.reduceAdd, Nat.reduceMul, Nat.reduceSub, Nat.reduceLeDiff, Nat.reduceEqDiff, Int.reduceToNat, Int.reduceLT, Int.reduceLE, Int.reduceAdd, Int.reduceSub, Int.reduceEq, reduceIte, Nat.reduceBNe, Int.reducePow, Nat.reducePow, Int.reduceMul, Int.reduceNeg, isB_i, isB_b, isB_y, isBv_i, isBv_b, eqCells_t, TT]
    refine call_frame hN [] rfl rfl trivial rfl rfl ?_
    rintro _ _ ⟨rfl, rfl⟩
    simp (maxSteps := 4000000) only [Try.results4, ids_bsC, ren_bsC, noRo_bsC, plain_bsC, lt_bsC, ids_byte, ren_byte, noRo_byte, plain_byte, lt_byte, slC_ren, List.length_replicate, XX, Nat.reduceBEq, Nat.reduceLT, Nat.reduceAdd, Nat.reduceMul, Nat.reduceSub, Nat.reduceLeDiff, Nat.reduceEqDiff, Int.reduceToNat, Int.reduceLT, Int.reduceLE, Int.reduceAdd, Int.reduceSub, Int.reduceEq, reduceIte, Nat.reduceBNe, Int.reducePow, Nat.reducePow, Int.reduceMul, Int.reduceNeg, isB_i, isB_b, isB_y, isBv_i, isBv_b, eqCells_t, TT]
    refine call_frame hR [] rfl rfl trivial rfl rfl ?_
    rintro _ _ ⟨j1, j2, rfl, rfl⟩
    simp (maxSteps := 4000000) only [Try.results4, ids_bsC, ren_bsC, noRo_bsC, plain_bsC, lt_bsC, ids_byte, ren_byte, noRo_byte, plain_byte, lt_byte, dsN_ren, XX, Nat.reduceBEq, Nat.reduceLT, Nat.reduceAdd, Nat.reduceMul, Nat.reduceSub, Nat.reduceLeDiff, Nat.reduceEqDiff, Int.reduceToNat, Int.reduceLT, Int.reduceLE, Int.reduceAdd, Int.reduceSub, Int.reduceEq, reduceIte, Nat.reduceBNe, Int.reducePow, Nat.reducePow, Int.reduceMul, Int.reduceNeg, isB_i, isB_b, isB_y, isBv_i, isBv_b, eqCells_t, TT]
    refine call_frame hg [0, 1, 2] rfl rfl ?_ rfl (card_lt _) ?_
    · simp only [XX, Nat.reduceBEq, Nat.reduceLT, Nat.reduceAdd, Nat.reduceMul, Nat.reduceSub, Nat.reduceLeDiff, Nat.reduceEqDiff, Int.reduceToNat, Int.reduceLT, Int.reduceLE, Int.reduceAdd, Int.reduceSub, Int.reduceEq, reduceIte, Nat.reduceBNe, Int.reducePow, Nat.reducePow, Int.reduceMul, Int.reduceNeg, isB_i, isB_b, isB_y, isBv_i, isBv_b, eqCells_t, TT, preOk, ids_bsC, ren_bsC, noRo_bsC, plain_bsC, lt_bsC, ids_byte, ren_byte, noRo_byte, plain_byte, lt_byte, slC_ren, List.length_replicate]
    rintro _ _ ⟨rfl, rfl⟩
    simp (maxSteps := 4000000) only [Try.results4, ids_bsC, ren_bsC, noRo_bsC, plain_bsC, lt_bsC, ids_byte, ren_byte, noRo_byte, plain_byte, lt_byte, slC_ren, List.length_replicate, XX, Nat.reduceBEq, Nat.reduceLT, Nat.reduceAdd, Nat.reduceMul, Nat.reduceSub, Nat.reduceLeDiff, Nat.reduceEqDiff, Int.reduceToNat, Int.reduceLT, Int.reduceLE, Int.reduceAdd, Int.reduceSub, Int.reduceEq, reduceIte, Nat.reduceBNe, Int.reducePow, Nat.reducePow, Int.reduceMul, Int.reduceNeg, isB_i, isB_b, isB_y, isBv_i, isBv_b, eqCells_t, TT]
    refine call_frame hc [0, 1, 2] rfl rfl ?_ rfl (card_lt _) ?_
    · simp only [XX, Nat.reduceBEq, Nat.reduceLT, Nat.reduceAdd, Nat.reduceMul, Nat.reduceSub, Nat.reduceLeDiff, Nat.reduceEqDiff, Int.reduceToNat, Int.reduceLT, Int.reduceLE, Int.reduceAdd, Int.reduceSub, Int.reduceEq, reduceIte, Nat.reduceBNe, Int.reducePow, Nat.reducePow, Int.reduceMul, Int.reduceNeg, isB_i, isB_b, isB_y, isBv_i, isBv_b, eqCells_t, TT, preOk, ids_bsC, ren_bsC, noRo_bsC, plain_bsC, lt_bsC, ids_byte, ren_byte, noRo_byte, plain_byte, lt_byte, slC_ren, List.length_replicate]
    rintro _ _ ⟨rfl, rfl⟩
    simp (maxSteps := 4000000) only [Try.results4, ids_bsC, ren_bsC, noRo_bsC, plain_bsC, lt_bsC, ids_byte, ren_byte, noRo_byte, plain_byte, lt_byte, slC_ren, List.length_replicate, XX, Nat.reduceBEq, Nat.reduceLT, Nat.reduceAdd, Nat.reduceMul, Nat.reduceSub, Nat.reduceLeDiff, Nat.reduceEqDiff, Int.reduceToNat, Int.reduceLT, Int.reduceLE, Int.reduceAdd, Int.reduceSub, Int.reduceEq, reduceIte, Nat.reduceBNe, Int.reducePow, Nat.reducePow, Int.reduceMul, Int.reduceNeg, isB_i, isB_b, isB_y, isBv_i, isBv_b, eqCells_t, TT]

end Go.Proofs.Ytdfhmpheepobnaa.Sx
