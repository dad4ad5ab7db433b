/- The symbolic executor, at work: a card's calls, each by one contract. No condition. -/
import Derived.Test.YtdfhmpheepobnaaC4j
namespace Go.Proofs.Ytdfhmpheepobnaa.Sx
open Go
set_option linter.unusedSimpArgs false
set_option linter.unusedVariables false
set_option maxRecDepth 10000
set_option maxHeartbeats 2000000

abbrev noSl : Sl := ⟨false, [], []⟩
/-- What a slot shows: whose it is, its bytes, the error. -/
def seeS (l : List Sl) (i : Int) : Bool := if 0 ≤ i ∧ i < (l.length : Int) then (l.getD i.toNat noSl).own else false
def seeD (l : List Sl) (i : Int) : List UInt8 := if 0 ≤ i ∧ i < (l.length : Int) then (l.getD i.toNat noSl).d else []
def seeE (l : List Sl) (i : Int) : Int := if 0 ≤ i ∧ i < (l.length : Int) then 0 else 40
def resD (k : CK) (b : Bool) (d : List UInt8) (e : Int) (t : SV) (h' : List SB) : Prop := ∃ o, t = .tup [(true, [bC b, .sl 3 0 d.length d.length]), (false, [i64 e])] ∧ h' = k.h ++ [wB o d] ∧ (0 < d.length → o = true)
theorem resD_noRo {k : CK} {b : Bool} {d : List UInt8} {e : Int} {t : SV} {h' : List SB} (h : resD k b d e t h') : t.noRo = true ∧ (h'.all fun b => b.cells.all SC.noRo) = true := by
  obtain ⟨o, rfl, rfl, _⟩ := h
  exact ⟨rfl, by simp only [XX, Nat.reduceBEq, Nat.reduceLT, Nat.reduceAdd, Nat.reduceMul, Nat.reduceSub, Nat.reduceLeDiff, Nat.reduceEqDiff, Int.reduceToNat, Int.reduceLT, Int.reduceLE, Int.reduceAdd, Int.reduceSub, Int.reduceEq, reduceIte, Nat.reduceBNe, Int.reducePow, Nat.reducePow, Int.reduceMul, Int.reduceNeg, isB_i, isB_b, isB_y, isBv_i, isBv_b, eqCells_t, TT, ids_bsC, ren_bsC, noRo_bsC, plain_bsC, lt_bsC, ids_byte, ren_byte, noRo_byte, plain_byte, lt_byte, slC_noRo]⟩
theorem at_of {l : List Sl} {i : Int} (h : 0 ≤ i ∧ i < (l.length : Int)) : ∃ j : Nat, i = j ∧ l[j]? = some (l.getD j noSl) := by
  refine ⟨i.toNat, by omega, ?_⟩
  rw [List.getD_eq_getElem?_getD, List.getElem?_eq_getElem (by omega)]
  rfl
theorem rxA_spec (k : CK) (ok : k.ok) (i : Int) : Spec cx.P 13 [.c (.ptr 0 0), .c (i64 i)] k.h (resD k (seeS k.rx i) (seeD k.rx i) (seeE k.rx i)) := by
  unfold seeS seeD seeE
  by_cases h : 0 ≤ i ∧ i < (k.rx.length : Int)
  · rw [if_pos h, if_pos h, if_pos h]
    obtain ⟨j, rfl, hj⟩ := at_of h
    rw [Int.toNat_natCast]
    exact (rx_spec k ok j _ hj).mono fun t h' ⟨h1, h2⟩ => ⟨true, h1, h2, fun _ => rfl⟩
  · rw [if_neg h, if_neg h, if_neg h]
    refine (rxN_spec k i (by omega)).wk fun t h' ⟨h1, h2⟩ => ⟨.tup [(true, [bC false, .sl 3 0 0 0]), (false, [i64 40])], k.h ++ [wB false []], [some 0, some 1, some 2, none], rfl, ?_, ?_, false, rfl, rfl, fun h => absurd h (by simp)⟩
    · subst h2
      simp only [XX, Nat.reduceBEq, Nat.reduceLT, Nat.reduceAdd, Nat.reduceMul, Nat.reduceSub, Nat.reduceLeDiff, Nat.reduceEqDiff, Int.reduceToNat, Int.reduceLT, Int.reduceLE, Int.reduceAdd, Int.reduceSub, Int.reduceEq, reduceIte, Nat.reduceBNe, Int.reducePow, Nat.reducePow, Int.reduceMul, Int.reduceNeg, isB_i, isB_b, isB_y, isBv_i, isBv_b, eqCells_t, TT, ids_bsC, ren_bsC, noRo_bsC, plain_bsC, lt_bsC, ids_byte, ren_byte, noRo_byte, plain_byte, lt_byte, slC_ren, List.map_nil]
      exact ⟨.inl (slC_ids _ _), .inl (slC_ids _ _)⟩
    · subst h1
      exact .inr ⟨rfl, ⟨.inl ⟨rfl, rfl⟩, .inr (.inr ⟨_, _, rfl, .inl rfl⟩), trivial⟩, rfl, ⟨.inl ⟨rfl, rfl⟩, trivial⟩, trivial⟩
theorem txA_spec (k : CK) (ok : k.ok) (i : Int) : Spec cx.P 33 [.c (.ptr 0 0), .c (i64 i)] k.h (resD k (seeS k.tx i) (seeD k.tx i) (seeE k.tx i)) := by
  unfold seeS seeD seeE
  by_cases h : 0 ≤ i ∧ i < (k.tx.length : Int)
  · rw [if_pos h, if_pos h, if_pos h]
    obtain ⟨j, rfl, hj⟩ := at_of h
    rw [Int.toNat_natCast]
    exact (tx_spec k ok j _ hj).mono fun t h' ⟨h1, h2⟩ => ⟨true, h1, h2, fun _ => rfl⟩
  · rw [if_neg h, if_neg h, if_neg h]
    refine (txN_spec k i (by omega)).wk fun t h' ⟨h1, h2⟩ => ⟨.tup [(true, [bC false, .sl 3 0 0 0]), (false, [i64 40])], k.h ++ [wB false []], [some 0, some 1, some 2, none], rfl, ?_, ?_, false, rfl, rfl, fun h => absurd h (by simp)⟩
    · subst h2
      simp only [XX, Nat.reduceBEq, Nat.reduceLT, Nat.reduceAdd, Nat.reduceMul, Nat.reduceSub, Nat.reduceLeDiff, Nat.reduceEqDiff, Int.reduceToNat, Int.reduceLT, Int.reduceLE, Int.reduceAdd, Int.reduceSub, Int.reduceEq, reduceIte, Nat.reduceBNe, Int.reducePow, Nat.reducePow, Int.reduceMul, Int.reduceNeg, isB_i, isB_b, isB_y, isBv_i, isBv_b, eqCells_t, TT, ids_bsC, ren_bsC, noRo_bsC, plain_bsC, lt_bsC, ids_byte, ren_byte, noRo_byte, plain_byte, lt_byte, slC_ren, List.map_nil]
      exact ⟨.inl (slC_ids _ _), .inl (slC_ids _ _)⟩
    · subst h1
      exact .inr ⟨rfl, ⟨.inl ⟨rfl, rfl⟩, .inr (.inr ⟨_, _, rfl, .inl rfl⟩), trivial⟩, rfl, ⟨.inl ⟨rfl, rfl⟩, trivial⟩, trivial⟩

/-- A frame comes. -/
def arrB (k : CK) (b : List UInt8) : Bool := if b.length = 0 ∨ 1514 < b.length then false else (k.rx.getD k.rn noSl).own
def arrK (k : CK) (b : List UInt8) : CK := if b.length = 0 ∨ 1514 < b.length then k else
  if (k.rx.getD k.rn noSl).own then { k with rx := k.rx.set k.rn ⟨false, b, ((k.rx.getD k.rn noSl).d ++ (k.rx.getD k.rn noSl).j).drop b.length⟩, rn := (k.rn + 1) % k.rx.length, cin := IntKind.i64.wrap (k.cin + 1) } else { k with cdr := IntKind.i64.wrap (k.cdr + 1) }
theorem getS {l : List Sl} {i : Nat} (h : i < l.length) : l[i]? = some (l.getD i noSl) := by
  rw [List.getD_eq_getElem?_getD, List.getElem?_eq_getElem h]
  rfl
theorem arriveA_spec (k : CK) (ok : k.ok) (b sp : List UInt8) (c : Nat) : Spec cx.P 12 [.c (.ptr 0 0), .c (roB b sp c)] k.h fun t h' => t = .c (bC (arrB k b)) ∧ h' = (arrK k b).h := by
  unfold arrB arrK
  by_cases h : b.length = 0 ∨ 1514 < b.length
  · rw [if_pos h, if_pos h]
    exact arriveB_spec k b sp c h
  · rw [if_neg h, if_neg h]
    have hs := getS ok.rn
    cases ho : (k.rx.getD k.rn noSl).own
    · exact arriveF_spec k ok _ hs ho b sp c (by omega) (by omega)
    · exact arrive_spec k ok _ hs ho b sp c (by omega) (by omega)
theorem arrK_ok (k : CK) (ok : k.ok) (b : List UInt8) : (arrK k b).ok := by
  unfold arrK
  split
  · exact ok
  split
  · exact ⟨by simpa using ok.rx0, by simpa using ok.rx1, ok.tx0, ok.tx1, by simp; exact Nat.mod_lt _ ok.rx0, ok.tn, set_ok ok.rs (ok.rs _ (List.mem_of_getElem? (getS ok.rn))) (by omega), ok.ts⟩
  · exact ⟨ok.1, ok.2, ok.3, ok.4, ok.5, ok.6, ok.7, ok.8⟩

/-- A frame goes. -/
def depB (k : CK) : Bool := (k.tx.getD k.tn noSl).own
def depD (k : CK) : List UInt8 := if (k.tx.getD k.tn noSl).own then (k.tx.getD k.tn noSl).d else []
def depK (k : CK) : CK := if (k.tx.getD k.tn noSl).own then { k with tx := k.tx.set k.tn ⟨false, [], (k.tx.getD k.tn noSl).d ++ (k.tx.getD k.tn noSl).j⟩, tn := (k.tn + 1) % k.tx.length, cout := IntKind.i64.wrap (k.cout + 1) } else k
def resO (k : CK) (d : List UInt8) (b : Bool) (t : SV) (h' : List SB) : Prop := ∃ o, t = .tup [(false, [.sl 3 0 d.length d.length]), (false, [bC b])] ∧ h' = k.h ++ [wB o d] ∧ (0 < d.length → o = true)
theorem resO_noRo {k : CK} {b : Bool} {d : List UInt8} {t : SV} {h' : List SB} (h : resO k d b t h') : t.noRo = true ∧ (h'.all fun b => b.cells.all SC.noRo) = true := by
  obtain ⟨o, rfl, rfl, _⟩ := h
  exact ⟨rfl, by simp only [XX, Nat.reduceBEq, Nat.reduceLT, Nat.reduceAdd, Nat.reduceMul, Nat.reduceSub, Nat.reduceLeDiff, Nat.reduceEqDiff, Int.reduceToNat, Int.reduceLT, Int.reduceLE, Int.reduceAdd, Int.reduceSub, Int.reduceEq, reduceIte, Nat.reduceBNe, Int.reducePow, Nat.reducePow, Int.reduceMul, Int.reduceNeg, isB_i, isB_b, isB_y, isBv_i, isBv_b, eqCells_t, TT, ids_bsC, ren_bsC, noRo_bsC, plain_bsC, lt_bsC, ids_byte, ren_byte, noRo_byte, plain_byte, lt_byte, slC_noRo]⟩
theorem departA_spec (k : CK) (ok : k.ok) : Spec cx.P 16 [.c (.ptr 0 0)] k.h (resO (depK k) (depD k) (depB k)) := by
  unfold depK depD depB
  have hs := getS ok.tn
  cases ho : (k.tx.getD k.tn noSl).own
  · refine (departN_spec k ok _ hs ho).wk fun t h' ⟨h1, h2⟩ => ⟨.tup [(false, [.sl 3 0 0 0]), (false, [bC false])], k.h ++ [wB false []], [some 0, some 1, some 2, none], rfl, ?_, ?_, false, rfl, rfl, fun h => absurd h (by simp)⟩
    · subst h2
      simp only [XX, Nat.reduceBEq, Nat.reduceLT, Nat.reduceAdd, Nat.reduceMul, Nat.reduceSub, Nat.reduceLeDiff, Nat.reduceEqDiff, Int.reduceToNat, Int.reduceLT, Int.reduceLE, Int.reduceAdd, Int.reduceSub, Int.reduceEq, reduceIte, Nat.reduceBNe, Int.reducePow, Nat.reducePow, Int.reduceMul, Int.reduceNeg, isB_i, isB_b, isB_y, isBv_i, isBv_b, eqCells_t, TT, ids_bsC, ren_bsC, noRo_bsC, plain_bsC, lt_bsC, ids_byte, ren_byte, noRo_byte, plain_byte, lt_byte, slC_ren, List.map_nil]
      exact ⟨.inl (slC_ids _ _), .inl (slC_ids _ _)⟩
    · subst h1
      exact .inr ⟨rfl, ⟨.inr (.inr ⟨_, _, rfl, .inl rfl⟩), trivial⟩, rfl, ⟨.inl ⟨rfl, rfl⟩, trivial⟩, trivial⟩
  · exact (depart_spec k ok _ hs ho).mono fun t h' ⟨h1, h2⟩ => ⟨true, h1, h2, fun _ => rfl⟩
theorem depK_ok (k : CK) (ok : k.ok) : (depK k).ok := by
  unfold depK
  split
  · exact ⟨ok.rx0, ok.rx1, by simpa using ok.tx0, by simpa using ok.tx1, ok.rn, by simp; exact Nat.mod_lt _ ok.tx0, ok.rs, set_ok (b := []) ok.ts (ok.ts _ (List.mem_of_getElem? (getS ok.tn))) (by simp)⟩
  · exact ok

/-- A slot is given back. -/
def givE (k : CK) (i : Int) : Int := if 0 ≤ i ∧ i < (k.rx.length : Int) then (if (k.rx.getD i.toNat noSl).own then 41 else 0) else 40
def givK (k : CK) (i : Int) : CK := if 0 ≤ i ∧ i < (k.rx.length : Int) then (if (k.rx.getD i.toNat noSl).own then k else { k with rx := k.rx.set i.toNat ⟨true, [], (k.rx.getD i.toNat noSl).d ++ (k.rx.getD i.toNat noSl).j⟩ }) else k
theorem giveA_spec (k : CK) (ok : k.ok) (i : Int) : Spec cx.P 14 [.c (.ptr 0 0), .c (i64 i)] k.h fun t h' => t = .c (i64 (givE k i)) ∧ h' = (givK k i).h := by
  unfold givE givK
  by_cases h : 0 ≤ i ∧ i < (k.rx.length : Int)
  · rw [if_pos h, if_pos h]
    obtain ⟨j, rfl, hj⟩ := at_of h
    rw [Int.toNat_natCast]
    cases ho : (k.rx.getD j noSl).own
    · exact give_spec k ok j _ hj ho
    · exact giveO_spec k ok j _ hj ho
  · rw [if_neg h, if_neg h]
    exact giveN_spec k i (by omega)
theorem givK_ok (k : CK) (ok : k.ok) (i : Int) : (givK k i).ok := by
  unfold givK
  split
  · next h =>
    split
    · exact ok
    · exact ⟨by simpa using ok.rx0, by simpa using ok.rx1, ok.tx0, ok.tx1, by simpa using ok.rn, ok.tn, set_ok (b := []) ok.rs (ok.rs _ (List.mem_of_getElem? (getS (by omega)))) (by simp), ok.ts⟩
  · exact ok

/-- A frame is laid. -/
def layE (k : CK) (i : Int) (b : List UInt8) : Int := if 0 ≤ i ∧ i < (k.tx.length : Int) then (if b.length < 60 then 5 else if 1514 < b.length then 2 else if (k.tx.getD i.toNat noSl).own then 41 else 0) else 40
def layK (k : CK) (i : Int) (b : List UInt8) : CK := if 0 ≤ i ∧ i < (k.tx.length : Int) then (if b.length < 60 then k else if 1514 < b.length then k else if (k.tx.getD i.toNat noSl).own then k else { k with tx := k.tx.set i.toNat ⟨true, b, ((k.tx.getD i.toNat noSl).d ++ (k.tx.getD i.toNat noSl).j).drop b.length⟩ }) else k
theorem layA_spec (k : CK) (ok : k.ok) (i : Int) (b sp : List UInt8) (c : Nat) : Spec cx.P 15 [.c (.ptr 0 0), .c (i64 i), .c (roB b sp c)] k.h fun t h' => t = .c (i64 (layE k i b)) ∧ h' = (layK k i b).h := by
  unfold layE layK
  by_cases h : 0 ≤ i ∧ i < (k.tx.length : Int)
  · rw [if_pos h, if_pos h]
    obtain ⟨j, rfl, hj⟩ := at_of h
    rw [Int.toNat_natCast]
    by_cases h1 : b.length < 60
    · rw [if_pos h1, if_pos h1]
      exact layE_spec k ok j _ hj b sp c 5 (.inl ⟨h1, rfl⟩)
    rw [if_neg h1, if_neg h1]
    by_cases h2 : 1514 < b.length
    · rw [if_pos h2, if_pos h2]
      exact layE_spec k ok j _ hj b sp c 2 (.inr (.inl ⟨h2, rfl⟩))
    rw [if_neg h2, if_neg h2]
    cases ho : (k.tx.getD j noSl).own
    · exact lay_spec k ok j _ hj b sp c (by omega) (by omega) ho
    · exact layE_spec k ok j _ hj b sp c 41 (.inr (.inr ⟨by omega, by omega, ho, rfl⟩))
  · rw [if_neg h, if_neg h]
    exact layN_spec k i _ (by omega)
theorem layK_ok (k : CK) (ok : k.ok) (i : Int) (b : List UInt8) : (layK k i b).ok := by
  unfold layK
  repeat' split
  all_goals first | exact ok | skip
  next h h1 h2 h3 =>
    refine ⟨ok.rx0, ok.rx1, by simpa using ok.tx0, by simpa using ok.tx1, ok.rn, by simpa using ok.tn, ok.rs, ?_⟩
    intro x hx
    rcases List.mem_or_eq_of_mem_set hx with hx | rfl
    · exact ok.ts x hx
    · have := ok.ts _ (List.mem_of_getElem? (getS (l := k.tx) (i := i.toNat) (by omega)))
      unfold Sl.ok at this ⊢
      simp only [List.length_drop, List.length_append]
      omega

end Go.Proofs.Ytdfhmpheepobnaa.Sx
