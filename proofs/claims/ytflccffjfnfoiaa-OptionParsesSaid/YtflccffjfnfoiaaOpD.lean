/- The symbolic executor, at work: options as bytes, by the code. No condition. -/
import Derived.Test.YtflccffjfnfoiaaOpC
namespace Go.Proofs.Ytflccffjfnfoiaa.Sx
open Go
set_option linter.unusedSimpArgs false
set_option linter.unusedVariables false
set_option maxRecDepth 10000
set_option maxHeartbeats 4000000

abbrev seenB (s : Nat → Bool) : SB := ⟨true, 68, seenC s⟩

theorem pieces_spec (d sp : List UInt8) (c : Nat) : Spec cx.P 38 [.c (roB d sp c)] [] fun t h' => t = .c (.fn 50 [(0, 0)]) ∧ h' = [boxB d sp c 0] := by
  have e0 : (#[] : Array Operand).size = 0 := rfl
  refine spec_of_X cx_ok Try.func38 rfl (by kernel_rfl) (by kernel_rfl) (Nat.le_of_ble_eq_true rfl) 400 3 ?_
  simp (maxSteps := 4000000) only [Try.results38, XX, Nat.reduceBEq, Nat.reduceLT, Nat.reduceAdd, Nat.reduceMul, Nat.reduceSub, Nat.reduceLeDiff, Nat.reduceEqDiff, Int.reduceToNat, Int.reduceLT, Int.reduceLE, Int.reduceAdd, Int.reduceSub, Int.reduceEq, reduceIte, Nat.reduceBNe, Int.reducePow, Nat.reducePow, Int.reduceMul, Int.reduceNeg, isB_i, isB_b, isB_y, isBv_i, isBv_b, eqCells_t, TT]
  simp (maxSteps := 4000000) only [Try.results38, e0, XX, Nat.reduceBEq, Nat.reduceLT, Nat.reduceAdd, Nat.reduceMul, Nat.reduceSub, Nat.reduceLeDiff, Nat.reduceEqDiff, Int.reduceToNat, Int.reduceLT, Int.reduceLE, Int.reduceAdd, Int.reduceSub, Int.reduceEq, reduceIte, Nat.reduceBNe, Int.reducePow, Nat.reducePow, Int.reduceMul, Int.reduceNeg, isB_i, isB_b, isB_y, isBv_i, isBv_b, eqCells_t, TT]
  unfold boxB boxC
  rfl

theorem resBN_of {P : Program} {f : FuncId} {args : List SV} {l : List UInt8} {e : Int} (s : Spec P f args [] fun s h' => (∃ w sp o, s = .tup [(false, [slB w l sp]), (false, [i64 e])] ∧ Buf h' w o l sp) ∨ (l = [] ∧ s = .tup [(false, [.v (.slice none 0 0)]), (false, [i64 e])])) : Spec P f args [] (resB l e) :=
  s.wk fun t h' h => h.elim (fun ⟨w, sp, o, h1, B⟩ => ⟨.tup [(false, [slB 0 l sp]), (false, [i64 e])], [wB o (l ++ sp)], [some w], rfl, by simp only [XX, Nat.reduceBEq, Nat.reduceLT, Nat.reduceAdd, Nat.reduceMul, Nat.reduceSub, Nat.reduceLeDiff, Nat.reduceEqDiff, Int.reduceToNat, Int.reduceLT, Int.reduceLE, Int.reduceAdd, Int.reduceSub, Int.reduceEq, reduceIte, Nat.reduceBNe, Int.reducePow, Nat.reducePow, Int.reduceMul, Int.reduceNeg, isB_i, isB_b, isB_y, isBv_i, isBv_b, eqCells_t, TT, ids_bsC, ren_bsC, noRo_bsC, plain_bsC, lt_bsC, ids_byte, ren_byte, noRo_byte, plain_byte, lt_byte, B.at_], by subst h1; simp only [XX, Nat.reduceBEq, Nat.reduceLT, Nat.reduceAdd, Nat.reduceMul, Nat.reduceSub, Nat.reduceLeDiff, Nat.reduceEqDiff, Int.reduceToNat, Int.reduceLT, Int.reduceLE, Int.reduceAdd, Int.reduceSub, Int.reduceEq, reduceIte, Nat.reduceBNe, Int.reducePow, Nat.reducePow, Int.reduceMul, Int.reduceNeg, isB_i, isB_b, isB_y, isBv_i, isBv_b, eqCells_t, TT, ids_bsC, ren_bsC, noRo_bsC, plain_bsC, lt_bsC, ids_byte, ren_byte, noRo_byte, plain_byte, lt_byte], sp, o, rfl, rfl, B.own⟩)
    fun ⟨h0, h1⟩ => ⟨.tup [(false, [slB 0 [] []]), (false, [i64 e])], [wB false ([] ++ [])], [none], rfl, by simp only [XX, Nat.reduceBEq, Nat.reduceLT, Nat.reduceAdd, Nat.reduceMul, Nat.reduceSub, Nat.reduceLeDiff, Nat.reduceEqDiff, Int.reduceToNat, Int.reduceLT, Int.reduceLE, Int.reduceAdd, Int.reduceSub, Int.reduceEq, reduceIte, Nat.reduceBNe, Int.reducePow, Nat.reducePow, Int.reduceMul, Int.reduceNeg, isB_i, isB_b, isB_y, isBv_i, isBv_b, eqCells_t, TT, List.map_nil], by subst h1; exact .inr ⟨rfl, ⟨.inr (.inr ⟨_, _, rfl, .inl rfl⟩), trivial⟩, rfl, ⟨.inl ⟨rfl, rfl⟩, trivial⟩, trivial⟩, [], false, by rw [h0], by rw [h0], fun h => absurd h (by simp [h0])⟩
theorem packF_bad {xs : List OI} {room : Int} (h : Bad xs) : packF xs room = ([], 150) := by unfold packF; rw [if_pos h]
theorem packF_many {xs : List OI} {room : Int} (h : ¬ Bad xs) (h1 : 64 < xs.length) : packF xs room = ([], 2) := by unfold packF; rw [if_neg h, if_pos h1]
theorem packF_long {xs : List OI} {room : Int} (h : ¬ Bad xs) (h1 : ¬ 64 < xs.length) (h2 : room < 1 + (szO xs : Int)) : packF xs room = ([], 2) := by unfold packF; rw [if_neg h, if_neg h1, if_pos h2]
theorem packF_ok {xs : List OI} {room : Int} (h : ¬ Bad xs) (h1 : ¬ 64 < xs.length) (h2 : ¬ room < 1 + (szO xs : Int)) : packF xs room = (encAll xs ++ [255], 0) := by unfold packF; rw [if_neg h, if_neg h1, if_neg h2]
theorem pickE_any {p q r : Prop} {t : Bool} {x : SV} : pickE (some (p, .c (.v (.bool t)))) (some (q, x)) (some (r, .c .any)) = .val (p ∧ t = true ∧ q) x := by
  cases x with
  | c y => cases y with
    | v z => cases z <;> rfl
    | _ => rfl
  | _ => rfl
theorem getD_false {b : Bool} {y : SC} (h : y = bC b) : y = SC.v (.bool b) := h

abbrev bufB (S : Nat) (l : List UInt8) : SB := wB true (l ++ List.replicate (S - l.length) 0)
abbrev lenB (S n : Nat) : SB := ⟨true, 25, [.sl 0 0 n S]⟩
theorem boxB_ren {r : Nat → Nat} {d sp : List UInt8} {c j : Nat} : (boxB d sp c j).ren r = boxB d sp c j := rfl
theorem range_sub {P : Program} {f : Operand} {ps : Array Tmp} {asg body : Code} {k : List KI} {σ τ : St} {Q : XE → St → Prop} (h : Sub σ τ) (g : RangeGoal P f ps asg body k τ Q) : RangeGoal P f ps asg body k σ Q := fun e a w c hk S => g e a w c hk (S.sub h)
theorem buf_room {S : Nat} {l news : List UInt8} {n m : Nat} (hn : l.length = n) (hm : news.length = m) : (bsC (l ++ List.replicate (S - n) 0)).take n ++ (bsC news ++ (bsC (l ++ List.replicate (S - n) 0)).drop (n + m)) = bsC ((l ++ news) ++ List.replicate (S - (n + m)) 0) := by
  rw [cellsB_app hn hm, List.drop_replicate, show S - n - m = S - (n + m) by omega]
theorem u8_ofInt_nat (m : Nat) : UInt8.ofInt (m : Int) = UInt8.ofNat m := by
  have h := (byteC_of (m : Int)).symm.trans (byteC_n m)
  have := congrArg byteOf h
  rwa [byteOf_byteC, byteOf_byteC] at this
theorem range_eq {cx : Cx} {n : Nat} {f : Operand} {ps : Array Tmp} {asg body : Code} {k : List KI} {σ : St} {Q : XE → St → Prop} (h : RangeGoal cx.P f ps asg body k σ Q) : X cx (n + 1) (.code (.rangeFunc f ps asg body) :: k) σ Q := h

theorem pack_spec (xs sp : List OI) (c : Nat) (hok : ∀ x ∈ xs, x.ok) (hT : totO xs ≤ 8589934592) (room : Int) : Spec cx.P 13 [.c (roO xs sp c), .c (i64 room)] [] (resB (packF xs room).1 (packF xs room).2) := by
  have hn := totO_len xs
  have hsz := szO_le xs
  refine resBN_of ?_
  refine spec_of_X cx_ok Try.func13 rfl (by kernel_rfl) (by kernel_rfl) (Nat.le_of_ble_eq_true rfl) 400 72 ?_
  simp (maxSteps := 4000000) only [Try.results13, XX, Nat.reduceBEq, Nat.reduceLT, Nat.reduceAdd, Nat.reduceMul, Nat.reduceSub, Nat.reduceLeDiff, Nat.reduceEqDiff, Int.reduceToNat, Int.reduceLT, Int.reduceLE, Int.reduceAdd, Int.reduceSub, Int.reduceEq, reduceIte, Nat.reduceBNe, Int.reducePow, Nat.reducePow, Int.reduceMul, Int.reduceNeg, isB_i, isB_b, isB_y, isBv_i, isBv_b, eqCells_t, TT]
  rw [List.map_replicate, seenC_zero]
  refine loop_any cx_ok 400 (fun μ σ => ∃ i : Nat, μ = xs.length - i ∧ i ≤ xs.length ∧ (∀ (j : Nat) (x : OI), j < i → xs[j]? = some x → ¬ BadAt xs j x) ∧
      σ = ⟨⟨72, 0⟩, [(0, .c (roO xs sp c)), (1, .c (i64 room)), (6, .c (.ptr 0 0)), (7, .c (i64 (1 + szO (xs.take i) : Nat))), (14, .c (roO xs sp c)), (15, .c (i64 xs.length)), (16, .c (i64 i))], [seenB (seenF (xs.take i))]⟩) xs.length
    ⟨⟨72, 0⟩, [(0, .c (roO xs sp c)), (1, .c (i64 room)), (6, .c (.ptr 0 0)), (7, .c (i64 (1 + szO (xs.take 0) : Nat))), (14, .c (roO xs sp c)), (15, .c (i64 xs.length)), (16, .c (i64 (0 : Nat)))], [seenB (seenF (xs.take 0))]⟩ ⟨0, rfl, Nat.zero_le _, fun j x h => absurd h (by omega), rfl⟩ (.inl ⟨rfl, rfl, rfl, rfl, rfl, rfl, rfl, rfl, rfl, trivial⟩) ?_
  rintro μ σ ⟨i, rfl, hi, hnb, rfl⟩
  by_cases hlt : i < xs.length
  · have hd : decide ((i : Int) < (xs.length : Int)) = true := by simp only [decide_eq_true_eq]; omega
    have e3 : IntKind.i64.wrap ((i : Int) + 1) = ((i + 1 : Nat) : Int) := by rw [w64] <;> omega
    obtain ⟨x, hx⟩ : ∃ x, xs[i]? = some x := ⟨_, List.getElem?_eq_getElem hlt⟩
    obtain ⟨R, hR⟩ := osR_at (sp := sp) hx
    obtain ⟨ox1, ox2, ox3⟩ := hok x (List.mem_of_getElem? hx)
    have hxt := mem_tot (List.mem_of_getElem? hx)
    by_cases k1 : x.k ≤ 0
    · have d1 : decide (x.k ≤ 0) = true := by simpa using k1
      have hg : (seenC (seenF (xs.take i))).getD x.k.toNat .any = bC (seenF (xs.take i) 0) := by
        rw [show x.k.toNat = 0 by omega]; exact seenC_at _ (by omega)
      rw [packF_bad (room := room) ⟨i, x, hx, .inl k1⟩]
      simp (maxSteps := 4000000) only [Try.results13, hd, hR, d1, hg, XX, Nat.reduceBEq, Nat.reduceLT, Nat.reduceAdd, Nat.reduceMul, Nat.reduceSub, Nat.reduceLeDiff, Nat.reduceEqDiff, Int.reduceToNat, Int.reduceLT, Int.reduceLE, Int.reduceAdd, Int.reduceSub, Int.reduceEq, reduceIte, Nat.reduceBNe, Int.reducePow, Nat.reducePow, Int.reduceMul, Int.reduceNeg, isB_i, isB_b, isB_y, isBv_i, isBv_b, eqCells_t, TT]
      exact ⟨by omega, by omega⟩
    have d1 : decide (x.k ≤ 0) = false := by simpa using k1
    by_cases k2 : 255 ≤ x.k
    · have d2 : decide ((255 : Int) ≤ x.k) = true := by simpa using k2
      have hg : (seenC (seenF (xs.take i))).getD x.k.toNat .any = SC.any := by
        rw [List.getD_eq_getElem?_getD, List.getElem?_eq_none (by rw [seenC_len]; omega)]; rfl
      rw [packF_bad (room := room) ⟨i, x, hx, .inr (.inl k2)⟩]
      simp (maxSteps := 4000000) only [Try.results13, hd, hR, d1, d2, hg, pickE_any, XX, Nat.reduceBEq, Nat.reduceLT, Nat.reduceAdd, Nat.reduceMul, Nat.reduceSub, Nat.reduceLeDiff, Nat.reduceEqDiff, Int.reduceToNat, Int.reduceLT, Int.reduceLE, Int.reduceAdd, Int.reduceSub, Int.reduceEq, reduceIte, Nat.reduceBNe, Int.reducePow, Nat.reducePow, Int.reduceMul, Int.reduceNeg, isB_i, isB_b, isB_y, isBv_i, isBv_b, eqCells_t, TT]
      exact ⟨by omega, by omega⟩
    have d2 : decide ((255 : Int) ≤ x.k) = false := by simpa using k2
    obtain ⟨m, hm⟩ : ∃ m : Nat, x.k = m := ⟨x.k.toNat, by omega⟩
    have hm2 : m < 255 := by omega
    have hg := seenC_at (seenF (xs.take i)) hm2
    rw [hm] at hR d1 d2
    by_cases k3 : seenF (xs.take i) m = true
    · rw [k3] at hg
      rw [packF_bad (room := room) ⟨i, x, hx, .inr (.inr ((seenF_iff hm).1 k3))⟩]
      simp (maxSteps := 4000000) only [Try.results13, hd, hR, d1, d2, hg, seenC_len, hm2, XX, Nat.reduceBEq, Nat.reduceLT, Nat.reduceAdd, Nat.reduceMul, Nat.reduceSub, Nat.reduceLeDiff, Nat.reduceEqDiff, Int.reduceToNat, Int.reduceLT, Int.reduceLE, Int.reduceAdd, Int.reduceSub, Int.reduceEq, reduceIte, Nat.reduceBNe, Int.reducePow, Nat.reducePow, Int.reduceMul, Int.reduceNeg, isB_i, isB_b, isB_y, isBv_i, isBv_b, eqCells_t, TT]
      exact ⟨by omega, by omega⟩
    have k3' : seenF (xs.take i) m = false := by simpa using k3
    rw [k3'] at hg
    have e4 : IntKind.i64.wrap ((x.d.length : Int) + 255) = ((x.d.length + 255 : Nat) : Int) := by rw [w64] <;> omega
    have e5 : IntKind.i64.wrap (((x.d.length + 255 : Nat) : Int) - 1) = ((x.d.length + 254 : Nat) : Int) := by rw [w64] <;> omega
    have e6 : IntKind.i64.wrap ((((x.d.length + 254 : Nat) : Int)).tdiv 255) = (((x.d.length + 254) / 255 : Nat) : Int) := by rw [show (((x.d.length + 254 : Nat) : Int)).tdiv 255 = (((x.d.length + 254) / 255 : Nat) : Int) from rfl, w64] <;> omega
    have hp := pcs_bound x.d.length
    have e7 : IntKind.i64.wrap (2 * (pcs x.d.length : Int)) = ((2 * pcs x.d.length : Nat) : Int) := by rw [w64] <;> omega
    have e8 : IntKind.i64.wrap ((x.d.length : Int) + ((2 * pcs x.d.length : Nat) : Int)) = ((x.d.length + 2 * pcs x.d.length : Nat) : Int) := by rw [w64] <;> omega
    have hle := szO_take_le xs i
    have e9 : IntKind.i64.wrap (((1 + szO (xs.take i) : Nat) : Int) + ((x.d.length + 2 * pcs x.d.length : Nat) : Int)) = ((1 + szO (xs.take (i + 1)) : Nat) : Int) := by rw [szO_next hx, w64] <;> omega
    simp (maxSteps := 4000000) only [Try.results13, hd, hR, d1, d2, hg, seenC_len, hm2, e3, e4, e5, e6, ceil_pcs, e7, e8, e9, XX, Nat.reduceBEq, Nat.reduceLT, Nat.reduceAdd, Nat.reduceMul, Nat.reduceSub, Nat.reduceLeDiff, Nat.reduceEqDiff, Int.reduceToNat, Int.reduceLT, Int.reduceLE, Int.reduceAdd, Int.reduceSub, Int.reduceEq, reduceIte, Nat.reduceBNe, Int.reducePow, Nat.reducePow, Int.reduceMul, Int.reduceNeg, isB_i, isB_b, isB_y, isBv_i, isBv_b, eqCells_t, TT]
    have hs := seenC_set (xs.take i) hm hm2
    rw [← take_nextO hx] at hs
    rw [hs]
    refine ⟨by omega, by omega, by omega, by omega, xs.length - (i + 1), by omega, _, ⟨i + 1, rfl, by omega, fun j y hj hy => ?_, rfl⟩, .inr ⟨[some 0], rfl, rfl, ⟨⟨.inl ⟨seenC_ids _ _, (seenC_ren _ _).symm⟩, fun _ => ⟨rfl, rfl⟩⟩, trivial⟩, ⟨.inl ⟨rfl, rfl⟩, .inl ⟨rfl, rfl⟩, .inl ⟨rfl, rfl⟩, .inl ⟨rfl, rfl⟩, .inl ⟨rfl, rfl⟩, .inl ⟨rfl, rfl⟩, .inl ⟨rfl, rfl⟩, trivial⟩⟩⟩
    by_cases hji : j < i
    · exact hnb j y hji hy
    · obtain rfl : j = i := by omega
      rw [hx] at hy
      cases hy
      rintro (h | h | h)
      · exact k1 h
      · exact k2 h
      · exact k3 ((seenF_iff hm).2 h)
  obtain rfl : i = xs.length := by omega
  have hd : decide ((xs.length : Int) < (xs.length : Int)) = false := by simp
  rw [List.take_length]
  have hbad : ¬ Bad xs := fun ⟨j, x, hx, hb⟩ => hnb j x (List.getElem?_eq_some_iff.1 hx).1 hx hb
  by_cases q1 : 64 < xs.length
  · have d1 : decide ((64 : Int) < (xs.length : Int)) = true := by simp only [decide_eq_true_eq]; omega
    rw [packF_many hbad q1]
    simp (maxSteps := 4000000) only [Try.results13, hd, d1, XX, Nat.reduceBEq, Nat.reduceLT, Nat.reduceAdd, Nat.reduceMul, Nat.reduceSub, Nat.reduceLeDiff, Nat.reduceEqDiff, Int.reduceToNat, Int.reduceLT, Int.reduceLE, Int.reduceAdd, Int.reduceSub, Int.reduceEq, reduceIte, Nat.reduceBNe, Int.reducePow, Nat.reducePow, Int.reduceMul, Int.reduceNeg, isB_i, isB_b, isB_y, isBv_i, isBv_b, eqCells_t, TT]
  have d1 : decide ((64 : Int) < (xs.length : Int)) = false := by simp only [decide_eq_false_iff_not]; omega
  by_cases q2 : room < 1 + (szO xs : Int)
  · have d2 : decide (room < ((1 + szO xs : Nat) : Int)) = true := by simp only [decide_eq_true_eq]; omega
    rw [packF_long hbad q1 q2]
    simp (maxSteps := 4000000) only [Try.results13, hd, d1, d2, XX, Nat.reduceBEq, Nat.reduceLT, Nat.reduceAdd, Nat.reduceMul, Nat.reduceSub, Nat.reduceLeDiff, Nat.reduceEqDiff, Int.reduceToNat, Int.reduceLT, Int.reduceLE, Int.reduceAdd, Int.reduceSub, Int.reduceEq, reduceIte, Nat.reduceBNe, Int.reducePow, Nat.reducePow, Int.reduceMul, Int.reduceNeg, isB_i, isB_b, isB_y, isBv_i, isBv_b, eqCells_t, TT]
  have d2 : decide (room < ((1 + szO xs : Nat) : Int)) = false := by simp only [decide_eq_false_iff_not]; omega
  rw [packF_ok hbad q1 q2]
  simp (maxSteps := 4000000) only [Try.results13, hd, d1, d2, XX, Nat.reduceBEq, Nat.reduceLT, Nat.reduceAdd, Nat.reduceMul, Nat.reduceSub, Nat.reduceLeDiff, Nat.reduceEqDiff, Int.reduceToNat, Int.reduceLT, Int.reduceLE, Int.reduceAdd, Int.reduceSub, Int.reduceEq, reduceIte, Nat.reduceBNe, Int.reducePow, Nat.reducePow, Int.reduceMul, Int.reduceNeg, isB_i, isB_b, isB_y, isBv_i, isBv_b, eqCells_t, TT]
  refine ⟨by omega, ?_⟩
  refine loop_any cx_ok 400 (fun μ σ => ∃ i : Nat, μ = xs.length - i ∧ i ≤ xs.length ∧
      σ = ⟨⟨72, 0⟩, [(0, .c (roO xs sp c)), (10, .c (.ptr 1 0)), (62, .c (roO xs sp c)), (63, .c (i64 xs.length)), (64, .c (i64 i))], [bufB (1 + szO xs) (encAll (xs.take i)), lenB (1 + szO xs) (encAll (xs.take i)).length]⟩) xs.length
    ⟨⟨72, 0⟩, [(0, .c (roO xs sp c)), (10, .c (.ptr 1 0)), (62, .c (roO xs sp c)), (63, .c (i64 xs.length)), (64, .c (i64 (0 : Nat)))], [bufB (1 + szO xs) [], lenB (1 + szO xs) 0]⟩ ⟨0, rfl, Nat.zero_le _, by rw [List.take_zero]; rfl⟩
    (.inr ⟨[some 1, some 2], rfl, rfl, ⟨⟨.inl ⟨ids_bsC _ _, by rw [ren_bsC]; exact zeros_flat _⟩, fun _ => ⟨rfl, rfl⟩⟩, ⟨.inl ⟨rfl, rfl⟩, fun _ => ⟨rfl, rfl⟩⟩, trivial⟩, ⟨.inl ⟨rfl, rfl⟩, .inl ⟨rfl, rfl⟩, .inl ⟨rfl, rfl⟩, .inl ⟨rfl, rfl⟩, .inl ⟨rfl, rfl⟩, trivial⟩⟩) ?_
  clear hd d1 d2 hnb hlt hi
  rintro μ σ ⟨i, rfl, hi, rfl⟩
  by_cases hlt : i < xs.length
  · have hd : decide ((i : Int) < (xs.length : Int)) = true := by simp only [decide_eq_true_eq]; omega
    have e3 : IntKind.i64.wrap ((i : Int) + 1) = ((i + 1 : Nat) : Int) := by rw [w64] <;> omega
    obtain ⟨x, hx⟩ : ∃ x, xs[i]? = some x := ⟨_, List.getElem?_eq_getElem hlt⟩
    obtain ⟨R, hR⟩ := osR_at (sp := sp) hx
    obtain ⟨ox1, ox2, ox3⟩ := hok x (List.mem_of_getElem? hx)
    simp (maxSteps := 4000000) only [Try.results13, hd, hR, XX, Nat.reduceBEq, Nat.reduceLT, Nat.reduceAdd, Nat.reduceMul, Nat.reduceSub, Nat.reduceLeDiff, Nat.reduceEqDiff, Int.reduceToNat, Int.reduceLT, Int.reduceLE, Int.reduceAdd, Int.reduceSub, Int.reduceEq, reduceIte, Nat.reduceBNe, Int.reducePow, Nat.reducePow, Int.reduceMul, Int.reduceNeg, isB_i, isB_b, isB_y, isBv_i, isBv_b, eqCells_t, TT]
    refine ⟨by omega, ?_⟩
    refine call_frame (pieces_spec x.d x.sp x.c) [] rfl rfl trivial rfl rfl ?_
    rintro _ _ ⟨rfl, rfl⟩
    simp (maxSteps := 4000000) only [Try.results13, ids_bsC, ren_bsC, noRo_bsC, plain_bsC, lt_bsC, ids_byte, ren_byte, noRo_byte, plain_byte, lt_byte, boxB_ren, X_rf, XX, Nat.reduceBEq, Nat.reduceLT, Nat.reduceAdd, Nat.reduceMul, Nat.reduceSub, Nat.reduceLeDiff, Nat.reduceEqDiff, Int.reduceToNat, Int.reduceLT, Int.reduceLE, Int.reduceAdd, Int.reduceSub, Int.reduceEq, reduceIte, Nat.reduceBNe, Int.reducePow, Nat.reducePow, Int.reduceMul, Int.reduceNeg, isB_i, isB_b, isB_y, isBv_i, isBv_b, eqCells_t, TT]
    have hsl := szO_take_le xs (i + 1)
    rw [szO_next hx] at hsl
    have hel : (encAll (xs.take i)).length = szO (xs.take i) := encAll_len _
    obtain ⟨pre, hpre⟩ : ∃ pre, pre = encAll (xs.take i) := ⟨_, rfl⟩
    rw [← hpre] at hel ⊢
    obtain ⟨S, hS⟩ : ∃ S, S = 1 + szO xs := ⟨_, rfl⟩
    rw [← hS]
    refine range_sub (τ := ⟨⟨72, 0⟩, [(0, .c (roO xs sp c)), (10, .c (.ptr 1 0)), (12, .c (.ptr 2 0)), (62, .c (roO xs sp c)), (63, .c (i64 xs.length)), (64, .c (i64 i)), (70, .c (.fn 50 [(3, 0)]))], _⟩) ⟨rfl, rfl, rfl, rfl, rfl, rfl, rfl, rfl, rfl, trivial⟩ ?_
    refine range_pieces (bx := 3) (d := x.d) (sp := x.sp) (c := x.c) (Bi := fun j hp => hp[0]? = some (bufB S (pre ++ encN (UInt8.ofInt x.k) x.d j)) ∧ hp[1]? = some (lenB S (pre ++ encN (UInt8.ofInt x.k) x.d j).length) ∧ hp[2]? = some ⟨true, 58, [i64 x.k, roB x.d x.sp x.c]⟩) 88 400 400 400 rfl rfl ox1 ⟨by rw [show encN (UInt8.ofInt x.k) x.d 0 = [] from rfl, List.append_nil]; rfl, by rw [show encN (UInt8.ofInt x.k) x.d 0 = [] from rfl, List.append_nil]; rfl, rfl⟩ (fun j hp y ⟨h0, h1, h2⟩ => ⟨by rw [List.getElem?_set_ne (by omega)]; exact h0, by rw [List.getElem?_set_ne (by omega)]; exact h1, by rw [List.getElem?_set_ne (by omega)]; exact h2⟩) rfl rfl ?_ ?_
    · rintro j hp ⟨b0, b1, b2⟩ b3 hj
      have l0 := lt_of b0
      have l1 := lt_of b1
      have l2 := lt_of b2
      have l3 := lt_of b3
      have hjp := pcs_le hj
      have hen := encN_len (UInt8.ofInt x.k) x.d j
      have hen2 := encN_len (UInt8.ofInt x.k) x.d (j + 1)
      have hen3 := encN_len (UInt8.ofInt x.k) x.d (pcs x.d.length)
      have hpf := pcs_full x.d.length
      refine ⟨fun σ => σ = ⟨⟨88, hp.length⟩, [(0, .c (roO xs sp c)), (10, .c (.ptr 1 0)), (12, .c (.ptr 2 0)), (62, .c (roO xs sp c)), (63, .c (i64 xs.length)), (64, .c (i64 i)), (70, .c (.fn 50 [(3, 0)])), (71, .c (pieceC x.d x.sp x.c j)), (13, .c (pieceC x.d x.sp x.c j))], hp⟩, ?_, fun σ' h => by rw [h]; exact ⟨rfl, rfl⟩, ?_⟩
      · simp (maxSteps := 4000000) only [Try.results13, XX, Nat.reduceBEq, Nat.reduceLT, Nat.reduceAdd, Nat.reduceMul, Nat.reduceSub, Nat.reduceLeDiff, Nat.reduceEqDiff, Int.reduceToNat, Int.reduceLT, Int.reduceLE, Int.reduceAdd, Int.reduceSub, Int.reduceEq, reduceIte, Nat.reduceBNe, Int.reducePow, Nat.reducePow, Int.reduceMul, Int.reduceNeg, isB_i, isB_b, isB_y, isBv_i, isBv_b, eqCells_t, TT]
      rintro _ rfl
      unfold pieceC
      obtain ⟨q, hq⟩ : ∃ q, q = pre ++ encN (UInt8.ofInt x.k) x.d j := ⟨_, rfl⟩
      rw [← hq] at b0 b1
      have hql : q.length = pre.length + (encN (UInt8.ofInt x.k) x.d j).length := by rw [hq, List.length_append]
      obtain ⟨m, hm⟩ : ∃ m, m = min 255 (x.d.length - 255 * j) := ⟨_, rfl⟩
      rw [← hm]
      have e0 : (bsR (x.d.drop (255 * j) ++ x.sp)).take m = bsR (pieceL x.d j) := by
        rw [rs_take, hm]; unfold pieceL
        congr 1
        rw [List.take_append_of_le_length (by simp; omega)]
        rw [List.take_eq_take_iff]; simp
      have r2 : List.replicate 2 (SC.v (.int .u8 0)) = [SC.v (.int .u8 0), SC.v (.int .u8 0)] := rfl
      simp (maxSteps := 4000000) only [Try.results13, b0, b1, b2, l0, l1, l2, byteC_of, u8_ofInt_nat, r2, List.append_assoc, List.getElem?_append_left, List.getElem?_append_right, List.length_append, List.length_set, List.set_append_left, gset, List.getElem?_set_ne, Nat.add_sub_cancel_left, Nat.sub_self, Nat.le_refl, Nat.le_add_right, List.replicate_one, List.flatten_cons, List.flatten_nil, rep_flat, XX, Nat.reduceBEq, Nat.reduceLT, Nat.reduceAdd, Nat.reduceMul, Nat.reduceSub, Nat.reduceLeDiff, Nat.reduceEqDiff, Int.reduceToNat, Int.reduceLT, Int.reduceLE, Int.reduceAdd, Int.reduceSub, Int.reduceEq, reduceIte, Nat.reduceBNe, Int.reducePow, Nat.reducePow, Int.reduceMul, Int.reduceNeg, isB_i, isB_b, isB_y, isBv_i, isBv_b, eqCells_t, TT]
      have hbr := buf_room (S := S) (l := q) (news := [UInt8.ofInt x.k, UInt8.ofNat m]) rfl rfl
      have hbr : (bsC (q ++ List.replicate (S - q.length) 0)).take q.length ++ byteC (UInt8.ofInt x.k) :: byteC (UInt8.ofNat m) :: (bsC (q ++ List.replicate (S - q.length) 0)).drop (q.length + 2) = bsC ((q ++ [UInt8.ofInt x.k, UInt8.ofNat m]) ++ List.replicate (S - (q.length + 2)) 0) := hbr
      rw [hbr]
      refine ⟨⟨by omega, by unfold maxLen; omega, by simp, fun _ => by simp; omega⟩, xapp_room (by omega) ?_⟩
      obtain ⟨hp2, hhp2⟩ : ∃ hp2, hp2 = hp.set 0 (⟨true, 5, bsC ((q ++ [UInt8.ofInt x.k, UInt8.ofNat m]) ++ List.replicate (S - (q.length + 2)) 0)⟩ : SB) ++ [(⟨true, 5, [byteC (UInt8.ofInt x.k), byteC (UInt8.ofNat m)]⟩ : SB)] := ⟨_, rfl⟩
      have c0 : hp2[0]? = some ⟨true, 5, bsC ((q ++ [UInt8.ofInt x.k, UInt8.ofNat m]) ++ List.replicate (S - (q.length + 2)) 0)⟩ := by rw [hhp2, List.getElem?_append_left (by simpa using l0), List.getElem?_set_self l0]
      have c1 : hp2[1]? = some (lenB S q.length) := by rw [hhp2, List.getElem?_append_left (by simpa using l1), List.getElem?_set_ne (by omega)]; exact b1
      have c2 : hp2[2]? = some ⟨true, 58, [i64 x.k, roB x.d x.sp x.c]⟩ := by rw [hhp2, List.getElem?_append_left (by simpa using l2), List.getElem?_set_ne (by omega)]; exact b2
      have c3 : hp2[3]? = some (boxB x.d x.sp x.c j) := by rw [hhp2, List.getElem?_append_left (by simpa using l3), List.getElem?_set_ne (by omega)]; exact b3
      obtain ⟨q2, hq2⟩ : ∃ q2, q2 = q ++ [UInt8.ofInt x.k, UInt8.ofNat m] := ⟨_, rfl⟩
      have hq2l : q2.length = q.length + 2 := by rw [hq2]; simp
      rw [← hq2] at c0
      have n0 := lt_of c0
      have n1 := lt_of c1
      have n2 := lt_of c2
      have n3 := lt_of c3
      have hpl : (bsC (pieceL x.d j)).length = m := by rw [bsC_len, pieceL_len, hm]
      simp only [St.hp]
      rw [← hhp2]
      simp (maxSteps := 4000000) only [Try.results13, c0, c1, c2, n0, n1, n2, e0, bsR_toSC, hpl, List.append_assoc, List.getElem?_append_left, List.getElem?_append_right, List.length_append, List.length_set, List.set_append_left, gset, List.getElem?_set_ne, Nat.add_sub_cancel_left, Nat.sub_self, Nat.le_refl, Nat.le_add_right, List.replicate_one, List.flatten_cons, List.flatten_nil, rep_flat, XX, Nat.reduceBEq, Nat.reduceLT, Nat.reduceAdd, Nat.reduceMul, Nat.reduceSub, Nat.reduceLeDiff, Nat.reduceEqDiff, Int.reduceToNat, Int.reduceLT, Int.reduceLE, Int.reduceAdd, Int.reduceSub, Int.reduceEq, reduceIte, Nat.reduceBNe, Int.reducePow, Nat.reducePow, Int.reduceMul, Int.reduceNeg, isB_i, isB_b, isB_y, isBv_i, isBv_b, eqCells_t, TT]
      have hb2 := buf_room (S := S) (l := q2) (news := pieceL x.d j) (m := m) hq2l (by rw [← hpl, bsC_len])
      rw [hb2]
      refine ⟨⟨⟨by omega, by unfold maxLen; omega, by simp; omega, fun _ => by simp; omega⟩, by simp; omega⟩, xapp_room (by omega) ?_⟩
      have hq3 : q2 ++ pieceL x.d j = pre ++ encN (UInt8.ofInt x.k) x.d (j + 1) := by
        rw [hq2, hq, encN, ← hm]; simp
      have hq4 : q.length + 2 + m = (pre ++ encN (UInt8.ofInt x.k) x.d (j + 1)).length := by rw [← hq3, List.length_append, hq2l, ← hpl, bsC_len]
      rw [hq3, hq4]
      obtain ⟨hp3, hhp3⟩ : ∃ hp3, hp3 = (hp2.set 1 (⟨true, 25, [.sl 0 0 (q.length + 2) S]⟩ : SB)).set 0 (bufB S (pre ++ encN (UInt8.ofInt x.k) x.d (j + 1))) := ⟨_, rfl⟩
      have g0 : hp3[0]? = some (bufB S (pre ++ encN (UInt8.ofInt x.k) x.d (j + 1))) := by rw [hhp3]; exact List.getElem?_set_self (by simpa using n0)
      have g1 : hp3[1]? = some (lenB S (q.length + 2)) := by rw [hhp3, List.getElem?_set_ne (by omega)]; exact List.getElem?_set_self n1
      have g2 : hp3[2]? = some ⟨true, 58, [i64 x.k, roB x.d x.sp x.c]⟩ := by rw [hhp3, List.getElem?_set_ne (by omega), List.getElem?_set_ne (by omega)]; exact c2
      have g3 : hp3[3]? = some (boxB x.d x.sp x.c j) := by rw [hhp3, List.getElem?_set_ne (by omega), List.getElem?_set_ne (by omega)]; exact c3
      have r1 := lt_of g1
      simp only [St.hp]
      rw [← hhp3]
      simp (maxSteps := 4000000) only [Try.results13, g1, r1, XX, Nat.reduceBEq, Nat.reduceLT, Nat.reduceAdd, Nat.reduceMul, Nat.reduceSub, Nat.reduceLeDiff, Nat.reduceEqDiff, Int.reduceToNat, Int.reduceLT, Int.reduceLE, Int.reduceAdd, Int.reduceSub, Int.reduceEq, reduceIte, Nat.reduceBNe, Int.reducePow, Nat.reducePow, Int.reduceMul, Int.reduceNeg, isB_i, isB_b, isB_y, isBv_i, isBv_b, eqCells_t, TT]
      refine ⟨⟨?_, ?_, ?_⟩, ?_⟩
      · rw [List.getElem?_set_ne (by omega)]; exact g0
      · rw [List.getElem?_set_self r1, List.length_append]
      · rw [List.getElem?_set_ne (by omega)]; exact g2
      · rw [List.getElem?_set_ne (by omega)]; exact g3
    · rintro hp ⟨b0, b1, b2⟩
      have hpx : pre ++ encN (UInt8.ofInt x.k) x.d (pcs x.d.length) = encAll (xs.take (i + 1)) := by rw [hpre, encAll_next hx]; rfl
      rw [hpx] at b0 b1
      simp (maxSteps := 4000000) only [Try.results13, e3, XX, Nat.reduceBEq, Nat.reduceLT, Nat.reduceAdd, Nat.reduceMul, Nat.reduceSub, Nat.reduceLeDiff, Nat.reduceEqDiff, Int.reduceToNat, Int.reduceLT, Int.reduceLE, Int.reduceAdd, Int.reduceSub, Int.reduceEq, reduceIte, Nat.reduceBNe, Int.reducePow, Nat.reducePow, Int.reduceMul, Int.reduceNeg, isB_i, isB_b, isB_y, isBv_i, isBv_b, eqCells_t, TT]
      refine ⟨xs.length - (i + 1), by omega, _, ⟨i + 1, rfl, by omega, rfl⟩, .inr ⟨[some 0, some 1], rfl, rfl, ?_, ⟨.inl ⟨rfl, rfl⟩, .inl ⟨rfl, rfl⟩, .inl ⟨rfl, rfl⟩, .inl ⟨rfl, rfl⟩, .inl ⟨rfl, rfl⟩, trivial⟩⟩⟩
      simp only [wkHp, b0, b1]
      exact ⟨⟨.inl ⟨ids_bsC _ _, (ren_bsC _ _).symm⟩, fun _ => ⟨trivial, trivial⟩⟩, ⟨.inl ⟨rfl, rfl⟩, fun _ => ⟨trivial, trivial⟩⟩, trivial⟩
  obtain rfl : i = xs.length := by omega
  have hd : decide ((xs.length : Int) < (xs.length : Int)) = false := by simp
  rw [List.take_length]
  simp (maxSteps := 4000000) only [Try.results13, hd, List.replicate_one, List.flatten_cons, List.flatten_nil, XX, Nat.reduceBEq, Nat.reduceLT, Nat.reduceAdd, Nat.reduceMul, Nat.reduceSub, Nat.reduceLeDiff, Nat.reduceEqDiff, Int.reduceToNat, Int.reduceLT, Int.reduceLE, Int.reduceAdd, Int.reduceSub, Int.reduceEq, reduceIte, Nat.reduceBNe, Int.reducePow, Nat.reducePow, Int.reduceMul, Int.reduceNeg, isB_i, isB_b, isB_y, isBv_i, isBv_b, eqCells_t, TT]
  have hel := encAll_len xs
  have hbr := buf_room (S := 1 + szO xs) (l := encAll xs) (news := [255]) rfl rfl
  refine ⟨⟨by omega, by unfold maxLen; omega, by simp, fun _ => by simp; omega⟩, xapp_room (by omega) ?_⟩
  simp (maxSteps := 4000000) only [Try.results13, XX, Nat.reduceBEq, Nat.reduceLT, Nat.reduceAdd, Nat.reduceMul, Nat.reduceSub, Nat.reduceLeDiff, Nat.reduceEqDiff, Int.reduceToNat, Int.reduceLT, Int.reduceLE, Int.reduceAdd, Int.reduceSub, Int.reduceEq, reduceIte, Nat.reduceBNe, Int.reducePow, Nat.reducePow, Int.reduceMul, Int.reduceNeg, isB_i, isB_b, isB_y, isBv_i, isBv_b, eqCells_t, TT]
  refine .inl ⟨0, List.replicate (1 + szO xs - ((encAll xs).length + 1)) 0, true, ?_, ?_, fun _ => rfl⟩
  · simp only [slB, List.length_append, List.length_singleton, List.length_replicate]
    rw [show (encAll xs).length + 1 + (1 + szO xs - ((encAll xs).length + 1)) = 1 + szO xs by omega]
  · show some (SB.mk _ _ _) = some (SB.mk _ _ _)
    rw [List.append_assoc]
    exact congrArg (fun z => some (SB.mk true 5 z)) hbr

end Go.Proofs.Ytflccffjfnfoiaa.Sx
