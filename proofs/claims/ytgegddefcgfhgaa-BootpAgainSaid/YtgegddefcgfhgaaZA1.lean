/- The symbolic executor, at work: what the laws lean on, part 1. No condition. -/
import Derived.Test.YtgegddefcgfhgaaZ3
namespace Go.Proofs.Ytgegddefcgfhgaa.Sx
open Go
set_option linter.unusedSimpArgs false
set_option linter.unusedVariables false
theorem RTy_byte {B n : Nat} {x : List RC} (h : RTy T B (n + 1) 5 x) : ∃ b : UInt8, x = [byteR b] := by
  obtain ⟨z, rfl, h1, h2⟩ := RTy_int T_5 h
  simp [IntKind.min, IntKind.max, IntKind.bits, IntKind.signed] at h1 h2
  refine ⟨UInt8.ofNat z.toNat, ?_⟩
  simp only [byteR]
  congr 3
  simp
  omega
theorem bsR_flat : ∀ ys : List UInt8, (ys.map fun b : UInt8 => [byteR b]).flatten = bsR ys
  | [] => rfl
  | y :: ys => by simp only [List.map_cons, List.flatten_cons, bsR_flat ys]; rfl
theorem RTy_bytes {B n : Nat} {x : List RC} (h : RTy T B (n + 2) 22 x) : ∃ (l sp : List UInt8) (c : Nat), x = [.sl (bsR (l ++ sp)) l.length c] ∧ l.length ≤ c ∧ c = l.length + sp.length ∧ c ≤ maxLen ∧ c ≤ B := by
  obtain ⟨items, len, rfl, h1, h2, h3, h4⟩ := RTy_slice T_22 T_5 h
  obtain ⟨ys, rfl, _⟩ := all_form (p := fun _ => True) (f := fun b : UInt8 => [byteR b]) fun x hx => by
    obtain ⟨b, rfl⟩ := RTy_byte (h4 x hx)
    exact ⟨b, rfl, trivial⟩
  simp only [List.length_map, Nat.mul_one] at h1 h2 h3 ⊢
  refine ⟨ys.take len, ys.drop len, ys.length, ?_, ?_, ?_, h2, h3⟩
  · rw [bsR_flat, List.take_append_drop, List.length_take, Nat.min_eq_left h1]
  · rw [List.length_take]; omega
  · rw [List.length_take, List.length_drop]; omega
end Go.Proofs.Ytgegddefcgfhgaa.Sx
namespace Go.Proofs.Ytgegddefcgfhgaa.Sx
open Go
set_option linter.unusedSimpArgs false
set_option linter.unusedVariables false
theorem cellsB_one {l sp : List UInt8} {x : UInt8} {n : Nat} (hn : l.length = n) : (bsC (l ++ sp)).take n ++ (byteC x :: (bsC (l ++ sp)).drop (n + 1)) = bsC ((l ++ [x]) ++ sp.drop 1) :=
  cellsB_app (news := [x]) hn rfl
theorem cellsB_new1 {l sp : List UInt8} {x : UInt8} {n c : Nat} (hn : l.length = n) : (bsC (l ++ sp)).take n ++ (byteC x :: List.replicate c (SC.v (.int .u8 0))) = bsC ((l ++ [x]) ++ List.replicate c 0) :=
  cellsB_new (news := [x]) hn
/-- A byte behind a list, either way. -/
theorem xapp_one {xn : XN} {dst : Option Tmp} {k : List KI} {nm : NB} {tm : List (Nat × SV)} {Q : XE → St → Prop} {H : List SB} {w n c : Nat} {o : Bool} {l sp : List UInt8} {x : UInt8} {t : List SB} {g : Nat} (B : Buf H w o l sp) (hn : l.length = n) (hc : c = n + sp.length) (hg : g = H.length + t.length)
    (hk : ∀ H' w' sp', Buf H' w' true (l ++ [x]) sp' → H.length ≤ H'.length → (∀ k, k < H.length → k ≠ w → H'[k]? = H[k]?) → (w' = w ∨ H.length ≤ w') → xn k ⟨nm, put dst (.c (slB w' (l ++ [x]) sp')) tm, H'⟩ Q) :
    XApp xn (n + 1) c dst k nm tm (.c (.sl w 0 (n + 1) c), H.set w ⟨o, 5, (bsC (l ++ sp)).take n ++ (byteC x :: (bsC (l ++ sp)).drop (n + 1))⟩ ++ t)
      (fun c' => (.c (.sl g 0 (n + 1) c'), H ++ (t ++ [⟨true, 5, (bsC (l ++ sp)).take n ++ (byteC x :: List.replicate (c' - (n + 1)) (SC.v (.int .u8 0)))⟩]))) Q := by
  refine xapp_P (BufP H w (l ++ [x])) (fun h => ?_) (fun h c' h1 h2 => ?_) ?_
  · exact bufP_room B.at_ (B.own (by omega)) (cellsB_one hn) (by simp [hn]) (by simp; omega)
  · exact bufP_grow (cellsB_new1 hn) hg (by simp [hn]) (by simp; omega)
  · rintro s H' ⟨w', sp', rfl, b, h1, h2, h3⟩
    exact hk H' w' sp' b h1 h2 h3
end Go.Proofs.Ytgegddefcgfhgaa.Sx
namespace Go.Proofs.Ytgegddefcgfhgaa.Sx
open Go
set_option linter.unusedSimpArgs false
set_option linter.unusedVariables false
set_option maxRecDepth 10000
set_option maxHeartbeats 4000000
theorem ceil_pcs' (n : Nat) : (if ((((n + 254) / 255 : Nat) : Int)) > (1 : Int) then ((((n + 254) / 255 : Nat) : Int)) else (1 : Int)) = (pcs n : Nat) := by
  unfold pcs
  split <;> omega
theorem min_int (n : Nat) : (if (255 : Int) < (n : Int) then (255 : Int) else (n : Int)) = ((min 255 n : Nat) : Int) := by split <;> omega
theorem size_spec (k : Int) (d sp : List UInt8) (c : Nat) (hd : d.length ≤ 140737488355328) : Spec cx.P 41 [.agg [i64 k, roB d sp c]] [] fun s _ => s.plain = true ∧ s = .c (i64 (d.length + 2 * pcs d.length : Nat)) := by
  have e4 : IntKind.i64.wrap ((d.length : Int) + 255) = ((d.length + 255 : Nat) : Int) := by rw [w64] <;> omega
  have e5 : IntKind.i64.wrap (((d.length + 255 : Nat) : Int) - 1) = ((d.length + 254 : Nat) : Int) := by rw [w64] <;> omega
  have e6 : IntKind.i64.wrap ((((d.length + 254 : Nat) : Int)).tdiv 255) = (((d.length + 254) / 255 : Nat) : Int) := by rw [show (((d.length + 254 : Nat) : Int)).tdiv 255 = (((d.length + 254) / 255 : Nat) : Int) from rfl, w64] <;> omega
  have hp := pcs_bound d.length
  have e7 : IntKind.i64.wrap (2 * (pcs d.length : Int)) = ((2 * pcs d.length : Nat) : Int) := by rw [w64] <;> omega
  have e8 : IntKind.i64.wrap (((2 * pcs d.length : Nat) : Int) + (d.length : Int)) = ((d.length + 2 * pcs d.length : Nat) : Int) := by rw [w64] <;> omega
  refine spec_of_X cx_ok Try.func41 rfl (by kernel_rfl) (by kernel_rfl) (Nat.le_of_ble_eq_true rfl) 400 4 ?_
  simp (maxSteps := 4000000) only [Try.results41, XX, Nat.reduceBEq, Nat.reduceLT, Nat.reduceAdd, Nat.reduceMul, Nat.reduceSub, Nat.reduceLeDiff, Nat.reduceEqDiff, Int.reduceToNat, Int.reduceLT, Int.reduceLE, Int.reduceAdd, Int.reduceSub, Int.reduceEq, reduceIte, Nat.reduceBNe, Int.reducePow, Nat.reducePow, Int.reduceMul, Int.reduceNeg, isB_i, isB_b, isB_y, isBv_i, isBv_b, eqCells_t, TT]
  simp (maxSteps := 4000000) only [Try.results41, e4, e5, e6, ceil_pcs', e7, e8, XX, Nat.reduceBEq, Nat.reduceLT, Nat.reduceAdd, Nat.reduceMul, Nat.reduceSub, Nat.reduceLeDiff, Nat.reduceEqDiff, Int.reduceToNat, Int.reduceLT, Int.reduceLE, Int.reduceAdd, Int.reduceSub, Int.reduceEq, reduceIte, Nat.reduceBNe, Int.reducePow, Nat.reducePow, Int.reduceMul, Int.reduceNeg, isB_i, isB_b, isB_y, isBv_i, isBv_b, eqCells_t, TT]
theorem rpack_big (xs sp : List OI) (c : Nat) (hok : ∀ x ∈ xs, x.ok) (room : Int) (hT : totO xs ≤ 8589934592 ∨ (totO xs ≤ 281474976776192 ∧ room ≤ 8589934592)) : Spec cx.P 13 [.c (roO xs sp c), .c (i64 room)] [] (resB (packF xs room).1 (packF xs room).2) := by
  have hn := totO_len xs
  have hsz := szO_le xs
  refine resBN_of ?_
  refine spec_of_X cx_ok Try.func13 rfl (by kernel_rfl) (by kernel_rfl) (Nat.le_of_ble_eq_true rfl) 400 15 ?_
  simp (maxSteps := 4000000) only [Try.results13, XX, Nat.reduceBEq, Nat.reduceLT, Nat.reduceAdd, Nat.reduceMul, Nat.reduceSub, Nat.reduceLeDiff, Nat.reduceEqDiff, Int.reduceToNat, Int.reduceLT, Int.reduceLE, Int.reduceAdd, Int.reduceSub, Int.reduceEq, reduceIte, Nat.reduceBNe, Int.reducePow, Nat.reducePow, Int.reduceMul, Int.reduceNeg, isB_i, isB_b, isB_y, isBv_i, isBv_b, eqCells_t, TT]
  rw [rep_flat, seenC_zero]
  refine loop_any cx_ok 400 (fun μ σ => ∃ i : Nat, μ = xs.length - i ∧ i ≤ xs.length ∧ (∀ (j : Nat) (x : OI), j < i → xs[j]? = some x → ¬ BadAt xs j x) ∧
      σ = ⟨⟨15, 0⟩, [(0, .c (roO xs sp c)), (1, .c (i64 room)), (6, .c (.sl 0 0 255 255)), (7, .c (i64 i))], [⟨true, 4, seenC (seenF (xs.take i))⟩]⟩) xs.length
    ⟨⟨15, 0⟩, [(0, .c (roO xs sp c)), (1, .c (i64 room)), (6, .c (.sl 0 0 255 255)), (7, .c (i64 (0 : Nat)))], [⟨true, 4, seenC (seenF (xs.take 0))⟩]⟩ ⟨0, rfl, Nat.zero_le _, fun j x h => absurd h (by omega), rfl⟩ (.inl ⟨rfl, rfl, rfl, rfl, rfl, rfl, trivial⟩) ?_
  rintro μ σ ⟨i, rfl, hi, hnb, rfl⟩
  by_cases hlt : i < xs.length
  · have hd : decide ((i : Int) < (xs.length : Int)) = true := by simp only [decide_eq_true_eq]; omega
    have e3 : IntKind.i64.wrap ((i : Int) + 1) = ((i + 1 : Nat) : Int) := by rw [w64] <;> omega
    obtain ⟨x, hx⟩ : ∃ x, xs[i]? = some x := ⟨_, List.getElem?_eq_getElem hlt⟩
    obtain ⟨R, hR⟩ := osR_at (sp := sp) hx
    obtain ⟨ox1, ox2, ox3⟩ := hok x (List.mem_of_getElem? hx)
    by_cases k1 : x.k < 1
    · have d1 : decide (x.k < 1) = true := by simpa using k1
      have hg : (seenC (seenF (xs.take i))).getD x.k.toNat .any = bC (seenF (xs.take i) 0) := by
        rw [show x.k.toNat = 0 by omega]; exact seenC_at _ (by omega)
      rw [packF_bad (room := room) ⟨i, x, hx, .inl (by omega)⟩]
      simp (maxSteps := 4000000) only [Try.results13, hd, hR, d1, hg, XX, Nat.reduceBEq, Nat.reduceLT, Nat.reduceAdd, Nat.reduceMul, Nat.reduceSub, Nat.reduceLeDiff, Nat.reduceEqDiff, Int.reduceToNat, Int.reduceLT, Int.reduceLE, Int.reduceAdd, Int.reduceSub, Int.reduceEq, reduceIte, Nat.reduceBNe, Int.reducePow, Nat.reducePow, Int.reduceMul, Int.reduceNeg, isB_i, isB_b, isB_y, isBv_i, isBv_b, eqCells_t, TT]
      exact ⟨by omega, by omega⟩
    have d1 : decide (x.k < 1) = false := by simpa using k1
    by_cases k2 : 255 ≤ x.k
    · have d2 : decide ((255 : Int) ≤ x.k) = true := by simpa using k2
      have hg : (seenC (seenF (xs.take i))).getD x.k.toNat .any = SC.any := by
        rw [List.getD_eq_getElem?_getD, List.getElem?_eq_none (by rw [seenC_len]; omega)]; rfl
      rw [packF_bad (room := room) ⟨i, x, hx, .inr (.inl k2)⟩]
      simp (maxSteps := 4000000) only [Try.results13, hd, hR, d1, d2, hg, pickE_any, XX, Nat.reduceBEq, Nat.reduceLT, Nat.reduceAdd, Nat.reduceMul, Nat.reduceSub, Nat.reduceLeDiff, Nat.reduceEqDiff, Int.reduceToNat, Int.reduceLT, Int.reduceLE, Int.reduceAdd, Int.reduceSub, Int.reduceEq, reduceIte, Nat.reduceBNe, Int.reducePow, Nat.reducePow, Int.reduceMul, Int.reduceNeg, isB_i, isB_b, isB_y, isBv_i, isBv_b, eqCells_t, TT]
      exact ⟨by omega, by omega⟩
    have d2 : decide ((255 : Int) ≤ x.k) = false := by simpa using k2
    obtain ⟨m, hm⟩ : ∃ m : Nat, x.k = m := ⟨x.k.toNat, by omega⟩
    have hm2 : m < 255 := by omega
    have hg := seenC_at (seenF (xs.take i)) hm2
    rw [hm] at hR d1 d2
    by_cases k3 : seenF (xs.take i) m = true
    · rw [k3] at hg
      rw [packF_bad (room := room) ⟨i, x, hx, .inr (.inr ((seenF_iff hm).1 k3))⟩]
      simp (maxSteps := 4000000) only [Try.results13, hd, hR, d1, d2, hg, seenC_len, hm2, XX, Nat.reduceBEq, Nat.reduceLT, Nat.reduceAdd, Nat.reduceMul, Nat.reduceSub, Nat.reduceLeDiff, Nat.reduceEqDiff, Int.reduceToNat, Int.reduceLT, Int.reduceLE, Int.reduceAdd, Int.reduceSub, Int.reduceEq, reduceIte, Nat.reduceBNe, Int.reducePow, Nat.reducePow, Int.reduceMul, Int.reduceNeg, isB_i, isB_b, isB_y, isBv_i, isBv_b, eqCells_t, TT]
      exact ⟨by omega, by omega, by omega⟩
    have k3' : seenF (xs.take i) m = false := by simpa using k3
    rw [k3'] at hg
    simp (maxSteps := 4000000) only [Try.results13, hd, hR, d1, d2, hg, seenC_len, hm2, e3, XX, Nat.reduceBEq, Nat.reduceLT, Nat.reduceAdd, Nat.reduceMul, Nat.reduceSub, Nat.reduceLeDiff, Nat.reduceEqDiff, Int.reduceToNat, Int.reduceLT, Int.reduceLE, Int.reduceAdd, Int.reduceSub, Int.reduceEq, reduceIte, Nat.reduceBNe, Int.reducePow, Nat.reducePow, Int.reduceMul, Int.reduceNeg, isB_i, isB_b, isB_y, isBv_i, isBv_b, eqCells_t, TT]
    have hs := seenC_set (xs.take i) hm hm2
    rw [← take_nextO hx] at hs
    rw [hs]
    refine ⟨by omega, by omega, by omega, by omega, by omega, xs.length - (i + 1), by omega, _, ⟨i + 1, rfl, by omega, fun j y hj hy => ?_, rfl⟩, .inl ⟨rfl, rfl, rfl, rfl, rfl, rfl, trivial⟩⟩
    by_cases hji : j < i
    · exact hnb j y hji hy
    · obtain rfl : j = i := by omega
      rw [hx] at hy
      cases hy
      rintro (h | h | h)
      · omega
      · exact k2 h
      · exact k3 ((seenF_iff hm).2 h)
  obtain rfl : i = xs.length := by omega
  have hd : decide ((xs.length : Int) < (xs.length : Int)) = false := by simp
  rw [List.take_length]
  have hbad : ¬ Bad xs := fun ⟨j, x, hx, hb⟩ => hnb j x (List.getElem?_eq_some_iff.1 hx).1 hx hb
  by_cases q1 : 64 < xs.length
  · have d1 : decide ((64 : Int) < (xs.length : Int)) = true := by simp only [decide_eq_true_eq]; omega
    rw [packF_many hbad q1]
    simp (maxSteps := 4000000) only [Try.results13, hd, d1, XX, Nat.reduceBEq, Nat.reduceLT, Nat.reduceAdd, Nat.reduceMul, Nat.reduceSub, Nat.reduceLeDiff, Nat.reduceEqDiff, Int.reduceToNat, Int.reduceLT, Int.reduceLE, Int.reduceAdd, Int.reduceSub, Int.reduceEq, reduceIte, Nat.reduceBNe, Int.reducePow, Nat.reducePow, Int.reduceMul, Int.reduceNeg, isB_i, isB_b, isB_y, isBv_i, isBv_b, eqCells_t, TT]
  have d1 : decide ((64 : Int) < (xs.length : Int)) = false := by simp only [decide_eq_false_iff_not]; omega
  simp (maxSteps := 4000000) only [Try.results13, hd, d1, XX, Nat.reduceBEq, Nat.reduceLT, Nat.reduceAdd, Nat.reduceMul, Nat.reduceSub, Nat.reduceLeDiff, Nat.reduceEqDiff, Int.reduceToNat, Int.reduceLT, Int.reduceLE, Int.reduceAdd, Int.reduceSub, Int.reduceEq, reduceIte, Nat.reduceBNe, Int.reducePow, Nat.reducePow, Int.reduceMul, Int.reduceNeg, isB_i, isB_b, isB_y, isBv_i, isBv_b, eqCells_t, TT]
  clear hnb hi hlt
  refine loop_any cx_ok 400 (fun μ σ => ∃ i : Nat, μ = xs.length - i ∧ i ≤ xs.length ∧
      σ = ⟨⟨15, 0⟩, [(0, .c (roO xs sp c)), (1, .c (i64 room)), (9, .c (i64 (1 + szO (xs.take i) : Nat))), (10, .c (i64 i))], []⟩) xs.length
    ⟨⟨15, 0⟩, [(0, .c (roO xs sp c)), (1, .c (i64 room)), (9, .c (i64 (1 + szO (xs.take 0) : Nat))), (10, .c (i64 (0 : Nat)))], []⟩ ⟨0, rfl, Nat.zero_le _, rfl⟩ (.inr ⟨[], rfl, rfl, trivial, ⟨.inl ⟨rfl, rfl⟩, .inl ⟨rfl, rfl⟩, .inl ⟨rfl, rfl⟩, .inl ⟨rfl, rfl⟩, trivial⟩⟩) ?_
  rintro μ σ ⟨i, rfl, hi, rfl⟩
  by_cases hlt : i < xs.length
  · have hd : decide ((i : Int) < (xs.length : Int)) = true := by simp only [decide_eq_true_eq]; omega
    have e3 : IntKind.i64.wrap ((i : Int) + 1) = ((i + 1 : Nat) : Int) := by rw [w64] <;> omega
    obtain ⟨x, hx⟩ : ∃ x, xs[i]? = some x := ⟨_, List.getElem?_eq_getElem hlt⟩
    obtain ⟨R, hR⟩ := osR_at (sp := sp) hx
    obtain ⟨ox1, ox2, ox3⟩ := hok x (List.mem_of_getElem? hx)
    have hxt := mem_tot (List.mem_of_getElem? hx)
    have hp := pcs_bound x.d.length
    have hle := szO_take_le xs i
    have e9 : IntKind.i64.wrap (((1 + szO (xs.take i) : Nat) : Int) + ((x.d.length + 2 * pcs x.d.length : Nat) : Int)) = ((1 + szO (xs.take (i + 1)) : Nat) : Int) := by rw [szO_next hx, w64] <;> omega
    simp (maxSteps := 4000000) only [Try.results13, hd, hR, XX, Nat.reduceBEq, Nat.reduceLT, Nat.reduceAdd, Nat.reduceMul, Nat.reduceSub, Nat.reduceLeDiff, Nat.reduceEqDiff, Int.reduceToNat, Int.reduceLT, Int.reduceLE, Int.reduceAdd, Int.reduceSub, Int.reduceEq, reduceIte, Nat.reduceBNe, Int.reducePow, Nat.reducePow, Int.reduceMul, Int.reduceNeg, isB_i, isB_b, isB_y, isBv_i, isBv_b, eqCells_t, TT]
    refine ⟨by omega, ?_⟩
    refine call_pureF [.agg [i64 x.k, roB x.d x.sp x.c]] (size_spec x.k x.d x.sp x.c (by omega)) ⟨.inl ⟨rfl, rfl⟩, trivial⟩ ?_
    rintro _ rfl
    simp (maxSteps := 4000000) only [Try.results13, e3, e9, XX, Nat.reduceBEq, Nat.reduceLT, Nat.reduceAdd, Nat.reduceMul, Nat.reduceSub, Nat.reduceLeDiff, Nat.reduceEqDiff, Int.reduceToNat, Int.reduceLT, Int.reduceLE, Int.reduceAdd, Int.reduceSub, Int.reduceEq, reduceIte, Nat.reduceBNe, Int.reducePow, Nat.reducePow, Int.reduceMul, Int.reduceNeg, isB_i, isB_b, isB_y, isBv_i, isBv_b, eqCells_t, TT]
    exact ⟨xs.length - (i + 1), by omega, _, ⟨i + 1, rfl, by omega, rfl⟩, .inl ⟨rfl, rfl, rfl, rfl, rfl, rfl, trivial⟩⟩
  obtain rfl : i = xs.length := by omega
  have hd : decide ((xs.length : Int) < (xs.length : Int)) = false := by simp
  rw [List.take_length]
  by_cases q2 : room < 1 + (szO xs : Int)
  · have d2 : decide (room < ((1 + szO xs : Nat) : Int)) = true := by simp only [decide_eq_true_eq]; omega
    rw [packF_long hbad q1 q2]
    simp (maxSteps := 4000000) only [Try.results13, hd, d2, XX, Nat.reduceBEq, Nat.reduceLT, Nat.reduceAdd, Nat.reduceMul, Nat.reduceSub, Nat.reduceLeDiff, Nat.reduceEqDiff, Int.reduceToNat, Int.reduceLT, Int.reduceLE, Int.reduceAdd, Int.reduceSub, Int.reduceEq, reduceIte, Nat.reduceBNe, Int.reducePow, Nat.reducePow, Int.reduceMul, Int.reduceNeg, isB_i, isB_b, isB_y, isBv_i, isBv_b, eqCells_t, TT]
  have d2 : decide (room < ((1 + szO xs : Nat) : Int)) = false := by simp only [decide_eq_false_iff_not]; omega
  rw [packF_ok hbad q1 q2]
  simp (maxSteps := 4000000) only [Try.results13, hd, d2, XX, Nat.reduceBEq, Nat.reduceLT, Nat.reduceAdd, Nat.reduceMul, Nat.reduceSub, Nat.reduceLeDiff, Nat.reduceEqDiff, Int.reduceToNat, Int.reduceLT, Int.reduceLE, Int.reduceAdd, Int.reduceSub, Int.reduceEq, reduceIte, Nat.reduceBNe, Int.reducePow, Nat.reducePow, Int.reduceMul, Int.reduceNeg, isB_i, isB_b, isB_y, isBv_i, isBv_b, eqCells_t, TT]
  clear hi hlt hd d2 d1
  refine loop_any cx_ok 400 (fun μ σ => ∃ (i : Nat) (H : List SB) (w : Nat) (o : Bool) (z : List UInt8), μ = xs.length - i ∧ i ≤ xs.length ∧ Buf H w o (encAll (xs.take i)) z ∧
      σ = ⟨⟨15, 0⟩, [(0, .c (roO xs sp c)), (11, .c (slB w (encAll (xs.take i)) z)), (12, .c (i64 i))], H⟩) xs.length
    ⟨⟨15, 0⟩, [(0, .c (roO xs sp c)), (11, .c (.sl 0 0 0 0)), (12, .c (i64 (0 : Nat)))], [wB false []]⟩ ⟨0, [wB false []], 0, false, [], rfl, Nat.zero_le _, ⟨by rw [List.take_zero]; rfl, fun h => absurd h (by rw [List.take_zero]; simp [encAll])⟩, by rw [List.take_zero]; rfl⟩
    (.inr ⟨[none], rfl, rfl, by simp only [XX, Nat.reduceBEq, Nat.reduceLT, Nat.reduceAdd, Nat.reduceMul, Nat.reduceSub, Nat.reduceLeDiff, Nat.reduceEqDiff, Int.reduceToNat, Int.reduceLT, Int.reduceLE, Int.reduceAdd, Int.reduceSub, Int.reduceEq, reduceIte, Nat.reduceBNe, Int.reducePow, Nat.reducePow, Int.reduceMul, Int.reduceNeg, isB_i, isB_b, isB_y, isBv_i, isBv_b, eqCells_t, TT, List.map_nil], ⟨.inl ⟨rfl, rfl⟩, wk_nil, .inl ⟨rfl, rfl⟩, trivial⟩⟩) ?_
  rintro μ σ ⟨i, H, w, o, z, rfl, hi, B, rfl⟩
  by_cases hlt : i < xs.length
  · have hd : decide ((i : Int) < (xs.length : Int)) = true := by simp only [decide_eq_true_eq]; omega
    have e3 : IntKind.i64.wrap ((i : Int) + 1) = ((i + 1 : Nat) : Int) := by rw [w64] <;> omega
    obtain ⟨x, hx⟩ : ∃ x, xs[i]? = some x := ⟨_, List.getElem?_eq_getElem hlt⟩
    obtain ⟨R, hR⟩ := osR_at (sp := sp) hx
    obtain ⟨ox1, ox2, ox3⟩ := hok x (List.mem_of_getElem? hx)
    have hsl := szO_take_le xs (i + 1)
    rw [szO_next hx] at hsl
    have hel : (encAll (xs.take i)).length = szO (xs.take i) := encAll_len _
    obtain ⟨pre, hpre⟩ : ∃ pre, pre = encAll (xs.take i) := ⟨_, rfl⟩
    rw [← hpre] at hel B ⊢
    simp (maxSteps := 4000000) only [Try.results13, hd, hR, XX, Nat.reduceBEq, Nat.reduceLT, Nat.reduceAdd, Nat.reduceMul, Nat.reduceSub, Nat.reduceLeDiff, Nat.reduceEqDiff, Int.reduceToNat, Int.reduceLT, Int.reduceLE, Int.reduceAdd, Int.reduceSub, Int.reduceEq, reduceIte, Nat.reduceBNe, Int.reducePow, Nat.reducePow, Int.reduceMul, Int.reduceNeg, isB_i, isB_b, isB_y, isBv_i, isBv_b, eqCells_t, TT]
    refine ⟨by omega, by omega, ?_⟩
    refine loop_any cx_ok 400 (fun μ σ => ∃ (j : Nat) (H : List SB) (w : Nat) (o : Bool) (z : List UInt8), μ = pcs x.d.length - j ∧ (255 * j < x.d.length ∨ j = 0) ∧ Buf H w o (pre ++ encN (UInt8.ofInt x.k) x.d j) z ∧
        σ = ⟨⟨15, 0⟩, [(0, .c (roO xs sp c)), (11, .c (slB w (pre ++ encN (UInt8.ofInt x.k) x.d j) z)), (12, .c (i64 i)), (13, .c (boxC x.d x.sp x.c j))], H⟩) (pcs x.d.length)
      ⟨⟨15, 0⟩, [(0, .c (roO xs sp c)), (11, .c (slB w (pre ++ encN (UInt8.ofInt x.k) x.d 0) z)), (12, .c (i64 i)), (13, .c (boxC x.d x.sp x.c 0))], H⟩ ⟨0, H, w, o, z, rfl, .inr rfl, by rw [show encN (UInt8.ofInt x.k) x.d 0 = [] from rfl, List.append_nil]; exact B, rfl⟩
      (.inl ⟨rfl, rfl, rfl, by rw [show encN (UInt8.ofInt x.k) x.d 0 = [] from rfl, List.append_nil]; rfl, rfl, rfl, trivial⟩) ?_
    clear B
    rintro μ σ ⟨j, H, w, o, z, rfl, hj, B, rfl⟩
    have hjp := pcs_le hj
    have hen := encN_len (UInt8.ofInt x.k) x.d j
    have hen2 := encN_len (UInt8.ofInt x.k) x.d (j + 1)
    have hen3 := encN_len (UInt8.ofInt x.k) x.d (pcs x.d.length)
    have hpf := pcs_full x.d.length
    obtain ⟨q, hq⟩ : ∃ q, q = pre ++ encN (UInt8.ofInt x.k) x.d j := ⟨_, rfl⟩
    rw [← hq] at B ⊢
    have hql : q.length = pre.length + (encN (UInt8.ofInt x.k) x.d j).length := by rw [hq, List.length_append]
    obtain ⟨m, hm⟩ : ∃ m, m = min 255 (x.d.length - 255 * j) := ⟨_, rfl⟩
    have r2 : List.replicate 2 (SC.v (.int .u8 0)) = [SC.v (.int .u8 0), SC.v (.int .u8 0)] := rfl
    have e0 : (bsR (x.d.drop (255 * j) ++ x.sp)).take m = bsR (pieceL x.d j) := by
      rw [rs_take, hm]; unfold pieceL
      congr 1
      rw [List.take_append_of_le_length (by simp; omega)]
      rw [List.take_eq_take_iff]; simp
    have hpl : (pieceL x.d j).length = m := by rw [pieceL_len, hm]
    unfold boxC
    simp (maxSteps := 4000000) only [Try.results13, hR, min_int, ← hm, byteC_of, u8_ofInt_nat, r2, B.at_, lt_of B.at_, List.append_assoc, List.getElem?_append_left, List.getElem?_append_right, List.length_append, List.length_set, List.set_append_left, gset, List.getElem?_set_ne, Nat.add_sub_cancel_left, Nat.sub_self, Nat.le_refl, Nat.le_add_right, List.replicate_one, List.flatten_cons, List.flatten_nil, rep_flat, XX, Nat.reduceBEq, Nat.reduceLT, Nat.reduceAdd, Nat.reduceMul, Nat.reduceSub, Nat.reduceLeDiff, Nat.reduceEqDiff, Int.reduceToNat, Int.reduceLT, Int.reduceLE, Int.reduceAdd, Int.reduceSub, Int.reduceEq, reduceIte, Nat.reduceBNe, Int.reducePow, Nat.reducePow, Int.reduceMul, Int.reduceNeg, isB_i, isB_b, isB_y, isBv_i, isBv_b, eqCells_t, TT]
    refine ⟨by omega, by omega, ⟨by omega, by unfold maxLen; omega, by simp, fun h => ⟨B.own (by omega), by simp; omega⟩⟩, ?_⟩
    refine xapp_more (news := [UInt8.ofInt x.k, UInt8.ofNat m]) (t := [⟨true, 5, [byteC (UInt8.ofInt x.k), byteC (UInt8.ofNat m)]⟩]) B rfl rfl rfl rfl (by omega) fun H1 w1 z1 B1 h1 h2 h3 => ?_
    obtain ⟨q2, hq2⟩ : ∃ q2, q2 = q ++ [UInt8.ofInt x.k, UInt8.ofNat m] := ⟨_, rfl⟩
    have hq2l : q2.length = q.length + 2 := by rw [hq2]; simp
    rw [← hq2] at B1 ⊢
    simp (maxSteps := 4000000) only [Try.results13, hR, e0, bsR_toSC, bsC_len, hpl, B1.at_, lt_of B1.at_, List.append_assoc, List.getElem?_append_left, List.getElem?_append_right, List.length_append, List.length_set, List.set_append_left, gset, List.getElem?_set_ne, Nat.add_sub_cancel_left, Nat.sub_self, Nat.le_refl, Nat.le_add_right, List.replicate_one, List.flatten_cons, List.flatten_nil, rep_flat, XX, Nat.reduceBEq, Nat.reduceLT, Nat.reduceAdd, Nat.reduceMul, Nat.reduceSub, Nat.reduceLeDiff, Nat.reduceEqDiff, Int.reduceToNat, Int.reduceLT, Int.reduceLE, Int.reduceAdd, Int.reduceSub, Int.reduceEq, reduceIte, Nat.reduceBNe, Int.reducePow, Nat.reducePow, Int.reduceMul, Int.reduceNeg, isB_i, isB_b, isB_y, isBv_i, isBv_b, eqCells_t, TT]
    refine ⟨by omega, ⟨⟨by omega, by unfold maxLen; omega⟩, by simp; omega⟩, xapp_more0 (news := pieceL x.d j) B1 rfl hpl rfl rfl (by omega) fun H2 w2 z2 B2 g1 g2 g3 => ?_⟩
    have hq3 : q2 ++ pieceL x.d j = pre ++ encN (UInt8.ofInt x.k) x.d (j + 1) := by
      rw [hq2, hq, encN, ← hm]; simp
    rw [hq3] at B2 ⊢
    by_cases hgt : 255 < x.d.length - 255 * j
    · have hm5 : m = 255 := by omega
      subst hm5
      have d0 : decide (((x.d.length - 255 * j - 255 : Nat) : Int) = 0) = false := by simp only [decide_eq_false_iff_not]; omega
      simp (maxSteps := 4000000) only [Try.results13, d0, XX, Nat.reduceBEq, Nat.reduceLT, Nat.reduceAdd, Nat.reduceMul, Nat.reduceSub, Nat.reduceLeDiff, Nat.reduceEqDiff, Int.reduceToNat, Int.reduceLT, Int.reduceLE, Int.reduceAdd, Int.reduceSub, Int.reduceEq, reduceIte, Nat.reduceBNe, Int.reducePow, Nat.reducePow, Int.reduceMul, Int.reduceNeg, isB_i, isB_b, isB_y, isBv_i, isBv_b, eqCells_t, TT]
      refine ⟨by omega, pcs x.d.length - (j + 1), by omega, _, ⟨j + 1, H2, w2, true, z2, rfl, .inl (by omega), B2, rfl⟩, .inl ⟨rfl, rfl, rfl, rfl, rfl, ?_, trivial⟩⟩
      have := boxC_next (sp := x.sp) (c := x.c) hgt
      unfold boxC at this
      rw [this]
      rfl
    · have hm5 : m = x.d.length - 255 * j := by omega
      have hjn : j + 1 = pcs x.d.length := by unfold pcs; rcases hj with h | h <;> omega
      have hpx : pre ++ encN (UInt8.ofInt x.k) x.d (j + 1) = encAll (xs.take (i + 1)) := by rw [hjn, hpre, encAll_next hx]; rfl
      rw [hpx] at B2 ⊢
      have d0 : decide (((x.d.length - 255 * j - m : Nat) : Int) = 0) = true := by simp only [decide_eq_true_eq]; omega
      simp (maxSteps := 4000000) only [Try.results13, d0, e3, XX, Nat.reduceBEq, Nat.reduceLT, Nat.reduceAdd, Nat.reduceMul, Nat.reduceSub, Nat.reduceLeDiff, Nat.reduceEqDiff, Int.reduceToNat, Int.reduceLT, Int.reduceLE, Int.reduceAdd, Int.reduceSub, Int.reduceEq, reduceIte, Nat.reduceBNe, Int.reducePow, Nat.reducePow, Int.reduceMul, Int.reduceNeg, isB_i, isB_b, isB_y, isBv_i, isBv_b, eqCells_t, TT]
      exact ⟨by omega, xs.length - (i + 1), by omega, _, ⟨i + 1, H2, w2, true, z2, rfl, by omega, B2, rfl⟩, .inl ⟨rfl, rfl, rfl, rfl, rfl, trivial⟩⟩
  obtain rfl : i = xs.length := by omega
  have hd : decide ((xs.length : Int) < (xs.length : Int)) = false := by simp
  rw [List.take_length] at B ⊢
  have hel := encAll_len xs
  have r1 : List.replicate 1 (SC.v (.int .u8 0)) = [SC.v (.int .u8 0)] := rfl
  have b255 : SC.v (.int .u8 255) = byteC 255 := rfl
  simp (maxSteps := 4000000) only [Try.results13, hd, r1, b255, B.at_, lt_of B.at_, List.append_assoc, List.getElem?_append_left, List.getElem?_append_right, List.length_append, List.length_set, List.set_append_left, gset, List.getElem?_set_ne, Nat.add_sub_cancel_left, Nat.sub_self, Nat.le_refl, Nat.le_add_right, List.replicate_one, List.flatten_cons, List.flatten_nil, rep_flat, XX, Nat.reduceBEq, Nat.reduceLT, Nat.reduceAdd, Nat.reduceMul, Nat.reduceSub, Nat.reduceLeDiff, Nat.reduceEqDiff, Int.reduceToNat, Int.reduceLT, Int.reduceLE, Int.reduceAdd, Int.reduceSub, Int.reduceEq, reduceIte, Nat.reduceBNe, Int.reducePow, Nat.reducePow, Int.reduceMul, Int.reduceNeg, isB_i, isB_b, isB_y, isBv_i, isBv_b, eqCells_t, TT]
  refine ⟨⟨by omega, by unfold maxLen; omega, by simp, fun h => ⟨B.own (by omega), by simp; omega⟩⟩, xapp_one (t := [⟨true, 5, [byteC 255]⟩]) B rfl rfl rfl fun H1 w1 z1 B1 h1 h2 h3 => ?_⟩
  simp (maxSteps := 4000000) only [Try.results13, XX, Nat.reduceBEq, Nat.reduceLT, Nat.reduceAdd, Nat.reduceMul, Nat.reduceSub, Nat.reduceLeDiff, Nat.reduceEqDiff, Int.reduceToNat, Int.reduceLT, Int.reduceLE, Int.reduceAdd, Int.reduceSub, Int.reduceEq, reduceIte, Nat.reduceBNe, Int.reducePow, Nat.reducePow, Int.reduceMul, Int.reduceNeg, isB_i, isB_b, isB_y, isBv_i, isBv_b, eqCells_t, TT]
  exact .inl ⟨w1, z1, true, by simp only [slB, List.length_append], B1⟩
end Go.Proofs.Ytgegddefcgfhgaa.Sx
namespace Go.Proofs.Ytgegddefcgfhgaa.Sx
open Go
set_option linter.unusedSimpArgs false
set_option linter.unusedVariables false
set_option maxRecDepth 10000
set_option maxHeartbeats 2000000
theorem lent_ok {es : List PE} {xs : List OI} (hpi : es.map PE.pi = piL xs) (hok : ∀ x ∈ xs, x.ok) : (∀ x ∈ es.map PE.oi, x.ok) ∧ piL (es.map PE.oi) = piL xs ∧ es.length = xs.length := by
  refine ⟨fun x hx => ?_, by rw [← hpi, piL, List.map_map]; rfl, by have := congrArg List.length hpi; simpa using this⟩
  simp only [List.mem_map] at hx
  obtain ⟨e, he, rfl⟩ := hx
  have : e.pi ∈ piL xs := by rw [← hpi]; exact List.mem_map_of_mem he
  simp only [piL, List.mem_map] at this
  obtain ⟨y, hy, hye⟩ := this
  simp only [OI.pi, PE.pi, Prod.mk.injEq] at hye
  obtain ⟨q1, q2, q3⟩ := hok y hy
  exact ⟨Nat.le_add_right _ _, by show e.d.length ≤ _; rw [← hye.2]; exact q2, by show _ ≤ e.k ∧ e.k < _; rw [← hye.1]; exact q3⟩
end Go.Proofs.Ytgegddefcgfhgaa.Sx
namespace Go.Proofs.Ytgegddefcgfhgaa.Sx
open Go
set_option linter.unusedSimpArgs false
set_option linter.unusedVariables false
set_option maxRecDepth 10000
set_option maxHeartbeats 2000000
theorem textF_nz : ∀ l : List UInt8, (0 : UInt8) ∉ textF l
  | [] => by simp [textF]
  | x :: l => by
    rw [textF]
    split
    · simp
    · rename_i hx
      intro h
      rcases List.mem_cons.1 h with h | h
      · exact hx h.symm
      · exact textF_nz l h
theorem delP_sum : ∀ is : List PI, ((delP is).map fun p => p.2.length).sum ≤ (is.map fun p => p.2.length).sum
  | [] => by simp [delP]
  | p :: is => by
    have := delP_sum is
    unfold delP at this ⊢
    rw [List.filter_cons]
    split
    · simp only [List.map_cons, List.sum_cons]; omega
    · simp only [List.map_cons, List.sum_cons]; omega
theorem delP_good {is : List PI} (G : GoodP is) : GoodP (delP is) ∧ ∀ p ∈ delP is, p.1 ≠ 52 := by
  obtain ⟨k, n, l⟩ := G
  refine ⟨⟨fun x hx => k x (List.mem_filter.1 hx).1, ?_, Nat.le_trans (List.length_filter_le _ _) l⟩, fun p hp => ?_⟩
  · exact n.sublist (List.Sublist.map _ List.filter_sublist)
  · have := (List.mem_filter.1 hp).2
    simpa using this
theorem partsK_sum (b : List UInt8) (k : Nat) : ((partsK b k).map List.length).sum ≤ b.length + 192 := by
  have h1 : (b.drop 240).length ≤ b.length := by rw [List.length_drop]; omega
  have h2 : ((b.drop 108).take 128).length ≤ 128 := by rw [List.length_take]; omega
  have h3 : ((b.drop 44).take 64).length ≤ 64 := by rw [List.length_take]; omega
  unfold partsK
  split <;> split <;> simp only [List.map_append, List.map_cons, List.map_nil, List.sum_append, List.sum_cons, List.sum_nil, List.append_nil] <;> omega
/-- What was read. -/
structure Read (b : List UInt8) (m : BM) (is : List PI) : Prop where
  ok : m.ok
  bad : badB m = false
  zero : zeroB m = false
  good : GoodP is
  no52 : ∀ p ∈ is, p.1 ≠ 52
  sum : (is.map fun p => p.2.length).sum ≤ b.length + 192
theorem dec_cases (b : List UInt8) (hb : b.length ≤ 140737488355328) : (∃ e : Int, e ≠ 0 ∧ decF b = noM e) ∨ ∃ m is, decF b = (m, is, 0) ∧ Read b m is := by
  unfold decF
  split
  · exact .inl ⟨5, by decide, rfl⟩
  rename_i h1
  split
  · exact .inl ⟨160, by decide, rfl⟩
  rename_i h2
  split
  · exact .inl ⟨161, by decide, rfl⟩
  split
  · rename_i e he
    exact .inl ⟨e, by rcases parseA_err _ _ _ he with h | h <;> omega, rfl⟩
  split
  · exact .inl ⟨162, by decide, rfl⟩
  rename_i k _
  split
  · rename_i e he
    exact .inl ⟨e, by rcases parseA_err _ _ _ he with h | h <;> omega, rfl⟩
  rename_i is' hp
  obtain ⟨G, hs⟩ := parseA_good _ _ _ goodP_nil hp
  obtain ⟨G', h52⟩ := delP_good G
  have hsum := delP_sum is'
  have hps := partsK_sum b k
  simp only [List.map_nil, List.sum_nil] at hs
  have l0 := (b.getD 0 0).toNat_lt
  have l3 := (b.getD 3 0).toNat_lt
  have g2 := get2_lt b 8
  have t1 : (decM b k).sname.length ≤ 64 := by
    unfold decM
    dsimp only
    split
    · simp
    · have := textF_le ((b.drop 44).take 64)
      rw [List.length_take] at this
      omega
  have t2 : (decM b k).file.length ≤ 128 := by
    unfold decM
    dsimp only
    split
    · simp
    · have := textF_le ((b.drop 108).take 128)
      rw [List.length_take] at this
      omega
  refine .inr ⟨_, _, rfl, ⟨⟨?_, ?_, ?_, get4_lt _ _, get4_lt _ _, get4_lt _ _, get4_lt _ _, get4_lt _ _, by omega, by omega⟩, ?_, ?_, G', h52, by omega⟩⟩
  · show _ ≤ (((b.getD 0 0).toNat : Nat) : Int) ∧ (((b.getD 0 0).toNat : Nat) : Int) < _; omega
  · show _ ≤ (((b.getD 3 0).toNat : Nat) : Int) ∧ (((b.getD 3 0).toNat : Nat) : Int) < _; omega
  · show _ ≤ ((get2 b 8 : Nat) : Int) ∧ ((get2 b 8 : Nat) : Int) < _; omega
  · unfold badB decM
    simp only [Bool.or_eq_false_iff, Bool.and_eq_false_iff, Bool.not_eq_false', decide_eq_true_eq, decide_eq_false_iff_not]
    omega
  · have n1 : (0 : UInt8) ∉ (decM b k).sname := by
      unfold decM; dsimp only
      split
      · simp
      · exact textF_nz _
    have n2 : (0 : UInt8) ∉ (decM b k).file := by
      unfold decM; dsimp only
      split
      · simp
      · exact textF_nz _
    unfold zeroB
    rw [decide_eq_false n1, decide_eq_false n2]; rfl
/-- Why what was read can't be written. -/
theorem read_ref {b : List UInt8} {m : BM} {is : List PI} (R : Read b m is) {xs : List OI} (h : piL xs = is) : refF m xs = if longB m then 2 else 0 := by
  have ho : overB xs = false := by
    unfold overB
    rw [List.any_eq_false]
    intro x hx
    have := R.no52 x.pi (by rw [← h]; exact List.mem_map_of_mem hx)
    simpa using this
  unfold refF
  rw [R.bad, R.zero, ho]; rfl
end Go.Proofs.Ytgegddefcgfhgaa.Sx
namespace Go.Proofs.Ytgegddefcgfhgaa.Sx
open Go
set_option linter.unusedSimpArgs false
set_option linter.unusedVariables false
set_option maxRecDepth 10000
set_option maxHeartbeats 4000000
abbrev bpB (m : BM) (x : SC) : SB := ⟨true, 29, boC m x⟩
end Go.Proofs.Ytgegddefcgfhgaa.Sx
namespace Go.Proofs.Ytgegddefcgfhgaa.Sx
open Go
set_option linter.unusedSimpArgs false
set_option linter.unusedVariables false
set_option maxRecDepth 10000
set_option maxHeartbeats 4000000
theorem packF_zero {xs : List OI} {room : Int} (h : (packF xs room).2 = 0) : ¬ Bad xs ∧ xs.length ≤ 64 ∧ packF xs room = (encAll xs ++ [255], 0) := by
  by_cases h1 : Bad xs
  · rw [packF_bad h1] at h; cases h
  by_cases h2 : 64 < xs.length
  · rw [packF_many h1 h2] at h; cases h
  by_cases h3 : room < 1 + (szO xs : Int)
  · rw [packF_long h1 h2 h3] at h; cases h
  exact ⟨h1, by omega, packF_ok h1 h2 h3⟩
theorem encF_ok {m : BM} {xs : List OI} (h : (encF m xs).2 = 0) : refF m xs = 0 ∧ ¬ Bad xs ∧ xs.length ≤ 64 ∧ encF m xs = (encB m (encAll xs ++ [255]), 0) ∧ 300 ≤ (encB m (encAll xs ++ [255])).length ∧ (encB m (encAll xs ++ [255])).length ≤ 1472 := by
  by_cases h0 : refF m xs = 0
  · by_cases h1 : (packF xs 1232).2 = 0
    · obtain ⟨g1, g2, g3⟩ := packF_zero h1
      have hl := packF_le' (xs := xs) 1232 (by decide)
      rw [g3] at hl
      obtain ⟨r1, r2, r3, r4⟩ := refF_zero h0
      unfold longB at r3
      simp only [Bool.or_eq_false_iff, decide_eq_false_iff_not] at r3
      have len : (encB m (encAll xs ++ [255])).length = 240 + max 60 (encAll xs ++ [255]).length := by
        simp only [encB, flagB, be4, be2, List.length_append, List.length_cons, List.length_nil, List.length_replicate]
        split <;> simp only [List.length_cons, List.length_nil] <;> omega
      dsimp only at hl
      refine ⟨h0, g1, g2, ?_, by omega, by omega⟩
      unfold encF
      rw [if_pos h0, if_pos h1, g3]
    · unfold encF at h
      rw [if_pos h0, if_neg h1] at h
      exact absurd h h1
  · unfold encF at h
    rw [if_neg h0] at h
    exact absurd h h0
end Go.Proofs.Ytgegddefcgfhgaa.Sx
namespace Go.Proofs.Ytgegddefcgfhgaa.Sx
open Go
set_option linter.unusedSimpArgs false
set_option linter.unusedVariables false
set_option maxRecDepth 10000
set_option maxHeartbeats 4000000
theorem fz_nilO {ok : Nat → Bool} {r : Nat → Nat} {n : Nat} {h : List SB} : frC true ok r n h nilS (roO [] [] 0) := .inr ⟨rfl, .inl ⟨_, _, _, rfl, .inr (.inl ⟨rfl, rfl, rfl⟩)⟩⟩
theorem Opts.frc0 {r : Nat → Nat} {n : Nat} {H : List SB} {iO : Nat} {o : Bool} {rm : Nat} (O : Opts H iO o [] rm) : frC true (fun _ => true) r n H (.sl iO 0 0 rm) (roO [] [] rm) := by
  have h := O.frc (r := r) (n := n)
  rw [List.length_nil, Nat.zero_add] at h
  exact h
theorem app_self {H : List SB} {x : SB} : (H ++ [x])[H.length]? = some x := by rw [List.getElem?_append_right (Nat.le_refl _), Nat.sub_self]; rfl
theorem bootpAgain_walk : ∀ css, RTyL (RTy T reachBytes DEPTH) [22] css → Spec Try.prog 3 (svs T [22] css) [] fun r _ => r = .c (.v (.bool true)) := by
  intro css h
  obtain ⟨x2, xs2, rfl, h2, g2⟩ := RTyL_cons h
  obtain rfl := RTyL_nil g2
  obtain ⟨b, bp, bc, rfl, hb1, hb2, hb3, hb4⟩ := RTy_bytes h2
  have e2 : svOf T 22 [.sl (bsR (b ++ bp)) b.length bc] = .c (roB b bp bc) := rfl
  simp only [svs, e2]
  clear h2 g2 h e2
  have hb5 : bc ≤ 140737488351232 := hb4
  have q2 := decode_spec b bp bc (by omega) hb1
  rcases dec_cases b (by omega) with ⟨e, he, hd⟩ | ⟨m, is, hd, R⟩
  · rw [hd] at q2
    have de : decide (e = 0) = false := by simpa using he
    refine spec_of_X cx_ok Try.func3 rfl (by kernel_rfl) (by kernel_rfl) (Nat.le_of_ble_eq_true rfl) 400 14 ?_
    simp (maxSteps := 4000000) only [Try.results3, XX, Nat.reduceBEq, Nat.reduceLT, Nat.reduceAdd, Nat.reduceMul, Nat.reduceSub, Nat.reduceLeDiff, Nat.reduceEqDiff, Int.reduceToNat, Int.reduceLT, Int.reduceLE, Int.reduceAdd, Int.reduceSub, Int.reduceEq, reduceIte, Nat.reduceBNe, Int.reducePow, Nat.reducePow, Int.reduceMul, Int.reduceNeg, isB_i, isB_b, isB_y, isBv_i, isBv_b, eqCells_t, TT]
    refine call_pureF [] (K := fun s => s = .c (bC true)) live_spec trivial ?_
    rintro _ rfl
    simp (maxSteps := 4000000) only [Try.results3, XX, Nat.reduceBEq, Nat.reduceLT, Nat.reduceAdd, Nat.reduceMul, Nat.reduceSub, Nat.reduceLeDiff, Nat.reduceEqDiff, Int.reduceToNat, Int.reduceLT, Int.reduceLE, Int.reduceAdd, Int.reduceSub, Int.reduceEq, reduceIte, Nat.reduceBNe, Int.reducePow, Nat.reducePow, Int.reduceMul, Int.reduceNeg, isB_i, isB_b, isB_y, isBv_i, isBv_b, eqCells_t, TT]
    refine call_dec [.c (roB b bp bc)] q2 ⟨.inl ⟨rfl, rfl⟩, trivial⟩ ?_
    rintro t o2 es2 r2 O2 hw2 hpi2
    obtain rfl : es2 = [] := List.map_eq_nil_iff.1 hpi2
    refine gen_hp (fun H => Opts H 0 o2 [] r2) O2 ?_
    clear O2
    rintro H O2
    dsimp only [noM]
    simp (maxSteps := 4000000) only [Try.results3, de, set_end, app_self, List.length_append, List.length_cons, List.length_nil, List.append_assoc, List.getElem?_append_left, List.getElem?_append_right, List.length_append, List.length_set, List.set_append_left, gset, List.getElem?_set_ne, Nat.add_sub_cancel_left, Nat.sub_self, Nat.le_refl, Nat.le_add_right, List.replicate_one, List.flatten_cons, List.flatten_nil, rep_flat, XX, Nat.reduceBEq, Nat.reduceLT, Nat.reduceAdd, Nat.reduceMul, Nat.reduceSub, Nat.reduceLeDiff, Nat.reduceEqDiff, Int.reduceToNat, Int.reduceLT, Int.reduceLE, Int.reduceAdd, Int.reduceSub, Int.reduceEq, reduceIte, Nat.reduceBNe, Int.reducePow, Nat.reducePow, Int.reduceMul, Int.reduceNeg, isB_i, isB_b, isB_y, isBv_i, isBv_b, eqCells_t, TT]
    refine call_pureF [.agg (boC BM.zero (roO [] [] r2)), .agg (boC BM.zero (roO [] [] 0))] (same16_spec BM.zero [] [] [] [] _ 0 rfl (by simp) (by simp) (by simp) (by simp)) ⟨bo_fz (O2.app _).frc0, bo_fz fz_nilO, trivial⟩ ?_
    rintro _ rfl
    simp (maxSteps := 4000000) only [Try.results3, XX, Nat.reduceBEq, Nat.reduceLT, Nat.reduceAdd, Nat.reduceMul, Nat.reduceSub, Nat.reduceLeDiff, Nat.reduceEqDiff, Int.reduceToNat, Int.reduceLT, Int.reduceLE, Int.reduceAdd, Int.reduceSub, Int.reduceEq, reduceIte, Nat.reduceBNe, Int.reducePow, Nat.reducePow, Int.reduceMul, Int.reduceNeg, isB_i, isB_b, isB_y, isBv_i, isBv_b, eqCells_t, TT]
  · rw [hd] at q2
    refine spec_of_X cx_ok Try.func3 rfl (by kernel_rfl) (by kernel_rfl) (Nat.le_of_ble_eq_true rfl) 400 14 ?_
    simp (maxSteps := 4000000) only [Try.results3, XX, Nat.reduceBEq, Nat.reduceLT, Nat.reduceAdd, Nat.reduceMul, Nat.reduceSub, Nat.reduceLeDiff, Nat.reduceEqDiff, Int.reduceToNat, Int.reduceLT, Int.reduceLE, Int.reduceAdd, Int.reduceSub, Int.reduceEq, reduceIte, Nat.reduceBNe, Int.reducePow, Nat.reducePow, Int.reduceMul, Int.reduceNeg, isB_i, isB_b, isB_y, isBv_i, isBv_b, eqCells_t, TT]
    refine call_pureF [] (K := fun s => s = .c (bC true)) live_spec trivial ?_
    rintro _ rfl
    simp (maxSteps := 4000000) only [Try.results3, XX, Nat.reduceBEq, Nat.reduceLT, Nat.reduceAdd, Nat.reduceMul, Nat.reduceSub, Nat.reduceLeDiff, Nat.reduceEqDiff, Int.reduceToNat, Int.reduceLT, Int.reduceLE, Int.reduceAdd, Int.reduceSub, Int.reduceEq, reduceIte, Nat.reduceBNe, Int.reducePow, Nat.reducePow, Int.reduceMul, Int.reduceNeg, isB_i, isB_b, isB_y, isBv_i, isBv_b, eqCells_t, TT]
    refine call_dec [.c (roB b bp bc)] q2 ⟨.inl ⟨rfl, rfl⟩, trivial⟩ ?_
    rintro t o2 es2 r2 O2 hw2 hpi2
    obtain ⟨g1, g2, g3, g4, g5⟩ := opts_good (N := b.length + 192) (show es2.map PE.pi = is from hpi2) R.good R.sum
    have hok2 : ∀ x ∈ es2.map PE.oi, x.ok := O2.oks fun e he => ⟨by have := (g1 e he).1; omega, by have := (g1 e he).2; omega⟩
    have hl2 : es2.length ≤ 64 := by rw [List.length_map] at g3; exact g3
    refine gen_hp (fun H => Opts H 0 o2 es2 r2) O2 ?_
    clear O2
    rintro H O2
    have pe := encode_big m R.ok (es2.map PE.oi) [] (es2.length + r2) hok2 (by omega) (by omega)
    have hrf := read_ref R g5
    simp (maxSteps := 4000000) only [Try.results3, set_end, app_self, List.length_append, List.length_cons, List.length_nil, List.append_assoc, List.getElem?_append_left, List.getElem?_append_right, List.length_append, List.length_set, List.set_append_left, gset, List.getElem?_set_ne, Nat.add_sub_cancel_left, Nat.sub_self, Nat.le_refl, Nat.le_add_right, List.replicate_one, List.flatten_cons, List.flatten_nil, rep_flat, XX, Nat.reduceBEq, Nat.reduceLT, Nat.reduceAdd, Nat.reduceMul, Nat.reduceSub, Nat.reduceLeDiff, Nat.reduceEqDiff, Int.reduceToNat, Int.reduceLT, Int.reduceLE, Int.reduceAdd, Int.reduceSub, Int.reduceEq, reduceIte, Nat.reduceBNe, Int.reducePow, Nat.reducePow, Int.reduceMul, Int.reduceNeg, isB_i, isB_b, isB_y, isBv_i, isBv_b, eqCells_t, TT]
    obtain ⟨ix, hix⟩ : ∃ ix, ix = H.length := ⟨_, rfl⟩
    refine gen_call16 (fun F => Opts F 0 o2 es2 r2 ∧ F[ix]? = some (bpB m (.sl 0 0 es2.length (es2.length + r2)))) ⟨O2.app _, by rw [hix]; exact app_self⟩ ?_
    rw [← hix]
    clear O2 hix
    rintro F ⟨O2, v2⟩
    have m2 := lt_of v2
    by_cases hlong : longB m = true
    · rw [if_pos hlong] at hrf
      have hE : encF m (es2.map PE.oi) = ([], 2) := by unfold encF; rw [if_neg (by rw [hrf]; decide), hrf]
      rw [hE] at pe
      refine call_fz [.agg (boC m (roO (es2.map PE.oi) [] (es2.length + r2)))] pe (fun t h' h => resB_noRo h) ⟨bo_fz O2.frc, trivial⟩ ?_
      rintro _ _ ⟨z0, o0, rfl, rfl, ho0⟩
      have hl := hlong
      unfold longB at hl
      simp (maxSteps := 4000000) only [Try.results3, ids_bsC, ren_bsC, noRo_bsC, plain_bsC, lt_bsC, ids_byte, ren_byte, noRo_byte, plain_byte, lt_byte, v2, m2, str_size, hl, List.append_assoc, List.getElem?_append_left, List.getElem?_append_right, List.length_append, List.length_set, List.set_append_left, gset, List.getElem?_set_ne, Nat.add_sub_cancel_left, Nat.sub_self, Nat.le_refl, Nat.le_add_right, List.replicate_one, List.flatten_cons, List.flatten_nil, rep_flat, XX, Nat.reduceBEq, Nat.reduceLT, Nat.reduceAdd, Nat.reduceMul, Nat.reduceSub, Nat.reduceLeDiff, Nat.reduceEqDiff, Int.reduceToNat, Int.reduceLT, Int.reduceLE, Int.reduceAdd, Int.reduceSub, Int.reduceEq, reduceIte, Nat.reduceBNe, Int.reducePow, Nat.reducePow, Int.reduceMul, Int.reduceNeg, isB_i, isB_b, isB_y, isBv_i, isBv_b, eqCells_t, TT]
    · have hlf : longB m = false := by simpa using hlong
      rw [if_neg hlong] at hrf
      have rp := rpack_big (es2.map PE.oi) [] (es2.length + r2) hok2 1232 (.inr ⟨by omega, by decide⟩)
      by_cases hp : (packF (es2.map PE.oi) 1232).2 = 0
      · have hz : (encF m (es2.map PE.oi)).2 = 0 := by unfold encF; rw [if_pos hrf, if_pos hp]
        obtain ⟨h0, nb, nl, hE, len1, len2⟩ := encF_ok hz
        have D1 := dec_enc m R.ok (es2.map PE.oi) [] h0 nb nl
        rw [List.append_nil] at D1
        rw [hE] at pe
        dsimp only at pe
        obtain ⟨_, _, hP⟩ := packF_zero hp
        rw [hP] at rp
        dsimp only at rp
        clear hP hp hz hE h0 nb nl
        generalize encB m (encAll (es2.map PE.oi) ++ [255]) = B at *
        generalize encAll (es2.map PE.oi) ++ [255] = P at *
        refine call_fz [.agg (boC m (roO (es2.map PE.oi) [] (es2.length + r2)))] pe (fun t h' h => resB_noRo h) ⟨bo_fz O2.frc, trivial⟩ ?_
        rintro _ _ ⟨z0, o0, rfl, rfl, ho0⟩
        have hl := hlf
        unfold longB at hl
        simp (maxSteps := 4000000) only [Try.results3, ids_bsC, ren_bsC, noRo_bsC, plain_bsC, lt_bsC, ids_byte, ren_byte, noRo_byte, plain_byte, lt_byte, v2, m2, str_size, hl, List.append_assoc, List.getElem?_append_left, List.getElem?_append_right, List.length_append, List.length_set, List.set_append_left, gset, List.getElem?_set_ne, Nat.add_sub_cancel_left, Nat.sub_self, Nat.le_refl, Nat.le_add_right, List.replicate_one, List.flatten_cons, List.flatten_nil, rep_flat, XX, Nat.reduceBEq, Nat.reduceLT, Nat.reduceAdd, Nat.reduceMul, Nat.reduceSub, Nat.reduceLeDiff, Nat.reduceEqDiff, Int.reduceToNat, Int.reduceLT, Int.reduceLE, Int.reduceAdd, Int.reduceSub, Int.reduceEq, reduceIte, Nat.reduceBNe, Int.reducePow, Nat.reducePow, Int.reduceMul, Int.reduceNeg, isB_i, isB_b, isB_y, isBv_i, isBv_b, eqCells_t, TT]
        obtain rfl : o0 = true := ho0 (by omega)
        refine call_fz [.c (roO (es2.map PE.oi) [] (es2.length + r2)), .c (i64 1232)] rp (fun t h' h => resB_noRo h) ⟨(O2.app _).fz, .inl ⟨rfl, rfl⟩, trivial⟩ ?_
        rintro _ _ ⟨z1, o1, rfl, rfl, ho1⟩
        simp (maxSteps := 4000000) only [Try.results3, ids_bsC, ren_bsC, noRo_bsC, plain_bsC, lt_bsC, ids_byte, ren_byte, noRo_byte, plain_byte, lt_byte, XX, Nat.reduceBEq, Nat.reduceLT, Nat.reduceAdd, Nat.reduceMul, Nat.reduceSub, Nat.reduceLeDiff, Nat.reduceEqDiff, Int.reduceToNat, Int.reduceLT, Int.reduceLE, Int.reduceAdd, Int.reduceSub, Int.reduceEq, reduceIte, Nat.reduceBNe, Int.reducePow, Nat.reducePow, Int.reduceMul, Int.reduceNeg, isB_i, isB_b, isB_y, isBv_i, isBv_b, eqCells_t, TT]
        have q3 := decode_spec B z0 (B.length + z0.length) (by omega) (by omega)
        rw [D1] at q3
        obtain ⟨iB, hiB⟩ : ∃ iB, iB = F.length := ⟨_, rfl⟩
        refine gen_call16 (fun G => Opts G 0 o2 es2 r2 ∧ G[ix]? = some (bpB m (.sl 0 0 es2.length (es2.length + r2))) ∧ G[iB]? = some (wB true (B ++ z0))) ⟨(O2.app _).app _, by rw [List.append_assoc, List.getElem?_append_left m2]; exact v2, by rw [hiB, List.append_assoc, List.getElem?_append_right (Nat.le_refl _), Nat.sub_self]; rfl⟩ ?_
        rw [← hiB]
        clear O2 v2 m2
        rintro G ⟨O2, v2, v3⟩
        refine call_dec [.c (roB B z0 (B.length + z0.length))] q3 ⟨.inr (.inl ⟨_, _, rfl, rfl, fz_sl v3 rfl rfl⟩), trivial⟩ ?_
        rintro t4 o4 es4 r4 O4 hw4 hpi4
        obtain ⟨iy, hiy⟩ : ∃ iy, iy = G.length := ⟨_, rfl⟩
        rw [← hiy] at O4 ⊢
        refine gen_hp (fun F => F[ix]? = some (bpB m (.sl 0 0 es2.length (es2.length + r2))) ∧ Opts F 0 o2 es2 r2 ∧ Opts F iy o4 es4 r4) ⟨(List.getElem?_append_left (lt_of v2)).trans v2, O2.app _, O4⟩ ?_
        clear v2 v3 O2 O4 hiy
        rintro F ⟨v2, O2, O4⟩
        have m2 := lt_of v2
        simp (maxSteps := 4000000) only [Try.results3, set_end, app_self, v2, m2, List.length_append, List.length_cons, List.length_nil, List.append_assoc, List.getElem?_append_left, List.getElem?_append_right, List.length_append, List.length_set, List.set_append_left, gset, List.getElem?_set_ne, Nat.add_sub_cancel_left, Nat.sub_self, Nat.le_refl, Nat.le_add_right, List.replicate_one, List.flatten_cons, List.flatten_nil, rep_flat, XX, Nat.reduceBEq, Nat.reduceLT, Nat.reduceAdd, Nat.reduceMul, Nat.reduceSub, Nat.reduceLeDiff, Nat.reduceEqDiff, Int.reduceToNat, Int.reduceLT, Int.reduceLE, Int.reduceAdd, Int.reduceSub, Int.reduceEq, reduceIte, Nat.reduceBNe, Int.reducePow, Nat.reducePow, Int.reduceMul, Int.reduceNeg, isB_i, isB_b, isB_y, isBv_i, isBv_b, eqCells_t, TT]
        obtain ⟨ho4, hp4, hl4⟩ := lent_ok (show es4.map PE.pi = piL (es2.map PE.oi) from hpi4) hok2
        rw [List.length_map] at hl4
        refine call_pureF [.agg (boC m (roO (es4.map PE.oi) [] (es4.length + r4))), .agg (boC m (roO (es2.map PE.oi) [] (es2.length + r2)))] (same16_spec m _ [] _ [] _ _ hp4 ho4 hok2 (by rw [List.length_map]; omega) (by rw [List.length_map]; omega)) ⟨bo_fz (O4.app _).frc, bo_fz (O2.app _).frc, trivial⟩ ?_
        rintro _ rfl
        simp (maxSteps := 4000000) only [Try.results3, XX, Nat.reduceBEq, Nat.reduceLT, Nat.reduceAdd, Nat.reduceMul, Nat.reduceSub, Nat.reduceLeDiff, Nat.reduceEqDiff, Int.reduceToNat, Int.reduceLT, Int.reduceLE, Int.reduceAdd, Int.reduceSub, Int.reduceEq, reduceIte, Nat.reduceBNe, Int.reducePow, Nat.reducePow, Int.reduceMul, Int.reduceNeg, isB_i, isB_b, isB_y, isBv_i, isBv_b, eqCells_t, TT]
      · have hE : encF m (es2.map PE.oi) = ([], (packF (es2.map PE.oi) 1232).2) := by unfold encF; rw [if_pos hrf, if_neg hp]
        rw [hE] at pe
        have dp : decide ((packF (es2.map PE.oi) 1232).2 = 0) = false := by simpa using hp
        generalize packF (es2.map PE.oi) 1232 = pk at *
        obtain ⟨P, pk⟩ := pk
        dsimp only at pe rp dp
        refine call_fz [.agg (boC m (roO (es2.map PE.oi) [] (es2.length + r2)))] pe (fun t h' h => resB_noRo h) ⟨bo_fz O2.frc, trivial⟩ ?_
        rintro _ _ ⟨z0, o0, rfl, rfl, ho0⟩
        have hl := hlf
        unfold longB at hl
        simp (maxSteps := 4000000) only [Try.results3, ids_bsC, ren_bsC, noRo_bsC, plain_bsC, lt_bsC, ids_byte, ren_byte, noRo_byte, plain_byte, lt_byte, v2, m2, str_size, hl, List.append_assoc, List.getElem?_append_left, List.getElem?_append_right, List.length_append, List.length_set, List.set_append_left, gset, List.getElem?_set_ne, Nat.add_sub_cancel_left, Nat.sub_self, Nat.le_refl, Nat.le_add_right, List.replicate_one, List.flatten_cons, List.flatten_nil, rep_flat, XX, Nat.reduceBEq, Nat.reduceLT, Nat.reduceAdd, Nat.reduceMul, Nat.reduceSub, Nat.reduceLeDiff, Nat.reduceEqDiff, Int.reduceToNat, Int.reduceLT, Int.reduceLE, Int.reduceAdd, Int.reduceSub, Int.reduceEq, reduceIte, Nat.reduceBNe, Int.reducePow, Nat.reducePow, Int.reduceMul, Int.reduceNeg, isB_i, isB_b, isB_y, isBv_i, isBv_b, eqCells_t, TT]
        refine call_fz [.c (roO (es2.map PE.oi) [] (es2.length + r2)), .c (i64 1232)] rp (fun t h' h => resB_noRo h) ⟨(O2.app _).fz, .inl ⟨rfl, rfl⟩, trivial⟩ ?_
        rintro _ _ ⟨z1, o1, rfl, rfl, ho1⟩
        have dpp : decide (pk = pk) = true := by simp
        simp (maxSteps := 4000000) only [Try.results3, ids_bsC, ren_bsC, noRo_bsC, plain_bsC, lt_bsC, ids_byte, ren_byte, noRo_byte, plain_byte, lt_byte, dp, dpp, XX, Nat.reduceBEq, Nat.reduceLT, Nat.reduceAdd, Nat.reduceMul, Nat.reduceSub, Nat.reduceLeDiff, Nat.reduceEqDiff, Int.reduceToNat, Int.reduceLT, Int.reduceLE, Int.reduceAdd, Int.reduceSub, Int.reduceEq, reduceIte, Nat.reduceBNe, Int.reducePow, Nat.reducePow, Int.reduceMul, Int.reduceNeg, isB_i, isB_b, isB_y, isBv_i, isBv_b, eqCells_t, TT]
end Go.Proofs.Ytgegddefcgfhgaa.Sx
