/- The symbolic executor, at work: what the laws lean on, part 1. No condition. -/
import Derived.Test.YtgegddefcgfhgaaZ3
namespace Go.Proofs.Ytgegddefcgfhgaa.Sx
open Go
set_option linter.unusedSimpArgs false
set_option linter.unusedVariables false
set_option maxRecDepth 10000
set_option maxHeartbeats 1000000
theorem bs_one (b : UInt8) : [byteC b] = bsC [b] := rfl
theorem bs_cons (b : UInt8) (l : List UInt8) : byteC b :: bsC l = bsC (b :: l) := rfl
theorem bsC_inj {a b : List UInt8} : bsC a = bsC b ↔ a = b := by
  constructor
  · intro h
    have := congrArg (List.map byteOf) h
    simp only [List.map_map] at this
    have e : (byteOf ∘ byteC) = id := by funext b; exact byteOf_byteC b
    rw [e, List.map_id, List.map_id] at this
    exact this
  · rintro rfl; rfl
/-- One more is written over. -/
theorem over_step (b : UInt8) (l : List UInt8) (i : Nat) (hi : i < l.length) : (List.replicate i b ++ l.drop i).take i ++ [b] ++ (List.replicate i b ++ l.drop i).drop (i + 1) = List.replicate (i + 1) b ++ l.drop (i + 1) := by
  rw [List.take_left' (by simp), show i + 1 = (List.replicate i b).length + 1 by simp, List.drop_append, List.replicate_succ']
  simp [List.drop_drop]
theorem xapp_both {xn : XN} {need cap : Nat} {dst : Option Tmp} {k : List KI} {nm : NB} {tm : List (Nat × SV)} {room : SV × List SB} {grow : Nat → SV × List SB} {Q : XE → St → Prop}
    (h1 : need ≤ cap → xn k ⟨nm, put dst room.1 tm, room.2⟩ Q) (h2 : cap < need → ∀ c, need ≤ c → c ≤ maxLen → xn k ⟨nm, put dst (grow c).1 tm, (grow c).2⟩ Q) : XApp xn need cap dst k nm tm room grow Q := ⟨fun h => .inl (h1 h), fun h c h3 h4 => .inl (h2 h c h3 h4)⟩
theorem tdiv256 (n : Nat) : (n : Int).tdiv 256 = ((n / 256 : Nat) : Int) := rfl
theorem tmod256 (n : Nat) : (n : Int).tmod 256 = ((n % 256 : Nat) : Int) := rfl
theorem byteC_m (m : Nat) : SC.v (.int .u8 (IntKind.u8.wrap ((m % 256 : Nat) : Int))) = byteC (UInt8.ofNat m) := byteC_nat m (by omega)
theorem lent_spec (l sp : List UInt8) (c : Nat) (hl : l.length ≤ 140737488355328) :
    Spec cx.P 28 [.c (roB l sp c)] [] fun s h' => s = .c (.sl 0 0 l.length (l.length + 2)) ∧ h' = [wB true (l ++ [71, 72])] := by
  refine spec_of_X cx_ok Try.func28 rfl (by kernel_rfl) (by kernel_rfl) (Nat.le_of_ble_eq_true rfl) 400 5 ?_
  simp (maxSteps := 4000000) only [Try.results28, XX, Nat.reduceBEq, Nat.reduceLT, Nat.reduceAdd, Nat.reduceMul, Nat.reduceSub, Nat.reduceLeDiff, Nat.reduceEqDiff, Int.reduceToNat, Int.reduceLT, Int.reduceLE, Int.reduceAdd, Int.reduceSub, Int.reduceEq, reduceIte, Nat.reduceBNe, Int.reducePow, Nat.reducePow, Int.reduceMul, Int.reduceNeg, isB_i, isB_b, isB_y, isBv_i, isBv_b, eqCells_t, TT]
  simp (disch := omega) only [w64]
  have e1 : ((l.length : Int) + 2).toNat = l.length + 2 := by omega
  have e2 : ((l.length : Int) + 1).toNat = l.length + 1 := by omega
  have b1 : SC.v (.int .u8 71) = byteC 71 := rfl
  have b2 : SC.v (.int .u8 72) = byteC 72 := rfl
  simp only [e1, e2, b1, b2, zeros_flat, bs_one, rs_take, rs_len, bsR_toSC, bs_take, bs_drop, bs_app, bsC_len]
  refine ⟨by omega, ⟨by simp, by simp⟩, by omega, by simp, by omega, by simp, by omega, ?_, ?_⟩
  · trivial
  · congr 2
    rw [bsC_inj]
    simp (disch := omega) [List.take_append, List.drop_append, List.take_of_length_le, List.drop_of_length_le, Nat.add_assoc, Nat.add_sub_cancel_left]
/-- What was lent stands as it was: it is written over. -/
theorem asLent_spec (l sp : List UInt8) (c : Nat) (hl : l.length ≤ 140737488355328) :
    Spec cx.P 29 [.c (.sl 0 0 l.length (l.length + 2)), .c (roB l sp c)] [wB true (l ++ [71, 72])] fun s h' => s = .c (bC true) ∧ h' = [wB true (List.replicate (l.length + 2) 83)] := by
  refine spec_of_X cx_ok Try.func29 rfl (by kernel_rfl) (by kernel_rfl) (Nat.le_of_ble_eq_true rfl) 400 9 ?_
  simp (maxSteps := 4000000) only [Try.results29, XX, Nat.reduceBEq, Nat.reduceLT, Nat.reduceAdd, Nat.reduceMul, Nat.reduceSub, Nat.reduceLeDiff, Nat.reduceEqDiff, Int.reduceToNat, Int.reduceLT, Int.reduceLE, Int.reduceAdd, Int.reduceSub, Int.reduceEq, reduceIte, Nat.reduceBNe, Int.reducePow, Nat.reducePow, Int.reduceMul, Int.reduceNeg, isB_i, isB_b, isB_y, isBv_i, isBv_b, eqCells_t, TT]
  have e1 : IntKind.i64.wrap ((l.length : Int) + 2) = ((l.length + 2 : Nat) : Int) := by rw [w64] <;> omega
  simp only [e1]
  refine ⟨by omega, ?_⟩
  have t1 : (bsC (l ++ [71, 72])).take l.length = bsC l := by rw [bs_take, List.take_left]
  have t2 : ((bsR (l ++ sp)).take l.length).map RC.toSC = bsC l := by rw [rs_take, bsR_toSC, List.take_left]
  have g1 : (bsC (l ++ [71, 72])).getD l.length .any = SC.v (.int .u8 71) := by simp [List.getD, byteC]
  have g2 : (bsC (l ++ [71, 72])).getD (l.length + 1) .any = SC.v (.int .u8 72) := by simp [List.getD, byteC]
  have e2 : IntKind.i64.wrap ((l.length : Int) + 1) = ((l.length + 1 : Nat) : Int) := by rw [w64] <;> omega
  refine draw_of cx_ok (by kernel_rfl) 400 [0] [(0, true), (1, true), (2, true), (3, true), (4, true), (5, true), (6, true), (7, true), (8, true), (9, true), (10, true), (11, true), (12, true), (13, true), (14, true), (15, true), (16, true), (17, true), (18, true), (19, true), (20, true), (21, true), (22, true)] (by kernel_rfl) rfl ?_
  simp (maxSteps := 4000000) only [Try.results29, t1, t2, g1, g2, e2, XX, Nat.reduceBEq, Nat.reduceLT, Nat.reduceAdd, Nat.reduceMul, Nat.reduceSub, Nat.reduceLeDiff, Nat.reduceEqDiff, Int.reduceToNat, Int.reduceLT, Int.reduceLE, Int.reduceAdd, Int.reduceSub, Int.reduceEq, reduceIte, Nat.reduceBNe, Int.reducePow, Nat.reducePow, Int.reduceMul, Int.reduceNeg, isB_i, isB_b, isB_y, isBv_i, isBv_b, eqCells_t, TT]
  refine ⟨by omega, ⟨by simp, isByte_bsC l⟩, ⟨by simp, isByte_bsC l⟩, by omega, by simp, by omega, by simp, ?_⟩
  have hbase := hl
  refine loop_of cx_ok 400 (fun μ σ => ∃ i, μ = l.length + 2 - i ∧ i ≤ l.length + 2 ∧
      σ = ⟨⟨9, 1⟩, [(4, .c (bC false)), (6, .c (.sl 0 0 (l.length + 2) (l.length + 2))), (7, .c (bC true)), (8, .c (i64 (i : Nat)))], [wB true (List.replicate i 83 ++ (l ++ [71, 72]).drop i)]⟩) (l.length + 2) ⟨⟨9, 1⟩, [(4, .c (bC false)), (6, .c (.sl 0 0 (l.length + 2) (l.length + 2))), (7, .c (bC true)), (8, .c (i64 (0 : Nat)))], [wB true (List.replicate 0 83 ++ (l ++ [71, 72]).drop 0)]⟩ ⟨0, rfl, Nat.zero_le _, rfl⟩ [some 0]
    ⟨rfl, rfl, by simp only [XX, Nat.reduceBEq, Nat.reduceLT, Nat.reduceAdd, Nat.reduceMul, Nat.reduceSub, Nat.reduceLeDiff, Nat.reduceEqDiff, Int.reduceToNat, Int.reduceLT, Int.reduceLE, Int.reduceAdd, Int.reduceSub, Int.reduceEq, reduceIte, Nat.reduceBNe, Int.reducePow, Nat.reducePow, Int.reduceMul, Int.reduceNeg, isB_i, isB_b, isB_y, isBv_i, isBv_b, eqCells_t, TT, ids_bsC, ren_bsC, List.replicate_zero], by simp only [XX, Nat.reduceBEq, Nat.reduceLT, Nat.reduceAdd, Nat.reduceMul, Nat.reduceSub, Nat.reduceLeDiff, Nat.reduceEqDiff, Int.reduceToNat, Int.reduceLT, Int.reduceLE, Int.reduceAdd, Int.reduceSub, Int.reduceEq, reduceIte, Nat.reduceBNe, Int.reducePow, Nat.reducePow, Int.reduceMul, Int.reduceNeg, isB_i, isB_b, isB_y, isBv_i, isBv_b, eqCells_t, TT]⟩ ?_
  rintro μ σ ⟨i, rfl, hi, rfl⟩
  simp (maxSteps := 4000000) only [Try.results29, XX, Nat.reduceBEq, Nat.reduceLT, Nat.reduceAdd, Nat.reduceMul, Nat.reduceSub, Nat.reduceLeDiff, Nat.reduceEqDiff, Int.reduceToNat, Int.reduceLT, Int.reduceLE, Int.reduceAdd, Int.reduceSub, Int.reduceEq, reduceIte, Nat.reduceBNe, Int.reducePow, Nat.reducePow, Int.reduceMul, Int.reduceNeg, isB_i, isB_b, isB_y, isBv_i, isBv_b, eqCells_t, TT]
  by_cases hlt : i < l.length + 2
  · have hd : decide ((i : Int) < ((l.length + 2 : Nat) : Int)) = true := by simp only [decide_eq_true_eq]; omega
    simp (maxSteps := 4000000) only [Try.results29, hd, XX, Nat.reduceBEq, Nat.reduceLT, Nat.reduceAdd, Nat.reduceMul, Nat.reduceSub, Nat.reduceLeDiff, Nat.reduceEqDiff, Int.reduceToNat, Int.reduceLT, Int.reduceLE, Int.reduceAdd, Int.reduceSub, Int.reduceEq, reduceIte, Nat.reduceBNe, Int.reducePow, Nat.reducePow, Int.reduceMul, Int.reduceNeg, isB_i, isB_b, isB_y, isBv_i, isBv_b, eqCells_t, TT]
    have hle : i + 1 ≤ (List.replicate i 83 ++ (l ++ [71, 72]).drop i).length := by simp; omega
    have e3 : IntKind.i64.wrap ((i : Int) + 1) = ((i + 1 : Nat) : Int) := by rw [w64] <;> omega
    have b3 : SC.v (.int .u8 83) = byteC 83 := rfl
    refine ⟨⟨by omega, by omega⟩, by rw [bsC_len]; exact hle, l.length + 2 - (i + 1), by omega, _, ⟨i + 1, rfl, by omega, rfl⟩, [some 0], ⟨rfl, rfl, ?_, ?_⟩⟩
    · simp only [b3, bs_take, bs_drop, bs_one, bs_app, over_step 83 (l ++ [71, 72]) i (by simpa using hlt)]
      simp only [XX, Nat.reduceBEq, Nat.reduceLT, Nat.reduceAdd, Nat.reduceMul, Nat.reduceSub, Nat.reduceLeDiff, Nat.reduceEqDiff, Int.reduceToNat, Int.reduceLT, Int.reduceLE, Int.reduceAdd, Int.reduceSub, Int.reduceEq, reduceIte, Nat.reduceBNe, Int.reducePow, Nat.reducePow, Int.reduceMul, Int.reduceNeg, isB_i, isB_b, isB_y, isBv_i, isBv_b, eqCells_t, TT, ids_bsC, ren_bsC]
    · simp only [XX, Nat.reduceBEq, Nat.reduceLT, Nat.reduceAdd, Nat.reduceMul, Nat.reduceSub, Nat.reduceLeDiff, Nat.reduceEqDiff, Int.reduceToNat, Int.reduceLT, Int.reduceLE, Int.reduceAdd, Int.reduceSub, Int.reduceEq, reduceIte, Nat.reduceBNe, Int.reducePow, Nat.reducePow, Int.reduceMul, Int.reduceNeg, isB_i, isB_b, isB_y, isBv_i, isBv_b, eqCells_t, TT, e3]
  · have hd : decide ((i : Int) < ((l.length + 2 : Nat) : Int)) = false := by simp only [decide_eq_false_iff_not]; omega
    simp (maxSteps := 4000000) only [Try.results29, hd, XX, Nat.reduceBEq, Nat.reduceLT, Nat.reduceAdd, Nat.reduceMul, Nat.reduceSub, Nat.reduceLeDiff, Nat.reduceEqDiff, Int.reduceToNat, Int.reduceLT, Int.reduceLE, Int.reduceAdd, Int.reduceSub, Int.reduceEq, reduceIte, Nat.reduceBNe, Int.reducePow, Nat.reducePow, Int.reduceMul, Int.reduceNeg, isB_i, isB_b, isB_y, isBv_i, isBv_b, eqCells_t, TT]
    obtain rfl : i = l.length + 2 := by omega
    rw [List.drop_of_length_le (by simp), List.append_nil]
end Go.Proofs.Ytgegddefcgfhgaa.Sx
namespace Go.Proofs.Ytgegddefcgfhgaa.Sx
open Go
set_option linter.unusedSimpArgs false
set_option linter.unusedVariables false
theorem unL_maskL (L : List Nat) (h : List SB) : unL L 0 h (maskL L 0 h) = h := by
  apply List.ext_getElem?
  intro i
  rw [unL_get, maskL_get]
  cases hb : h[i]? with
  | none => rfl
  | some b =>
    simp only [Option.map_some, Nat.zero_add]
    cases L.contains i <;> simp
end Go.Proofs.Ytgegddefcgfhgaa.Sx
namespace Go.Proofs.Ytgegddefcgfhgaa.Sx
open Go
set_option linter.unusedSimpArgs false
set_option linter.unusedVariables false
theorem RTy_byte {B n : Nat} {x : List RC} (h : RTy T B (n + 1) 5 x) : ∃ b : UInt8, x = [byteR b] := by
  obtain ⟨z, rfl, h1, h2⟩ := RTy_int T_5 h
  simp [IntKind.min, IntKind.max, IntKind.bits, IntKind.signed] at h1 h2
  refine ⟨UInt8.ofNat z.toNat, ?_⟩
  simp only [byteR]
  congr 3
  simp
  omega
theorem bsR_flat : ∀ ys : List UInt8, (ys.map fun b : UInt8 => [byteR b]).flatten = bsR ys
  | [] => rfl
  | y :: ys => by simp only [List.map_cons, List.flatten_cons, bsR_flat ys]; rfl
theorem RTy_bytes {B n : Nat} {x : List RC} (h : RTy T B (n + 2) 22 x) : ∃ (l sp : List UInt8) (c : Nat), x = [.sl (bsR (l ++ sp)) l.length c] ∧ l.length ≤ c ∧ c = l.length + sp.length ∧ c ≤ maxLen ∧ c ≤ B := by
  obtain ⟨items, len, rfl, h1, h2, h3, h4⟩ := RTy_slice T_22 T_5 h
  obtain ⟨ys, rfl, _⟩ := all_form (p := fun _ => True) (f := fun b : UInt8 => [byteR b]) fun x hx => by
    obtain ⟨b, rfl⟩ := RTy_byte (h4 x hx)
    exact ⟨b, rfl, trivial⟩
  simp only [List.length_map, Nat.mul_one] at h1 h2 h3 ⊢
  refine ⟨ys.take len, ys.drop len, ys.length, ?_, ?_, ?_, h2, h3⟩
  · rw [bsR_flat, List.take_append_drop, List.length_take, Nat.min_eq_left h1]
  · rw [List.length_take]; omega
  · rw [List.length_take, List.length_drop]; omega
end Go.Proofs.Ytgegddefcgfhgaa.Sx
namespace Go.Proofs.Ytgegddefcgfhgaa.Sx
open Go
set_option linter.unusedSimpArgs false
set_option linter.unusedVariables false
theorem cellsB_one {l sp : List UInt8} {x : UInt8} {n : Nat} (hn : l.length = n) : (bsC (l ++ sp)).take n ++ (byteC x :: (bsC (l ++ sp)).drop (n + 1)) = bsC ((l ++ [x]) ++ sp.drop 1) :=
  cellsB_app (news := [x]) hn rfl
theorem cellsB_new1 {l sp : List UInt8} {x : UInt8} {n c : Nat} (hn : l.length = n) : (bsC (l ++ sp)).take n ++ (byteC x :: List.replicate c (SC.v (.int .u8 0))) = bsC ((l ++ [x]) ++ List.replicate c 0) :=
  cellsB_new (news := [x]) hn
/-- A byte behind a list, either way. -/
theorem xapp_one {xn : XN} {dst : Option Tmp} {k : List KI} {nm : NB} {tm : List (Nat × SV)} {Q : XE → St → Prop} {H : List SB} {w n c : Nat} {o : Bool} {l sp : List UInt8} {x : UInt8} {t : List SB} {g : Nat} (B : Buf H w o l sp) (hn : l.length = n) (hc : c = n + sp.length) (hg : g = H.length + t.length)
    (hk : ∀ H' w' sp', Buf H' w' true (l ++ [x]) sp' → H.length ≤ H'.length → (∀ k, k < H.length → k ≠ w → H'[k]? = H[k]?) → (w' = w ∨ H.length ≤ w') → xn k ⟨nm, put dst (.c (slB w' (l ++ [x]) sp')) tm, H'⟩ Q) :
    XApp xn (n + 1) c dst k nm tm (.c (.sl w 0 (n + 1) c), H.set w ⟨o, 5, (bsC (l ++ sp)).take n ++ (byteC x :: (bsC (l ++ sp)).drop (n + 1))⟩ ++ t)
      (fun c' => (.c (.sl g 0 (n + 1) c'), H ++ (t ++ [⟨true, 5, (bsC (l ++ sp)).take n ++ (byteC x :: List.replicate (c' - (n + 1)) (SC.v (.int .u8 0)))⟩]))) Q := by
  refine xapp_P (BufP H w (l ++ [x])) (fun h => ?_) (fun h c' h1 h2 => ?_) ?_
  · exact bufP_room B.at_ (B.own (by omega)) (cellsB_one hn) (by simp [hn]) (by simp; omega)
  · exact bufP_grow (cellsB_new1 hn) hg (by simp [hn]) (by simp; omega)
  · rintro s H' ⟨w', sp', rfl, b, h1, h2, h3⟩
    exact hk H' w' sp' b h1 h2 h3
end Go.Proofs.Ytgegddefcgfhgaa.Sx
namespace Go.Proofs.Ytgegddefcgfhgaa.Sx
open Go
set_option linter.unusedSimpArgs false
set_option linter.unusedVariables false
set_option maxRecDepth 10000
set_option maxHeartbeats 2000000
abbrev nilC : SC := .v (.slice none 0 0)
abbrev noS : SC := .v (.string ⟨#[]⟩)
abbrev bookB (a b : SC) : SB := ⟨true, 51, [a, b]⟩
abbrev listsB (l : List SC) : SB := ⟨true, 22, l⟩
abbrev wasB (l : List SC) : SB := ⟨true, 9, l⟩
/-- How a book stands: its lists, and how they read. -/
structure Book (h : List SB) (ib : Nat) (ls : List SC) (ws : List (List UInt8)) (iL cL iW cW : Nat) : Prop where
  b : h[ib]? = some (bookB (.sl iL 0 ls.length cL) (.sl iW 0 ls.length cW))
  L : h[iL]? = some (listsB (ls ++ List.replicate (cL - ls.length) nilC))
  W : h[iW]? = some (wasB (ws.map strB ++ List.replicate (cW - ls.length) noS))
  n : ws.length = ls.length
  cl : ls.length ≤ cL
  cw : ls.length ≤ cW
/-- All windows but those are as they were. -/
def But (h h' : List SB) (p : Nat → Prop) : Prop := h.length ≤ h'.length ∧ ∀ k, k < h.length → ¬ p k → h'[k]? = h[k]?
theorem take0_spec (h : List SB) (ib ia : Nat) (l sp : List UInt8) (oa : Bool) (c : Nat) (hl : l.length ≤ 140737488355328) (hb : h[ib]? = some (bookB nilC nilC)) (ha : h[ia]? = some (wB oa (l ++ sp))) :
    Spec cx.P 25 [.c (.ptr ib 0), .c (.sl ia 0 l.length c)] h fun s h' => s = .tup [] ∧ ∃ iL cL iW cW, Book h' ib [.sl ia 0 l.length c] [l] iL cL iW cW ∧ But h h' (· = ib) ∧ h.length ≤ iL ∧ h.length ≤ iW := by
  have lb := lt_of hb
  have la := lt_of ha
  have ne : ib ≠ ia := ne_of_ty hb ha (fun h => absurd h (by decide : (51 : Nat) ≠ 5))
  have tk : (bsC (l ++ sp)).take l.length = bsC l := by rw [bs_take, List.take_left' rfl]
  have em : (.string ByteArray.empty : Value) = .string ⟨#[]⟩ := rfl
  refine spec_of_X cx_ok Try.func25 rfl (by kernel_rfl) (by kernel_rfl) (Nat.le_of_ble_eq_true rfl) 400 2 ?_
  simp (maxSteps := 4000000) only [Try.results25, XX, Nat.reduceBEq, Nat.reduceLT, Nat.reduceAdd, Nat.reduceMul, Nat.reduceSub, Nat.reduceLeDiff, Nat.reduceEqDiff, Int.reduceToNat, Int.reduceLT, Int.reduceLE, Int.reduceAdd, Int.reduceSub, Int.reduceEq, reduceIte, Nat.reduceBNe, Int.reducePow, Nat.reducePow, Int.reduceMul, Int.reduceNeg, isB_i, isB_b, isB_y, isBv_i, isBv_b, eqCells_t, TT]
  simp (maxSteps := 4000000) only [Try.results25, hb, ha, lb, la, ne, tk, List.append_assoc, List.getElem?_append_left, List.getElem?_append_right, List.length_append, List.length_set, List.set_append_left, gset, List.getElem?_set_ne, Nat.add_sub_cancel_left, Nat.sub_self, Nat.le_refl, Nat.le_add_right, rep_flat, List.replicate_one, List.flatten_cons, List.flatten_nil, maskL_nil, unL_nil, XX, Nat.reduceBEq, Nat.reduceLT, Nat.reduceAdd, Nat.reduceMul, Nat.reduceSub, Nat.reduceLeDiff, Nat.reduceEqDiff, Int.reduceToNat, Int.reduceLT, Int.reduceLE, Int.reduceAdd, Int.reduceSub, Int.reduceEq, reduceIte, Nat.reduceBNe, Int.reducePow, Nat.reducePow, Int.reduceMul, Int.reduceNeg, isB_i, isB_b, isB_y, isBv_i, isBv_b, eqCells_t, TT]
  refine ⟨by unfold maxLen; omega, xapp_grow (by omega) fun cL hL _ => ?_⟩
  simp (maxSteps := 4000000) only [Try.results25, hb, ha, lb, la, ne, tk, List.append_assoc, List.getElem?_append_left, List.getElem?_append_right, List.length_append, List.length_set, List.set_append_left, gset, List.getElem?_set_ne, Nat.add_sub_cancel_left, Nat.sub_self, Nat.le_refl, Nat.le_add_right, rep_flat, List.replicate_one, List.flatten_cons, List.flatten_nil, maskL_nil, unL_nil, XX, Nat.reduceBEq, Nat.reduceLT, Nat.reduceAdd, Nat.reduceMul, Nat.reduceSub, Nat.reduceLeDiff, Nat.reduceEqDiff, Int.reduceToNat, Int.reduceLT, Int.reduceLE, Int.reduceAdd, Int.reduceSub, Int.reduceEq, reduceIte, Nat.reduceBNe, Int.reducePow, Nat.reducePow, Int.reduceMul, Int.reduceNeg, isB_i, isB_b, isB_y, isBv_i, isBv_b, eqCells_t, TT]
  refine draw2_of cx_ok (by kernel_rfl) 400 [] (.pair [(0, true), (1, true), (2, true), (3, true), (5, true)] 4 6 (.done [(6, false), (7, false), (8, false), (9, true), (10, true), (11, false)]) (.pair [] 4 7 (.done [(7, false), (8, false), (9, true), (10, true), (11, false)]) (.done [(4, false), (8, false), (9, true), (10, true), (11, false)]))) (by kernel_rfl) rfl ?_
  simp (maxSteps := 4000000) only [Try.results25, PXT_done, PXT_pair, hb, ha, lb, la, ne, tk, List.append_assoc, List.getElem?_append_left, List.getElem?_append_right, List.length_append, List.length_set, List.set_append_left, gset, List.getElem?_set_ne, Nat.add_sub_cancel_left, Nat.sub_self, Nat.le_refl, Nat.le_add_right, rep_flat, List.replicate_one, List.flatten_cons, List.flatten_nil, maskL_nil, unL_nil, strOf_bsC, XX, Nat.reduceBEq, Nat.reduceLT, Nat.reduceAdd, Nat.reduceMul, Nat.reduceSub, Nat.reduceLeDiff, Nat.reduceEqDiff, Int.reduceToNat, Int.reduceLT, Int.reduceLE, Int.reduceAdd, Int.reduceSub, Int.reduceEq, reduceIte, Nat.reduceBNe, Int.reducePow, Nat.reducePow, Int.reduceMul, Int.reduceNeg, isB_i, isB_b, isB_y, isBv_i, isBv_b, eqCells_t, TT]
  have q1 : l.length ≤ (bsC (l ++ sp)).length := by simp
  have q2 := isByte_bsC l
  have q3 : 1 ≤ maxLen := by unfold maxLen; omega
  refine ⟨⟨⟨q1, q2⟩, q3, ?_⟩, ⟨q1, q2⟩, ⟨q3, ?_⟩, q3, ?_⟩
  all_goals
    refine xapp_grow (by omega) fun cW hW _ => ?_
    simp (maxSteps := 4000000) only [Try.results25, hb, ha, lb, la, ne, tk, List.append_assoc, List.getElem?_append_left, List.getElem?_append_right, List.length_append, List.length_set, List.set_append_left, gset, List.getElem?_set_ne, Nat.add_sub_cancel_left, Nat.sub_self, Nat.le_refl, Nat.le_add_right, rep_flat, List.replicate_one, List.flatten_cons, List.flatten_nil, maskL_nil, unL_nil, em, XX, Nat.reduceBEq, Nat.reduceLT, Nat.reduceAdd, Nat.reduceMul, Nat.reduceSub, Nat.reduceLeDiff, Nat.reduceEqDiff, Int.reduceToNat, Int.reduceLT, Int.reduceLE, Int.reduceAdd, Int.reduceSub, Int.reduceEq, reduceIte, Nat.reduceBNe, Int.reducePow, Nat.reducePow, Int.reduceMul, Int.reduceNeg, isB_i, isB_b, isB_y, isBv_i, isBv_b, eqCells_t, TT]
    refine ⟨h.length + 1, cL, h.length + 3, cW, ⟨?_, ?_, ?_, rfl, hL, hW⟩, ⟨by simp, fun k hk hne => ?_⟩, by omega, by omega⟩
    · simp only [lb, gset, hb, List.getElem?_append_left, List.length_set, Option.map_some]; rfl
    · simp only [List.getElem?_append_right, List.length_set, Nat.le_add_right, Nat.add_sub_cancel_left]; rfl
    · simp only [List.getElem?_append_right, List.length_set, Nat.le_add_right, Nat.add_sub_cancel_left]; rfl
    · rw [List.getElem?_append_left (by simpa using hk), List.getElem?_set_ne (show ib ≠ k from fun h => hne h.symm), List.getElem?_set_ne (show ib ≠ k from fun h => hne h.symm)]
theorem drop_rep (xs : List SC) (x : SC) (c n : Nat) (hn : n = xs.length) : List.drop (n + 1) (xs ++ List.replicate (c - n) x) = List.replicate (c - (n + 1)) x := by
  subst hn
  rw [List.drop_append, List.drop_of_length_le (by omega), List.nil_append, List.drop_replicate]
  congr 1
  omega
theorem take_rep (xs ys : List SC) (n : Nat) (hn : n = xs.length) : List.take n (xs ++ ys) = xs := by
  subst hn; exact List.take_left' rfl
theorem take_spec (h : List SB) (ib ia : Nat) (ls : List SC) (ws : List (List UInt8)) (iL cL0 iW cW0 : Nat) (l sp : List UInt8) (oa : Bool) (c : Nat) (hl : l.length ≤ 140737488355328) (B : Book h ib ls ws iL cL0 iW cW0) (hn : ls.length ≤ 4398046511104) (ha : h[ia]? = some (wB oa (l ++ sp))) :
    Spec cx.P 25 [.c (.ptr ib 0), .c (.sl ia 0 l.length c)] h fun s h' => s = .tup [] ∧ ∃ iL' cL iW' cW, Book h' ib (ls ++ [.sl ia 0 l.length c]) (ws ++ [l]) iL' cL iW' cW ∧ But h h' (fun k => k = ib ∨ k = iL ∨ k = iW) ∧ (iL' = iL ∨ h.length ≤ iL') ∧ (iW' = iW ∨ h.length ≤ iW') := by
  obtain ⟨hb, hL, hW, hwn, hcL, hcW⟩ := B
  have lb := lt_of hb
  have la := lt_of ha
  have lL := lt_of hL
  have lW := lt_of hW
  have ne : ib ≠ ia := ne_of_ty hb ha (fun h => absurd h (by decide : (51 : Nat) ≠ 5))
  have ne1 : ib ≠ iL := ne_of_ty hb hL (fun h => absurd h (by decide : (51 : Nat) ≠ 22))
  have ne2 : ib ≠ iW := ne_of_ty hb hW (fun h => absurd h (by decide : (51 : Nat) ≠ 9))
  have ne3 : iL ≠ iW := ne_of_ty hL hW (fun h => absurd h (by decide : (22 : Nat) ≠ 9))
  have ne4 : iL ≠ ia := ne_of_ty hL ha (fun h => absurd h (by decide : (22 : Nat) ≠ 5))
  have ne5 : iW ≠ ia := ne_of_ty hW ha (fun h => absurd h (by decide : (9 : Nat) ≠ 5))
  have tk : (bsC (l ++ sp)).take l.length = bsC l := by rw [bs_take, List.take_left' rfl]
  have em : (.string ByteArray.empty : Value) = .string ⟨#[]⟩ := rfl
  have tL : ∀ ys, List.take ls.length (ls ++ ys) = ls := fun ys => take_rep ls ys _ rfl
  have tW : ∀ ys, List.take ls.length (ws.map strB ++ ys) = ws.map strB := fun ys => take_rep _ ys _ (by simp [hwn])
  have dL : List.drop (ls.length + 1) (ls ++ List.replicate (cL0 - ls.length) nilC) = List.replicate (cL0 - (ls.length + 1)) nilC := drop_rep _ _ _ _ rfl
  have dW : List.drop (ls.length + 1) (ws.map strB ++ List.replicate (cW0 - ls.length) noS) = List.replicate (cW0 - (ls.length + 1)) noS := drop_rep _ _ _ _ (by simp [hwn])
  have q1 : l.length ≤ (bsC (l ++ sp)).length := by simp
  have q2 := isByte_bsC l
  have q3 : (ls.length + 1) * 16 ≤ 190000000000000 ∧ ls.length + 1 ≤ maxLen ∧ ls.length ≤ (ws.map strB).length + (List.replicate (cW0 - ls.length) noS).length ∧ (ls.length + 1 ≤ cW0 → ls.length + 1 ≤ (ws.map strB).length + (List.replicate (cW0 - ls.length) noS).length) := by
    refine ⟨by omega, by unfold maxLen; omega, by simp [hwn], fun h => by simp [hwn]; omega⟩
  have fin : ∀ a b c d : List (List UInt8), True := fun _ _ _ _ => trivial
  refine spec_of_X cx_ok Try.func25 rfl (by kernel_rfl) (by kernel_rfl) (Nat.le_of_ble_eq_true rfl) 400 2 ?_
  simp (maxSteps := 4000000) only [Try.results25, XX, Nat.reduceBEq, Nat.reduceLT, Nat.reduceAdd, Nat.reduceMul, Nat.reduceSub, Nat.reduceLeDiff, Nat.reduceEqDiff, Int.reduceToNat, Int.reduceLT, Int.reduceLE, Int.reduceAdd, Int.reduceSub, Int.reduceEq, reduceIte, Nat.reduceBNe, Int.reducePow, Nat.reducePow, Int.reduceMul, Int.reduceNeg, isB_i, isB_b, isB_y, isBv_i, isBv_b, eqCells_t, TT]
  simp (maxSteps := 4000000) only [Try.results25, hb, ha, hL, hW, lb, la, lL, lW, ne, ne1, ne2, ne3, ne4, ne5, ne.symm, ne1.symm, ne2.symm, ne3.symm, ne4.symm, ne5.symm, tk, tL, tW, dL, dW, List.append_assoc, List.getElem?_append_left, List.getElem?_append_right, List.length_append, List.length_set, List.set_append_left, gset, List.getElem?_set_ne, Nat.add_sub_cancel_left, Nat.sub_self, Nat.le_refl, Nat.le_add_right, rep_flat, List.replicate_one, List.flatten_cons, List.flatten_nil, maskL_nil, unL_nil, XX, Nat.reduceBEq, Nat.reduceLT, Nat.reduceAdd, Nat.reduceMul, Nat.reduceSub, Nat.reduceLeDiff, Nat.reduceEqDiff, Int.reduceToNat, Int.reduceLT, Int.reduceLE, Int.reduceAdd, Int.reduceSub, Int.reduceEq, reduceIte, Nat.reduceBNe, Int.reducePow, Nat.reducePow, Int.reduceMul, Int.reduceNeg, isB_i, isB_b, isB_y, isBv_i, isBv_b, eqCells_t, TT]
  refine ⟨⟨by omega, by unfold maxLen; omega, fun h => by simp; omega⟩, xapp_both (fun hr => ?_) (fun hg cL hcL' _ => ?_)⟩
  · simp (maxSteps := 4000000) only [Try.results25, hb, ha, hL, hW, lb, la, lL, lW, ne, ne1, ne2, ne3, ne4, ne5, ne.symm, ne1.symm, ne2.symm, ne3.symm, ne4.symm, ne5.symm, tk, tL, tW, dL, dW, List.append_assoc, List.getElem?_append_left, List.getElem?_append_right, List.length_append, List.length_set, List.set_append_left, gset, List.getElem?_set_ne, Nat.add_sub_cancel_left, Nat.sub_self, Nat.le_refl, Nat.le_add_right, rep_flat, List.replicate_one, List.flatten_cons, List.flatten_nil, maskL_nil, unL_nil, XX, Nat.reduceBEq, Nat.reduceLT, Nat.reduceAdd, Nat.reduceMul, Nat.reduceSub, Nat.reduceLeDiff, Nat.reduceEqDiff, Int.reduceToNat, Int.reduceLT, Int.reduceLE, Int.reduceAdd, Int.reduceSub, Int.reduceEq, reduceIte, Nat.reduceBNe, Int.reducePow, Nat.reducePow, Int.reduceMul, Int.reduceNeg, isB_i, isB_b, isB_y, isBv_i, isBv_b, eqCells_t, TT]
    refine draw2_of cx_ok (by kernel_rfl) 400 [] (.pair [(0, true), (1, true), (2, true), (3, true), (5, true)] 4 6 (.done [(6, false), (7, false), (8, false), (9, true), (10, true), (11, false)]) (.pair [] 4 7 (.done [(7, false), (8, false), (9, true), (10, true), (11, false)]) (.done [(4, false), (8, false), (9, true), (10, true), (11, false)]))) (by kernel_rfl) rfl ?_
    simp (maxSteps := 4000000) only [Try.results25, PXT_done, PXT_pair, hb, ha, hL, hW, lb, la, lL, lW, ne, ne1, ne2, ne3, ne4, ne5, ne.symm, ne1.symm, ne2.symm, ne3.symm, ne4.symm, ne5.symm, tk, tL, tW, dL, dW, List.append_assoc, List.getElem?_append_left, List.getElem?_append_right, List.length_append, List.length_set, List.set_append_left, gset, List.getElem?_set_ne, Nat.add_sub_cancel_left, Nat.sub_self, Nat.le_refl, Nat.le_add_right, rep_flat, List.replicate_one, List.flatten_cons, List.flatten_nil, maskL_nil, unL_nil, strOf_bsC, XX, Nat.reduceBEq, Nat.reduceLT, Nat.reduceAdd, Nat.reduceMul, Nat.reduceSub, Nat.reduceLeDiff, Nat.reduceEqDiff, Int.reduceToNat, Int.reduceLT, Int.reduceLE, Int.reduceAdd, Int.reduceSub, Int.reduceEq, reduceIte, Nat.reduceBNe, Int.reducePow, Nat.reducePow, Int.reduceMul, Int.reduceNeg, isB_i, isB_b, isB_y, isBv_i, isBv_b, eqCells_t, TT]
    refine ⟨⟨⟨q1, q2⟩, q3, ?_⟩, ⟨q1, q2⟩, ⟨q3, ?_⟩, q3, ?_⟩
    all_goals
      refine xapp_both (fun hr2 => ?_) (fun hg2 cW hcW' _ => ?_)
      · simp (maxSteps := 4000000) only [Try.results25, hb, ha, hL, hW, lb, la, lL, lW, ne, ne1, ne2, ne3, ne4, ne5, ne.symm, ne1.symm, ne2.symm, ne3.symm, ne4.symm, ne5.symm, tk, tL, tW, dL, dW, List.append_assoc, List.getElem?_append_left, List.getElem?_append_right, List.length_append, List.length_set, List.set_append_left, gset, List.getElem?_set_ne, Nat.add_sub_cancel_left, Nat.sub_self, Nat.le_refl, Nat.le_add_right, rep_flat, List.replicate_one, List.flatten_cons, List.flatten_nil, maskL_nil, unL_nil, em, XX, Nat.reduceBEq, Nat.reduceLT, Nat.reduceAdd, Nat.reduceMul, Nat.reduceSub, Nat.reduceLeDiff, Nat.reduceEqDiff, Int.reduceToNat, Int.reduceLT, Int.reduceLE, Int.reduceAdd, Int.reduceSub, Int.reduceEq, reduceIte, Nat.reduceBNe, Int.reducePow, Nat.reducePow, Int.reduceMul, Int.reduceNeg, isB_i, isB_b, isB_y, isBv_i, isBv_b, eqCells_t, TT]
        refine ⟨iL, cL0, iW, cW0, ⟨?_, ?_, ?_, by simp [hwn], by simp; omega, by simp; omega⟩, ⟨by simp, fun k hk hne => ?_⟩, .inl rfl, .inl rfl⟩
        · simp only [hb, ha, hL, hW, lb, la, lL, lW, ne, ne1, ne2, ne3, ne4, ne5, ne.symm, ne1.symm, ne2.symm, ne3.symm, ne4.symm, ne5.symm, tk, tL, tW, dL, dW, List.append_assoc, List.getElem?_append_left, List.getElem?_append_right, List.length_append, List.length_set, List.set_append_left, gset, List.getElem?_set_ne, Nat.add_sub_cancel_left, Nat.sub_self, Nat.le_refl, Nat.le_add_right, rep_flat, List.replicate_one, List.flatten_cons, List.flatten_nil, maskL_nil, unL_nil, Option.map_some, List.length_cons, List.length_nil, Nat.zero_add, ne_eq, not_false_eq_true]
        · simp only [hb, ha, hL, hW, lb, la, lL, lW, ne, ne1, ne2, ne3, ne4, ne5, ne.symm, ne1.symm, ne2.symm, ne3.symm, ne4.symm, ne5.symm, tk, tL, tW, dL, dW, List.append_assoc, List.getElem?_append_left, List.getElem?_append_right, List.length_append, List.length_set, List.set_append_left, gset, List.getElem?_set_ne, Nat.add_sub_cancel_left, Nat.sub_self, Nat.le_refl, Nat.le_add_right, rep_flat, List.replicate_one, List.flatten_cons, List.flatten_nil, maskL_nil, unL_nil, Option.map_some, List.length_cons, List.length_nil, Nat.zero_add, ne_eq, not_false_eq_true, List.map_append, List.map_cons, List.map_nil, List.getElem?_cons_zero, List.getElem?_cons_succ, List.cons_append, List.nil_append]
        · simp only [hb, ha, hL, hW, lb, la, lL, lW, ne, ne1, ne2, ne3, ne4, ne5, ne.symm, ne1.symm, ne2.symm, ne3.symm, ne4.symm, ne5.symm, tk, tL, tW, dL, dW, List.append_assoc, List.getElem?_append_left, List.getElem?_append_right, List.length_append, List.length_set, List.set_append_left, gset, List.getElem?_set_ne, Nat.add_sub_cancel_left, Nat.sub_self, Nat.le_refl, Nat.le_add_right, rep_flat, List.replicate_one, List.flatten_cons, List.flatten_nil, maskL_nil, unL_nil, Option.map_some, List.length_cons, List.length_nil, Nat.zero_add, ne_eq, not_false_eq_true, List.map_append, List.map_cons, List.map_nil, List.getElem?_cons_zero, List.getElem?_cons_succ, List.cons_append, List.nil_append]
        · rw [List.getElem?_append_left (by simpa using hk)]
          simp only [not_or] at hne
          simp only [ne_eq, Ne.symm hne.1, Ne.symm hne.2.1, Ne.symm hne.2.2, not_false_eq_true, List.getElem?_set_ne]
      · simp (maxSteps := 4000000) only [Try.results25, hb, ha, hL, hW, lb, la, lL, lW, ne, ne1, ne2, ne3, ne4, ne5, ne.symm, ne1.symm, ne2.symm, ne3.symm, ne4.symm, ne5.symm, tk, tL, tW, dL, dW, List.append_assoc, List.getElem?_append_left, List.getElem?_append_right, List.length_append, List.length_set, List.set_append_left, gset, List.getElem?_set_ne, Nat.add_sub_cancel_left, Nat.sub_self, Nat.le_refl, Nat.le_add_right, rep_flat, List.replicate_one, List.flatten_cons, List.flatten_nil, maskL_nil, unL_nil, em, XX, Nat.reduceBEq, Nat.reduceLT, Nat.reduceAdd, Nat.reduceMul, Nat.reduceSub, Nat.reduceLeDiff, Nat.reduceEqDiff, Int.reduceToNat, Int.reduceLT, Int.reduceLE, Int.reduceAdd, Int.reduceSub, Int.reduceEq, reduceIte, Nat.reduceBNe, Int.reducePow, Nat.reducePow, Int.reduceMul, Int.reduceNeg, isB_i, isB_b, isB_y, isBv_i, isBv_b, eqCells_t, TT]
        refine ⟨iL, cL0, (h.length + 2), cW, ⟨?_, ?_, ?_, by simp [hwn], by simp; omega, by simp; omega⟩, ⟨by simp, fun k hk hne => ?_⟩, .inl rfl, .inr (by omega)⟩
        · simp only [hb, ha, hL, hW, lb, la, lL, lW, ne, ne1, ne2, ne3, ne4, ne5, ne.symm, ne1.symm, ne2.symm, ne3.symm, ne4.symm, ne5.symm, tk, tL, tW, dL, dW, List.append_assoc, List.getElem?_append_left, List.getElem?_append_right, List.length_append, List.length_set, List.set_append_left, gset, List.getElem?_set_ne, Nat.add_sub_cancel_left, Nat.sub_self, Nat.le_refl, Nat.le_add_right, rep_flat, List.replicate_one, List.flatten_cons, List.flatten_nil, maskL_nil, unL_nil, Option.map_some, List.length_cons, List.length_nil, Nat.zero_add, ne_eq, not_false_eq_true]
        · simp only [hb, ha, hL, hW, lb, la, lL, lW, ne, ne1, ne2, ne3, ne4, ne5, ne.symm, ne1.symm, ne2.symm, ne3.symm, ne4.symm, ne5.symm, tk, tL, tW, dL, dW, List.append_assoc, List.getElem?_append_left, List.getElem?_append_right, List.length_append, List.length_set, List.set_append_left, gset, List.getElem?_set_ne, Nat.add_sub_cancel_left, Nat.sub_self, Nat.le_refl, Nat.le_add_right, rep_flat, List.replicate_one, List.flatten_cons, List.flatten_nil, maskL_nil, unL_nil, Option.map_some, List.length_cons, List.length_nil, Nat.zero_add, ne_eq, not_false_eq_true, List.map_append, List.map_cons, List.map_nil, List.getElem?_cons_zero, List.getElem?_cons_succ, List.cons_append, List.nil_append]
        · simp only [hb, ha, hL, hW, lb, la, lL, lW, ne, ne1, ne2, ne3, ne4, ne5, ne.symm, ne1.symm, ne2.symm, ne3.symm, ne4.symm, ne5.symm, tk, tL, tW, dL, dW, List.append_assoc, List.getElem?_append_left, List.getElem?_append_right, List.length_append, List.length_set, List.set_append_left, gset, List.getElem?_set_ne, Nat.add_sub_cancel_left, Nat.sub_self, Nat.le_refl, Nat.le_add_right, rep_flat, List.replicate_one, List.flatten_cons, List.flatten_nil, maskL_nil, unL_nil, Option.map_some, List.length_cons, List.length_nil, Nat.zero_add, ne_eq, not_false_eq_true, List.map_append, List.map_cons, List.map_nil, List.getElem?_cons_zero, List.getElem?_cons_succ, List.cons_append, List.nil_append]
        · rw [List.getElem?_append_left (by simpa using hk)]
          simp only [not_or] at hne
          simp only [ne_eq, Ne.symm hne.1, Ne.symm hne.2.1, Ne.symm hne.2.2, not_false_eq_true, List.getElem?_set_ne]
  · simp (maxSteps := 4000000) only [Try.results25, hb, ha, hL, hW, lb, la, lL, lW, ne, ne1, ne2, ne3, ne4, ne5, ne.symm, ne1.symm, ne2.symm, ne3.symm, ne4.symm, ne5.symm, tk, tL, tW, dL, dW, List.append_assoc, List.getElem?_append_left, List.getElem?_append_right, List.length_append, List.length_set, List.set_append_left, gset, List.getElem?_set_ne, Nat.add_sub_cancel_left, Nat.sub_self, Nat.le_refl, Nat.le_add_right, rep_flat, List.replicate_one, List.flatten_cons, List.flatten_nil, maskL_nil, unL_nil, XX, Nat.reduceBEq, Nat.reduceLT, Nat.reduceAdd, Nat.reduceMul, Nat.reduceSub, Nat.reduceLeDiff, Nat.reduceEqDiff, Int.reduceToNat, Int.reduceLT, Int.reduceLE, Int.reduceAdd, Int.reduceSub, Int.reduceEq, reduceIte, Nat.reduceBNe, Int.reducePow, Nat.reducePow, Int.reduceMul, Int.reduceNeg, isB_i, isB_b, isB_y, isBv_i, isBv_b, eqCells_t, TT]
    refine draw2_of cx_ok (by kernel_rfl) 400 [] (.pair [(0, true), (1, true), (2, true), (3, true), (5, true)] 4 6 (.done [(6, false), (7, false), (8, false), (9, true), (10, true), (11, false)]) (.pair [] 4 7 (.done [(7, false), (8, false), (9, true), (10, true), (11, false)]) (.done [(4, false), (8, false), (9, true), (10, true), (11, false)]))) (by kernel_rfl) rfl ?_
    simp (maxSteps := 4000000) only [Try.results25, PXT_done, PXT_pair, hb, ha, hL, hW, lb, la, lL, lW, ne, ne1, ne2, ne3, ne4, ne5, ne.symm, ne1.symm, ne2.symm, ne3.symm, ne4.symm, ne5.symm, tk, tL, tW, dL, dW, List.append_assoc, List.getElem?_append_left, List.getElem?_append_right, List.length_append, List.length_set, List.set_append_left, gset, List.getElem?_set_ne, Nat.add_sub_cancel_left, Nat.sub_self, Nat.le_refl, Nat.le_add_right, rep_flat, List.replicate_one, List.flatten_cons, List.flatten_nil, maskL_nil, unL_nil, strOf_bsC, XX, Nat.reduceBEq, Nat.reduceLT, Nat.reduceAdd, Nat.reduceMul, Nat.reduceSub, Nat.reduceLeDiff, Nat.reduceEqDiff, Int.reduceToNat, Int.reduceLT, Int.reduceLE, Int.reduceAdd, Int.reduceSub, Int.reduceEq, reduceIte, Nat.reduceBNe, Int.reducePow, Nat.reducePow, Int.reduceMul, Int.reduceNeg, isB_i, isB_b, isB_y, isBv_i, isBv_b, eqCells_t, TT]
    refine ⟨⟨⟨q1, q2⟩, q3, ?_⟩, ⟨q1, q2⟩, ⟨q3, ?_⟩, q3, ?_⟩
    all_goals
      refine xapp_both (fun hr2 => ?_) (fun hg2 cW hcW' _ => ?_)
      · simp (maxSteps := 4000000) only [Try.results25, hb, ha, hL, hW, lb, la, lL, lW, ne, ne1, ne2, ne3, ne4, ne5, ne.symm, ne1.symm, ne2.symm, ne3.symm, ne4.symm, ne5.symm, tk, tL, tW, dL, dW, List.append_assoc, List.getElem?_append_left, List.getElem?_append_right, List.length_append, List.length_set, List.set_append_left, gset, List.getElem?_set_ne, Nat.add_sub_cancel_left, Nat.sub_self, Nat.le_refl, Nat.le_add_right, rep_flat, List.replicate_one, List.flatten_cons, List.flatten_nil, maskL_nil, unL_nil, em, XX, Nat.reduceBEq, Nat.reduceLT, Nat.reduceAdd, Nat.reduceMul, Nat.reduceSub, Nat.reduceLeDiff, Nat.reduceEqDiff, Int.reduceToNat, Int.reduceLT, Int.reduceLE, Int.reduceAdd, Int.reduceSub, Int.reduceEq, reduceIte, Nat.reduceBNe, Int.reducePow, Nat.reducePow, Int.reduceMul, Int.reduceNeg, isB_i, isB_b, isB_y, isBv_i, isBv_b, eqCells_t, TT]
        refine ⟨(h.length + 1), cL, iW, cW0, ⟨?_, ?_, ?_, by simp [hwn], by simp; omega, by simp; omega⟩, ⟨by simp, fun k hk hne => ?_⟩, .inr (by omega), .inl rfl⟩
        · simp only [hb, ha, hL, hW, lb, la, lL, lW, ne, ne1, ne2, ne3, ne4, ne5, ne.symm, ne1.symm, ne2.symm, ne3.symm, ne4.symm, ne5.symm, tk, tL, tW, dL, dW, List.append_assoc, List.getElem?_append_left, List.getElem?_append_right, List.length_append, List.length_set, List.set_append_left, gset, List.getElem?_set_ne, Nat.add_sub_cancel_left, Nat.sub_self, Nat.le_refl, Nat.le_add_right, rep_flat, List.replicate_one, List.flatten_cons, List.flatten_nil, maskL_nil, unL_nil, Option.map_some, List.length_cons, List.length_nil, Nat.zero_add, ne_eq, not_false_eq_true]
        · simp only [hb, ha, hL, hW, lb, la, lL, lW, ne, ne1, ne2, ne3, ne4, ne5, ne.symm, ne1.symm, ne2.symm, ne3.symm, ne4.symm, ne5.symm, tk, tL, tW, dL, dW, List.append_assoc, List.getElem?_append_left, List.getElem?_append_right, List.length_append, List.length_set, List.set_append_left, gset, List.getElem?_set_ne, Nat.add_sub_cancel_left, Nat.sub_self, Nat.le_refl, Nat.le_add_right, rep_flat, List.replicate_one, List.flatten_cons, List.flatten_nil, maskL_nil, unL_nil, Option.map_some, List.length_cons, List.length_nil, Nat.zero_add, ne_eq, not_false_eq_true, List.map_append, List.map_cons, List.map_nil, List.getElem?_cons_zero, List.getElem?_cons_succ, List.cons_append, List.nil_append]
        · simp only [hb, ha, hL, hW, lb, la, lL, lW, ne, ne1, ne2, ne3, ne4, ne5, ne.symm, ne1.symm, ne2.symm, ne3.symm, ne4.symm, ne5.symm, tk, tL, tW, dL, dW, List.append_assoc, List.getElem?_append_left, List.getElem?_append_right, List.length_append, List.length_set, List.set_append_left, gset, List.getElem?_set_ne, Nat.add_sub_cancel_left, Nat.sub_self, Nat.le_refl, Nat.le_add_right, rep_flat, List.replicate_one, List.flatten_cons, List.flatten_nil, maskL_nil, unL_nil, Option.map_some, List.length_cons, List.length_nil, Nat.zero_add, ne_eq, not_false_eq_true, List.map_append, List.map_cons, List.map_nil, List.getElem?_cons_zero, List.getElem?_cons_succ, List.cons_append, List.nil_append]
        · rw [List.getElem?_append_left (by simpa using hk)]
          simp only [not_or] at hne
          simp only [ne_eq, Ne.symm hne.1, Ne.symm hne.2.1, Ne.symm hne.2.2, not_false_eq_true, List.getElem?_set_ne]
      · simp (maxSteps := 4000000) only [Try.results25, hb, ha, hL, hW, lb, la, lL, lW, ne, ne1, ne2, ne3, ne4, ne5, ne.symm, ne1.symm, ne2.symm, ne3.symm, ne4.symm, ne5.symm, tk, tL, tW, dL, dW, List.append_assoc, List.getElem?_append_left, List.getElem?_append_right, List.length_append, List.length_set, List.set_append_left, gset, List.getElem?_set_ne, Nat.add_sub_cancel_left, Nat.sub_self, Nat.le_refl, Nat.le_add_right, rep_flat, List.replicate_one, List.flatten_cons, List.flatten_nil, maskL_nil, unL_nil, em, XX, Nat.reduceBEq, Nat.reduceLT, Nat.reduceAdd, Nat.reduceMul, Nat.reduceSub, Nat.reduceLeDiff, Nat.reduceEqDiff, Int.reduceToNat, Int.reduceLT, Int.reduceLE, Int.reduceAdd, Int.reduceSub, Int.reduceEq, reduceIte, Nat.reduceBNe, Int.reducePow, Nat.reducePow, Int.reduceMul, Int.reduceNeg, isB_i, isB_b, isB_y, isBv_i, isBv_b, eqCells_t, TT]
        refine ⟨(h.length + 1), cL, (h.length + 3), cW, ⟨?_, ?_, ?_, by simp [hwn], by simp; omega, by simp; omega⟩, ⟨by simp, fun k hk hne => ?_⟩, .inr (by omega), .inr (by omega)⟩
        · simp only [hb, ha, hL, hW, lb, la, lL, lW, ne, ne1, ne2, ne3, ne4, ne5, ne.symm, ne1.symm, ne2.symm, ne3.symm, ne4.symm, ne5.symm, tk, tL, tW, dL, dW, List.append_assoc, List.getElem?_append_left, List.getElem?_append_right, List.length_append, List.length_set, List.set_append_left, gset, List.getElem?_set_ne, Nat.add_sub_cancel_left, Nat.sub_self, Nat.le_refl, Nat.le_add_right, rep_flat, List.replicate_one, List.flatten_cons, List.flatten_nil, maskL_nil, unL_nil, Option.map_some, List.length_cons, List.length_nil, Nat.zero_add, ne_eq, not_false_eq_true]
        · simp only [hb, ha, hL, hW, lb, la, lL, lW, ne, ne1, ne2, ne3, ne4, ne5, ne.symm, ne1.symm, ne2.symm, ne3.symm, ne4.symm, ne5.symm, tk, tL, tW, dL, dW, List.append_assoc, List.getElem?_append_left, List.getElem?_append_right, List.length_append, List.length_set, List.set_append_left, gset, List.getElem?_set_ne, Nat.add_sub_cancel_left, Nat.sub_self, Nat.le_refl, Nat.le_add_right, rep_flat, List.replicate_one, List.flatten_cons, List.flatten_nil, maskL_nil, unL_nil, Option.map_some, List.length_cons, List.length_nil, Nat.zero_add, ne_eq, not_false_eq_true, List.map_append, List.map_cons, List.map_nil, List.getElem?_cons_zero, List.getElem?_cons_succ, List.cons_append, List.nil_append]
        · simp only [hb, ha, hL, hW, lb, la, lL, lW, ne, ne1, ne2, ne3, ne4, ne5, ne.symm, ne1.symm, ne2.symm, ne3.symm, ne4.symm, ne5.symm, tk, tL, tW, dL, dW, List.append_assoc, List.getElem?_append_left, List.getElem?_append_right, List.length_append, List.length_set, List.set_append_left, gset, List.getElem?_set_ne, Nat.add_sub_cancel_left, Nat.sub_self, Nat.le_refl, Nat.le_add_right, rep_flat, List.replicate_one, List.flatten_cons, List.flatten_nil, maskL_nil, unL_nil, Option.map_some, List.length_cons, List.length_nil, Nat.zero_add, ne_eq, not_false_eq_true, List.map_append, List.map_cons, List.map_nil, List.getElem?_cons_zero, List.getElem?_cons_succ, List.cons_append, List.nil_append]
        · rw [List.getElem?_append_left (by simpa using hk)]
          simp only [not_or] at hne
          simp only [ne_eq, Ne.symm hne.1, Ne.symm hne.2.1, Ne.symm hne.2.2, not_false_eq_true, List.getElem?_set_ne]
end Go.Proofs.Ytgegddefcgfhgaa.Sx
namespace Go.Proofs.Ytgegddefcgfhgaa.Sx
open Go
set_option linter.unusedSimpArgs false
set_option linter.unusedVariables false
set_option maxRecDepth 10000
set_option maxHeartbeats 2000000
theorem mark_spec (i n : Nat) (hi : i < 4398046511104) (hn : n < 281474976710656) : Spec cx.P 53 [.c (i64 i), .c (i64 n)] [] fun s _ => s.plain = true ∧ s = .c (byteC (mkB i n)) := by
  refine spec_of_X cx_ok Try.func53 rfl (by kernel_rfl) (by kernel_rfl) (Nat.le_of_ble_eq_true rfl) 400 5 ?_
  simp (maxSteps := 4000000) only [Try.results53, XX, Nat.reduceBEq, Nat.reduceLT, Nat.reduceAdd, Nat.reduceMul, Nat.reduceSub, Nat.reduceLeDiff, Nat.reduceEqDiff, Int.reduceToNat, Int.reduceLT, Int.reduceLE, Int.reduceAdd, Int.reduceSub, Int.reduceEq, reduceIte, Nat.reduceBNe, Int.reducePow, Nat.reducePow, Int.reduceMul, Int.reduceNeg, isB_i, isB_b, isB_y, isBv_i, isBv_b, eqCells_t, TT]
  simp (disch := omega) only [tdiv256, w64]
  exact congrArg _ (byteC_nat _ (by omega))
theorem mk_len (j m : Nat) : (mk j m).length = m := by simp [mk]
theorem mk_succ (j m : Nat) : mk j (m + 1) = mk j m ++ [mkB j m] := by simp [mk, List.range_succ]
/-- Further marks. -/
def mkTail (j n m : Nat) : List UInt8 := (List.range m).map fun p => mkB j (n + p)
theorem mk_split (j n m : Nat) : mk j (n + m) = mk j n ++ mkTail j n m := by
  induction m with
  | zero => simp [mkTail]
  | succ m ih => rw [← Nat.add_assoc, mk_succ, ih, List.append_assoc]; simp [mkTail, List.range_succ]
theorem mk_at {j m i : Nat} (h : i < m) : (mk j m)[i]? = some (mkB j i) := by simp [mk, h]
/-- One more is marked. -/
theorem mk_step (j i : Nat) (l : List UInt8) (hi : i < l.length) : (mk j i ++ l.drop i).take i ++ [mkB j i] ++ (mk j i ++ l.drop i).drop (i + 1) = mk j (i + 1) ++ l.drop (i + 1) := by
  rw [List.take_left' (mk_len j i), ← mk_succ]
  congr 1
  rw [List.drop_append, List.drop_of_length_le (by rw [mk_len]; omega), mk_len, List.nil_append, List.drop_drop]
  congr 1
  omega
/-- A list that came out, where it lies. -/
structure OE where
  w : Nat
  l : List UInt8
  p : List UInt8
  o : Bool
def OE.sc (e : OE) : SC := .sl e.w 0 e.l.length (e.l.length + e.p.length)
/-- The lists of a book, where they lie. -/
structure Owns (h : List SB) (es : List OE) : Prop where
  at_ : ∀ (i : Nat) (e : OE), es[i]? = some e → h[e.w]? = some (wB e.o (e.l ++ e.p))
  own : ∀ (i : Nat) (e : OE), es[i]? = some e → 0 < e.l.length + e.p.length → e.o = true
  lt : ∀ (i : Nat) (e : OE), es[i]? = some e → e.l.length < 140737488351233
  ne : ∀ (i j : Nat) (e f : OE), i ≠ j → es[i]? = some e → es[j]? = some f → e.w ≠ f.w
theorem getD_map {α : Type} {f : α → SC} {es : List α} {i : Nat} {e : α} {r : List SC} {d : SC} (h : es[i]? = some e) : (es.map f ++ r).getD i d = f e := by
  have hi : i < es.length := (List.getElem?_eq_some_iff.1 h).1
  rw [List.getD_eq_getElem?_getD, List.getElem?_append_left (by simpa using hi), List.getElem?_map, h]
  rfl
theorem set_same {h : List SB} {k : Nat} {x : SB} (hk : h[k]? = some x) : h.set k x = h := by
  apply List.ext_getElem?
  intro j
  by_cases hj : k = j
  · subst hj; rw [gset, hk]; rfl
  · rw [List.getElem?_set_ne hj]
/-- How the lists stand while they are written over and grown: 'i' of them are. -/
structure Gr (h0 : List SB) (es : List OE) (i : Nat) (H : List SB) (sG : SC) (iG r : Nat) (gs : List (Nat × Nat × Nat)) : Prop where
  len : h0.length ≤ H.length
  keep : ∀ (k : Nat), k < h0.length → (∀ (j : Nat) (e : OE), j < i → es[j]? = some e → k ≠ e.w) → H[k]? = h0[k]?
  gl : gs.length = i
  sG : (i = 0 ∧ sG = nilC) ∨ (0 < i ∧ sG = .sl iG 0 i (i + r) ∧ H[iG]? = some (listsB (gs.map (fun g => SC.sl g.1 0 (g.2.2 + 9) g.2.1) ++ List.replicate r nilC)) ∧ h0.length ≤ iG)
  at_ : ∀ (j : Nat) (e : OE) (g : Nat × Nat × Nat), es[j]? = some e → gs[j]? = some g → (∃ o q, H[g.1]? = some (wB o (mk j (e.l.length + 9) ++ q))) ∧ (∃ q, H[e.w]? = some (wB e.o (mk j e.l.length ++ q))) ∧ (g.1 = e.w ∨ h0.length ≤ g.1) ∧ g.2.2 = e.l.length ∧ (0 < i → g.1 ≠ iG)
/-- How a list stands while it is grown: 'm' places of nine are there. -/
structure Ap (H1 : List SB) (i : Nat) (e : OE) (m : Nat) (H : List SB) (w c : Nat) (o : Bool) (q : List UInt8) : Prop where
  len : H1.length ≤ H.length
  at_ : H[w]? = some (wB o (mk i (e.l.length + m) ++ q))
  own : 0 < c → o = true
  cap : c = e.l.length + m + q.length
  old : ∃ q, H[e.w]? = some (wB e.o (mk i e.l.length ++ q))
  wh : w = e.w ∨ H1.length ≤ w
  keep : ∀ (k : Nat), k < H1.length → k ≠ e.w → H[k]? = H1[k]?
theorem owned_spec (h : List SB) (ib : Nat) (es : List OE) (iL cL iW cW : Nat) (B : Book h ib (es.map OE.sc) (es.map OE.l) iL cL iW cW) (O : Owns h es) (hn : es.length < 4398046511104) :
    Spec cx.P 26 [.c (.ptr ib 0)] h fun s _ => s = .c (bC true) := by
  obtain ⟨hb, hL, hW, _, hcL, hcW⟩ := B
  rw [List.length_map] at hb hL hW hcL hcW
  have lb := lt_of hb
  have lL := lt_of hL
  have lW := lt_of hW
  have ne1 : ib ≠ iL := ne_of_ty hb hL (fun h => absurd h (by decide : (51 : Nat) ≠ 22))
  have ne2 : ib ≠ iW := ne_of_ty hb hW (fun h => absurd h (by decide : (51 : Nat) ≠ 9))
  have ne3 : iL ≠ iW := ne_of_ty hL hW (fun h => absurd h (by decide : (22 : Nat) ≠ 9))
  refine spec_of_X cx_ok Try.func26 rfl (by kernel_rfl) (by kernel_rfl) (Nat.le_of_ble_eq_true rfl) 400 15 ?_
  simp (maxSteps := 4000000) only [Try.results26, XX, Nat.reduceBEq, Nat.reduceLT, Nat.reduceAdd, Nat.reduceMul, Nat.reduceSub, Nat.reduceLeDiff, Nat.reduceEqDiff, Int.reduceToNat, Int.reduceLT, Int.reduceLE, Int.reduceAdd, Int.reduceSub, Int.reduceEq, reduceIte, Nat.reduceBNe, Int.reducePow, Nat.reducePow, Int.reduceMul, Int.reduceNeg, isB_i, isB_b, isB_y, isBv_i, isBv_b, eqCells_t, TT]
  refine loop_at cx_ok 400 (fun μ σ => ∃ i : Nat, μ = es.length - i ∧ i ≤ es.length ∧ σ = ⟨⟨15, h.length⟩, [(0, .c (.ptr ib 0)), (2, .c (bC false)), (3, .c (i64 i))], h⟩) es.length
    ⟨⟨15, h.length⟩, [(0, .c (.ptr ib 0)), (2, .c (bC false)), (3, .c (i64 (0 : Nat)))], h⟩ ⟨0, rfl, Nat.zero_le _, rfl⟩ ⟨rfl, rfl, rfl, rfl, rfl, trivial⟩ ?_
  rintro μ σ ⟨i, rfl, hi, rfl⟩
  by_cases hlt : i < es.length
  · have hd : decide ((i : Int) < (es.length : Int)) = true := by simp only [decide_eq_true_eq]; omega
    simp (maxSteps := 4000000) only [Try.results26, hb, hd, XX, Nat.reduceBEq, Nat.reduceLT, Nat.reduceAdd, Nat.reduceMul, Nat.reduceSub, Nat.reduceLeDiff, Nat.reduceEqDiff, Int.reduceToNat, Int.reduceLT, Int.reduceLE, Int.reduceAdd, Int.reduceSub, Int.reduceEq, reduceIte, Nat.reduceBNe, Int.reducePow, Nat.reducePow, Int.reduceMul, Int.reduceNeg, isB_i, isB_b, isB_y, isBv_i, isBv_b, eqCells_t, TT]
    obtain ⟨e, he⟩ : ∃ e, es[i]? = some e := ⟨_, List.getElem?_eq_getElem hlt⟩
    have g1 : (es.map OE.sc ++ List.replicate (cL - es.length) nilC).getD i .any = .sl e.w 0 e.l.length (e.l.length + e.p.length) := getD_map he
    have g2 : ((es.map OE.l).map strB ++ List.replicate (cW - es.length) noS).getD i .any = strB e.l := by rw [List.map_map]; exact getD_map he
    have tk : (bsC (e.l ++ e.p)).take e.l.length = bsC e.l := by rw [bs_take, List.take_left' rfl]
    have e3 : IntKind.i64.wrap ((i : Int) + 1) = ((i + 1 : Nat) : Int) := by rw [w64] <;> omega
    by_cases hv : (wB e.o (e.l ++ e.p)).void = true
    · obtain ⟨w, l, p, o⟩ := e
      simp only [SB.void, Bool.and_eq_true, Bool.not_eq_true', List.isEmpty_iff, List.map_eq_nil_iff, List.append_eq_nil_iff] at hv
      obtain ⟨rfl, rfl, rfl⟩ := hv
      have tk : strOf [] = ⟨([] : List UInt8).toArray⟩ := rfl
      obtain ⟨o1, m1⟩ : ∃ o, (maskL [ib, iL, iW] 0 h)[ib]? = some ⟨o, 51, [.sl iL 0 es.length cL, .sl iW 0 es.length cW]⟩ := maskL_at hb
      obtain ⟨o2, m2⟩ : ∃ o, (maskL [ib, iL, iW] 0 h)[iL]? = some ⟨o, 22, es.map OE.sc ++ List.replicate (cL - es.length) nilC⟩ := maskL_at hL
      obtain ⟨o3, m3⟩ : ∃ o, (maskL [ib, iL, iW] 0 h)[iW]? = some ⟨o, 9, (es.map OE.l).map strB ++ List.replicate (cW - es.length) noS⟩ := maskL_at hW
      have m4 := O.at_ i _ he
      obtain ⟨o4, m5⟩ : ∃ o, (maskL [ib, iL, iW] 0 h)[w]? = some ⟨o, 5, []⟩ := maskL_at m4
      have hok := kept_cons hb rfl (kept_cons hL rfl (kept_cons hW rfl kept_nil))
      refine draw_of cx_ok (by kernel_rfl) 400 [ib, iL, iW] [(0, true), (1, true), (2, true), (3, true), (4, true), (5, true), (6, true), (7, true), (8, true), (9, true), (10, true), (11, true), (12, true), (13, true), (14, true), (15, true)] (by kernel_rfl) (by first | exact hok | simp [*]) ?_
      simp (maxSteps := 4000000) only [Try.results26, m1, m2, m3, m5, g1, g2, tk, str_eq, List.not_mem_nil, unL_maskL, e3, XX, Nat.reduceBEq, Nat.reduceLT, Nat.reduceAdd, Nat.reduceMul, Nat.reduceSub, Nat.reduceLeDiff, Nat.reduceEqDiff, Int.reduceToNat, Int.reduceLT, Int.reduceLE, Int.reduceAdd, Int.reduceSub, Int.reduceEq, reduceIte, Nat.reduceBNe, Int.reducePow, Nat.reducePow, Int.reduceMul, Int.reduceNeg, isB_i, isB_b, isB_y, isBv_i, isBv_b, eqCells_t, TT]
      exact ⟨by omega, by simp; omega, by omega, by simp; omega, es.length - (i + 1), by omega, _, ⟨i + 1, rfl, by omega, rfl⟩, rfl, rfl, rfl, rfl, rfl, trivial⟩
    · have hv : (wB e.o (e.l ++ e.p)).void = false := by simpa using hv
      have m4 := O.at_ i _ he
      obtain ⟨o1, m1⟩ : ∃ o, (maskL [ib, iL, iW, e.w] 0 h)[ib]? = some ⟨o, 51, [.sl iL 0 es.length cL, .sl iW 0 es.length cW]⟩ := maskL_at hb
      obtain ⟨o2, m2⟩ : ∃ o, (maskL [ib, iL, iW, e.w] 0 h)[iL]? = some ⟨o, 22, es.map OE.sc ++ List.replicate (cL - es.length) nilC⟩ := maskL_at hL
      obtain ⟨o3, m3⟩ : ∃ o, (maskL [ib, iL, iW, e.w] 0 h)[iW]? = some ⟨o, 9, (es.map OE.l).map strB ++ List.replicate (cW - es.length) noS⟩ := maskL_at hW
      obtain ⟨o4, m5⟩ : ∃ o, (maskL [ib, iL, iW, e.w] 0 h)[e.w]? = some ⟨o, 5, bsC (e.l ++ e.p)⟩ := maskL_at m4
      have hok := kept_cons hb rfl (kept_cons hL rfl (kept_cons hW rfl (kept_cons m4 hv kept_nil)))
      refine draw_of cx_ok (by kernel_rfl) 400 [ib, iL, iW, e.w] [(0, true), (1, true), (2, true), (3, true), (4, true), (5, true), (6, true), (7, true), (8, true), (9, true), (10, true), (11, true), (12, true), (13, true), (14, true), (15, true)] (by kernel_rfl) (by first | exact hok | simp [*]) ?_
      simp (maxSteps := 4000000) only [Try.results26, m1, m2, m3, m5, g1, g2, tk, strOf_bsC, str_eq, unL_maskL, e3, XX, Nat.reduceBEq, Nat.reduceLT, Nat.reduceAdd, Nat.reduceMul, Nat.reduceSub, Nat.reduceLeDiff, Nat.reduceEqDiff, Int.reduceToNat, Int.reduceLT, Int.reduceLE, Int.reduceAdd, Int.reduceSub, Int.reduceEq, reduceIte, Nat.reduceBNe, Int.reducePow, Nat.reducePow, Int.reduceMul, Int.reduceNeg, isB_i, isB_b, isB_y, isBv_i, isBv_b, eqCells_t, TT]
      exact ⟨by omega, by simp; omega, ⟨by simp, isByte_bsC e.l⟩, by omega, by simp; omega, es.length - (i + 1), by omega, _, ⟨i + 1, rfl, by omega, rfl⟩, rfl, rfl, rfl, rfl, rfl, trivial⟩
  have hi' : i = es.length := by omega
  subst hi'
  have hd : decide ((es.length : Int) < (es.length : Int)) = false := by simp
  simp (maxSteps := 4000000) only [Try.results26, hb, hd, XX, Nat.reduceBEq, Nat.reduceLT, Nat.reduceAdd, Nat.reduceMul, Nat.reduceSub, Nat.reduceLeDiff, Nat.reduceEqDiff, Int.reduceToNat, Int.reduceLT, Int.reduceLE, Int.reduceAdd, Int.reduceSub, Int.reduceEq, reduceIte, Nat.reduceBNe, Int.reducePow, Nat.reducePow, Int.reduceMul, Int.reduceNeg, isB_i, isB_b, isB_y, isBv_i, isBv_b, eqCells_t, TT]
  refine loop_at cx_ok 400 (fun μ σ => ∃ (i : Nat) (H : List SB) (sG : SC) (iG r : Nat) (gs : List (Nat × Nat × Nat)), μ = es.length - i ∧ i ≤ es.length ∧ Gr h es i H sG iG r gs ∧
      σ = ⟨⟨15, h.length⟩, [(0, .c (.ptr ib 0)), (2, .c (bC false)), (4, .c sG), (5, .c (i64 i))], H⟩) es.length
    ⟨⟨15, h.length⟩, [(0, .c (.ptr ib 0)), (2, .c (bC false)), (4, .c nilC), (5, .c (i64 (0 : Nat)))], h⟩
    ⟨0, h, nilC, 0, 0, [], rfl, Nat.zero_le _, ⟨Nat.le_refl _, fun _ _ _ => rfl, rfl, .inl ⟨rfl, rfl⟩, fun j e g _ hg => by simp at hg⟩, rfl⟩ ⟨rfl, rfl, rfl, rfl, rfl, rfl, trivial⟩ ?_
  rintro μ σ ⟨i, H, sG, iG, r, gs, rfl, hi, G, rfl⟩
  have kb : H[ib]? = some (bookB (.sl iL 0 es.length cL) (.sl iW 0 es.length cW)) := (G.keep ib lb fun j e _ he => ne_of_ty hb (O.at_ j e he) (fun h => absurd h (by decide : (51 : Nat) ≠ 5))).trans hb
  have kL : H[iL]? = some (listsB (es.map OE.sc ++ List.replicate (cL - es.length) nilC)) := (G.keep iL lL fun j e _ he => ne_of_ty hL (O.at_ j e he) (fun h => absurd h (by decide : (22 : Nat) ≠ 5))).trans hL
  by_cases hlt : i < es.length
  · have hd : decide ((i : Int) < (es.length : Int)) = true := by simp only [decide_eq_true_eq]; omega
    obtain ⟨e, he⟩ : ∃ e, es[i]? = some e := ⟨_, List.getElem?_eq_getElem hlt⟩
    have g1 : (es.map OE.sc ++ List.replicate (cL - es.length) nilC).getD i .any = .sl e.w 0 e.l.length (e.l.length + e.p.length) := getD_map he
    have ke : H[e.w]? = some (wB e.o (e.l ++ e.p)) := (G.keep e.w (lt_of (O.at_ i e he)) fun j f hj hf => O.ne i j e f (by omega) he hf).trans (O.at_ i e he)
    have hlen := O.lt i e he
    simp (maxSteps := 4000000) only [Try.results26, kb, kL, hd, g1, XX, Nat.reduceBEq, Nat.reduceLT, Nat.reduceAdd, Nat.reduceMul, Nat.reduceSub, Nat.reduceLeDiff, Nat.reduceEqDiff, Int.reduceToNat, Int.reduceLT, Int.reduceLE, Int.reduceAdd, Int.reduceSub, Int.reduceEq, reduceIte, Nat.reduceBNe, Int.reducePow, Nat.reducePow, Int.reduceMul, Int.reduceNeg, isB_i, isB_b, isB_y, isBv_i, isBv_b, eqCells_t, TT]
    refine ⟨⟨by omega, by omega⟩, by simp; omega, ?_⟩
    -- the marks
    refine loop_at cx_ok 400 (fun μ σ => ∃ m : Nat, μ = e.l.length - m ∧ m ≤ e.l.length ∧ σ = ⟨⟨15, h.length⟩, [(0, .c (.ptr ib 0)), (2, .c (bC false)), (4, .c sG), (5, .c (i64 i)), (6, .c (.sl e.w 0 e.l.length (e.l.length + e.p.length))), (7, .c (i64 m))],
        H.set e.w (wB e.o (mk i m ++ (e.l ++ e.p).drop m))⟩) e.l.length
      ⟨⟨15, h.length⟩, [(0, .c (.ptr ib 0)), (2, .c (bC false)), (4, .c sG), (5, .c (i64 i)), (6, .c (.sl e.w 0 e.l.length (e.l.length + e.p.length))), (7, .c (i64 (0 : Nat)))], H.set e.w (wB e.o (mk i 0 ++ (e.l ++ e.p).drop 0))⟩
      ⟨0, rfl, Nat.zero_le _, rfl⟩ ⟨rfl, (set_same ke).symm, rfl, rfl, rfl, rfl, rfl, rfl, trivial⟩ ?_
    rintro μ σ ⟨m, rfl, hm, rfl⟩
    by_cases hlt2 : m < e.l.length
    · have hd2 : decide ((m : Int) < (e.l.length : Int)) = true := by simp only [decide_eq_true_eq]; omega
      have e3 : IntKind.i64.wrap ((m : Int) + 1) = ((m + 1 : Nat) : Int) := by rw [w64] <;> omega
      have ho : e.o = true := O.own i e he (by omega)
      simp (maxSteps := 4000000) only [Try.results26, hd2, XX, Nat.reduceBEq, Nat.reduceLT, Nat.reduceAdd, Nat.reduceMul, Nat.reduceSub, Nat.reduceLeDiff, Nat.reduceEqDiff, Int.reduceToNat, Int.reduceLT, Int.reduceLE, Int.reduceAdd, Int.reduceSub, Int.reduceEq, reduceIte, Nat.reduceBNe, Int.reducePow, Nat.reducePow, Int.reduceMul, Int.reduceNeg, isB_i, isB_b, isB_y, isBv_i, isBv_b, eqCells_t, TT]
      refine call_plain (mark_spec i m (by omega) (by omega)) rfl ?_
      rintro _ rfl
      simp (maxSteps := 4000000) only [Try.results26, e3, gset, ke, ho, List.set_set, XX, Nat.reduceBEq, Nat.reduceLT, Nat.reduceAdd, Nat.reduceMul, Nat.reduceSub, Nat.reduceLeDiff, Nat.reduceEqDiff, Int.reduceToNat, Int.reduceLT, Int.reduceLE, Int.reduceAdd, Int.reduceSub, Int.reduceEq, reduceIte, Nat.reduceBNe, Int.reducePow, Nat.reducePow, Int.reduceMul, Int.reduceNeg, isB_i, isB_b, isB_y, isBv_i, isBv_b, eqCells_t, TT]
      refine ⟨by omega, by simp [mk_len]; omega, e.l.length - (m + 1), by omega, _, ⟨m + 1, rfl, by omega, rfl⟩, rfl, ?_, rfl, rfl, rfl, rfl, rfl, rfl, trivial⟩
      simp only [bs_take, bs_drop, bs_one, bs_app, mk_step i m (e.l ++ e.p) (by simp; omega)]
    have hm' : m = e.l.length := by omega
    subst hm'
    have hd2 : decide ((e.l.length : Int) < (e.l.length : Int)) = false := by simp
    simp (maxSteps := 4000000) only [Try.results26, hd2, XX, Nat.reduceBEq, Nat.reduceLT, Nat.reduceAdd, Nat.reduceMul, Nat.reduceSub, Nat.reduceLeDiff, Nat.reduceEqDiff, Int.reduceToNat, Int.reduceLT, Int.reduceLE, Int.reduceAdd, Int.reduceSub, Int.reduceEq, reduceIte, Nat.reduceBNe, Int.reducePow, Nat.reducePow, Int.reduceMul, Int.reduceNeg, isB_i, isB_b, isB_y, isBv_i, isBv_b, eqCells_t, TT]
    rw [List.drop_left' rfl]
    have H1l : (H.set e.w (wB e.o (mk i e.l.length ++ e.p))).length = H.length := List.length_set
    have H1e : (H.set e.w (wB e.o (mk i e.l.length ++ e.p)))[e.w]? = some (wB e.o (mk i e.l.length ++ e.p)) := by rw [gset, ke]; rfl
    have H1k : ∀ k, k ≠ e.w → (H.set e.w (wB e.o (mk i e.l.length ++ e.p)))[k]? = H[k]? := fun k hk => List.getElem?_set_ne (fun h => hk h.symm)
    generalize H.set e.w (wB e.o (mk i e.l.length ++ e.p)) = H1 at H1l H1e H1k ⊢
    -- nine more
    refine loop_at cx_ok 400 (fun μ σ => ∃ (m : Nat) (H : List SB) (w c : Nat) (o : Bool) (q : List UInt8), μ = 9 - m ∧ m ≤ 9 ∧ Ap H1 i e m H w c o q ∧
        σ = ⟨⟨15, h.length⟩, [(0, .c (.ptr ib 0)), (2, .c (bC false)), (4, .c sG), (5, .c (i64 i)), (6, .c (.sl e.w 0 e.l.length (e.l.length + e.p.length))), (8, .c (.sl w 0 (e.l.length + m) c)), (9, .c (i64 m))], H⟩) 9
      ⟨⟨15, h.length⟩, [(0, .c (.ptr ib 0)), (2, .c (bC false)), (4, .c sG), (5, .c (i64 i)), (6, .c (.sl e.w 0 e.l.length (e.l.length + e.p.length))), (8, .c (.sl e.w 0 (e.l.length + 0) (e.l.length + e.p.length))), (9, .c (i64 (0 : Nat)))], H1⟩
      ⟨0, H1, e.w, e.l.length + e.p.length, e.o, e.p, rfl, by omega, ⟨Nat.le_refl _, H1e, O.own i e he, rfl, ⟨_, H1e⟩, .inl rfl, fun _ _ _ => rfl⟩, rfl⟩ ⟨rfl, rfl, rfl, rfl, rfl, rfl, rfl, rfl, rfl, trivial⟩ ?_
    rintro μ σ ⟨m, H2, w, c, o, q, rfl, hm, A, rfl⟩
    by_cases hlt2 : m < 9
    · have hd2 : decide ((m : Int) < 9) = true := by simp only [decide_eq_true_eq]; omega
      have e3 : IntKind.i64.wrap ((m : Int) + 1) = ((m + 1 : Nat) : Int) := by rw [w64] <;> omega
      have e4 : IntKind.i64.wrap ((e.l.length : Int) + (m : Int)) = ((e.l.length + m : Nat) : Int) := by rw [w64] <;> omega
      simp (maxSteps := 4000000) only [Try.results26, hd2, e4, XX, Nat.reduceBEq, Nat.reduceLT, Nat.reduceAdd, Nat.reduceMul, Nat.reduceSub, Nat.reduceLeDiff, Nat.reduceEqDiff, Int.reduceToNat, Int.reduceLT, Int.reduceLE, Int.reduceAdd, Int.reduceSub, Int.reduceEq, reduceIte, Nat.reduceBNe, Int.reducePow, Nat.reducePow, Int.reduceMul, Int.reduceNeg, isB_i, isB_b, isB_y, isBv_i, isBv_b, eqCells_t, TT]
      refine call_plain (mark_spec i (e.l.length + m) (by omega) (by omega)) rfl ?_
      rintro _ rfl
      have lw := lt_of A.at_
      simp (maxSteps := 4000000) only [Try.results26, A.at_, lw, List.append_assoc, List.getElem?_append_left, List.getElem?_append_right, List.length_append, List.length_set, List.set_append_left, gset, List.getElem?_set_ne, Nat.add_sub_cancel_left, Nat.sub_self, Nat.le_refl, Nat.le_add_right, rep_flat, List.replicate_one, List.flatten_cons, List.flatten_nil, XX, Nat.reduceBEq, Nat.reduceLT, Nat.reduceAdd, Nat.reduceMul, Nat.reduceSub, Nat.reduceLeDiff, Nat.reduceEqDiff, Int.reduceToNat, Int.reduceLT, Int.reduceLE, Int.reduceAdd, Int.reduceSub, Int.reduceEq, reduceIte, Nat.reduceBNe, Int.reducePow, Nat.reducePow, Int.reduceMul, Int.reduceNeg, isB_i, isB_b, isB_y, isBv_i, isBv_b, eqCells_t, TT]
      have tk : (bsC (mk i (e.l.length + m) ++ q)).take (e.l.length + m) = bsC (mk i (e.l.length + m)) := by rw [bs_take, List.take_left' (mk_len _ _)]
      refine ⟨⟨by omega, by unfold maxLen; omega, by simp [mk_len], fun h => ⟨A.own (by omega), by simp [mk_len]; have := A.cap; omega⟩⟩, xapp_both (fun hr => ?_) (fun hg c' hc' _ => ?_)⟩
      · obtain rfl := A.own (by omega)
        obtain ⟨x, q1, rfl⟩ : ∃ x q1, q = x :: q1 := by
          cases q with
          | nil => have := A.cap; simp at this; omega
          | cons x q1 => exact ⟨x, q1, rfl⟩
        have tl : (bsC (mk i (e.l.length + m) ++ x :: q1)).drop (e.l.length + m + 1) = bsC q1 := by
          rw [bs_drop, List.drop_append, List.drop_of_length_le (by rw [mk_len]; omega), mk_len, show e.l.length + m + 1 - (e.l.length + m) = 1 by omega]; rfl
        have mm : bsC (mk i (e.l.length + m)) ++ byteC (mkB i (e.l.length + m)) :: bsC q1 = bsC (mk i (e.l.length + (m + 1)) ++ q1) := by
          rw [show e.l.length + (m + 1) = e.l.length + m + 1 by omega, mk_succ, bs_cons, bs_app, List.append_assoc]; rfl
        simp (maxSteps := 4000000) only [Try.results26, e3, tk, tl, mm, A.at_, lw, List.append_assoc, List.getElem?_append_left, List.getElem?_append_right, List.length_append, List.length_set, List.set_append_left, gset, List.getElem?_set_ne, Nat.add_sub_cancel_left, Nat.sub_self, Nat.le_refl, Nat.le_add_right, rep_flat, List.replicate_one, List.flatten_cons, List.flatten_nil, XX, Nat.reduceBEq, Nat.reduceLT, Nat.reduceAdd, Nat.reduceMul, Nat.reduceSub, Nat.reduceLeDiff, Nat.reduceEqDiff, Int.reduceToNat, Int.reduceLT, Int.reduceLE, Int.reduceAdd, Int.reduceSub, Int.reduceEq, reduceIte, Nat.reduceBNe, Int.reducePow, Nat.reducePow, Int.reduceMul, Int.reduceNeg, isB_i, isB_b, isB_y, isBv_i, isBv_b, eqCells_t, TT]
        refine ⟨9 - (m + 1), by omega, _, ⟨m + 1, _, w, c, true, q1, rfl, by omega, ⟨?_, ?_, fun _ => rfl, ?_, ?_, A.wh, ?_⟩, rfl⟩, rfl, rfl, rfl, rfl, rfl, rfl, rfl, rfl, rfl, trivial⟩
        · have := A.len; simp; omega
        · rw [List.getElem?_append_left (by simpa using lw), gset, A.at_]; rfl
        · have := A.cap; simp at this ⊢; omega
        · obtain ⟨q', hq'⟩ := A.old
          by_cases hw : w = e.w
          · subst hw
            refine ⟨mkTail i e.l.length (m + 1) ++ q1, ?_⟩
            have ho : e.o = true := by
              have h9 := hq'.symm.trans A.at_
              simp only [Option.some.injEq, SB.mk.injEq] at h9
              exact h9.1
            rw [List.getElem?_append_left (by simpa using lw), gset, A.at_, ← List.append_assoc, ← mk_split, ho]; rfl
          · exact ⟨q', by rw [List.getElem?_append_left (by simpa using lt_of hq'), List.getElem?_set_ne hw]; exact hq'⟩
        · intro k hk hne
          have hkw : w ≠ k := by rcases A.wh with h | h <;> omega
          rw [List.getElem?_append_left (by have := A.len; simp; omega), List.getElem?_set_ne hkw]
          exact A.keep k hk hne
      · have mm : bsC (mk i (e.l.length + m)) ++ byteC (mkB i (e.l.length + m)) :: bsC (List.replicate (c' - (e.l.length + m + 1)) 0) = bsC (mk i (e.l.length + (m + 1)) ++ List.replicate (c' - (e.l.length + m + 1)) 0) := by
          rw [show e.l.length + (m + 1) = e.l.length + m + 1 by omega, mk_succ, bs_cons, bs_app, List.append_assoc]; rfl
        simp (maxSteps := 4000000) only [Try.results26, e3, tk, bsC_zeros, mm, A.at_, lw, List.append_assoc, List.getElem?_append_left, List.getElem?_append_right, List.length_append, List.length_set, List.set_append_left, gset, List.getElem?_set_ne, Nat.add_sub_cancel_left, Nat.sub_self, Nat.le_refl, Nat.le_add_right, rep_flat, List.replicate_one, List.flatten_cons, List.flatten_nil, XX, Nat.reduceBEq, Nat.reduceLT, Nat.reduceAdd, Nat.reduceMul, Nat.reduceSub, Nat.reduceLeDiff, Nat.reduceEqDiff, Int.reduceToNat, Int.reduceLT, Int.reduceLE, Int.reduceAdd, Int.reduceSub, Int.reduceEq, reduceIte, Nat.reduceBNe, Int.reducePow, Nat.reducePow, Int.reduceMul, Int.reduceNeg, isB_i, isB_b, isB_y, isBv_i, isBv_b, eqCells_t, TT]
        refine ⟨9 - (m + 1), by omega, _, ⟨m + 1, _, H2.length + 1, c', true, List.replicate (c' - (e.l.length + m + 1)) 0, rfl, by omega, ⟨?_, ?_, fun _ => rfl, ?_, ?_, ?_, ?_⟩, rfl⟩, rfl, rfl, rfl, rfl, rfl, rfl, rfl, rfl, rfl, trivial⟩
        · have := A.len; simp; omega
        · rw [List.getElem?_append_right (by omega), Nat.add_sub_cancel_left]; rfl
        · simp; omega
        · obtain ⟨q', hq'⟩ := A.old
          exact ⟨q', by rw [List.getElem?_append_left (lt_of hq')]; exact hq'⟩
        · right; have := A.len; omega
        · intro k hk hne
          rw [List.getElem?_append_left (by have := A.len; omega)]
          exact A.keep k hk hne
    have hm' : m = 9 := by omega
    subst hm'
    have lw := lt_of A.at_
    have e3 : IntKind.i64.wrap ((i : Int) + 1) = ((i + 1 : Nat) : Int) := by rw [w64] <;> omega
    -- what is known of the windows behind it
    have hwG : h.length ≤ H.length := G.len
    have leH : H1.length ≤ H2.length := A.len
    have kp : ∀ k, k < H.length → k ≠ e.w → H2[k]? = H[k]? := fun k hk hne => (A.keep k (by omega) hne).trans (H1k k hne)
    have lew : e.w < h.length := lt_of (O.at_ i e he)
    have oldA : ∀ (j : Nat) (f : OE) (g : Nat × Nat × Nat), es[j]? = some f → gs[j]? = some g → (∃ o q, H2[g.1]? = some (wB o (mk j (f.l.length + 9) ++ q))) ∧ (∃ q, H2[f.w]? = some (wB f.o (mk j f.l.length ++ q))) ∧ (g.1 = f.w ∨ h.length ≤ g.1) ∧ g.2.2 = f.l.length ∧ (0 < i → g.1 ≠ iG) := by
      intro j f g hf hg
      obtain ⟨⟨o1, q1, a1⟩, ⟨q2, a2⟩, a3, a4, a5⟩ := G.at_ j f g hf hg
      have hj : j < i := by rw [← G.gl]; exact (List.getElem?_eq_some_iff.1 hg).1
      have hne : f.w ≠ e.w := O.ne j i f e (by omega) hf he
      have hne2 : g.1 ≠ e.w := by rcases a3 with h | h <;> omega
      exact ⟨⟨o1, q1, by rw [kp _ (lt_of a1) hne2]; exact a1⟩, ⟨q2, by rw [kp _ (lt_of a2) hne]; exact a2⟩, a3, a4, a5⟩
    have newA : (∃ o q, H2[w]? = some (wB o (mk i (e.l.length + 9) ++ q))) ∧ (∃ q, H2[e.w]? = some (wB e.o (mk i e.l.length ++ q))) ∧ (w = e.w ∨ h.length ≤ w) :=
      ⟨⟨_, _, A.at_⟩, A.old, by rcases A.wh with h | h <;> omega⟩
    have newG : 0 < i → w ≠ iG := by
      intro h0
      rcases G.sG with ⟨h1, _⟩ | ⟨_, _, hG, hiG⟩
      · omega
      · have := lt_of hG
        rcases A.wh with h | h <;> omega
    have allA : ∀ (j : Nat) (f : OE) (g : Nat × Nat × Nat), es[j]? = some f → (gs ++ [(w, c, e.l.length)])[j]? = some g → (∃ o q, H2[g.1]? = some (wB o (mk j (f.l.length + 9) ++ q))) ∧ (∃ q, H2[f.w]? = some (wB f.o (mk j f.l.length ++ q))) ∧ (g.1 = f.w ∨ h.length ≤ g.1) ∧ g.2.2 = f.l.length ∧ (0 < i → g.1 ≠ iG) := by
      intro j f g hf hg
      have hj : j < (gs ++ [(w, c, e.l.length)]).length := (List.getElem?_eq_some_iff.1 hg).1
      rw [List.length_append, List.length_singleton, G.gl] at hj
      by_cases hji : j < i
      · rw [List.getElem?_append_left (by rw [G.gl]; exact hji)] at hg
        exact oldA j f g hf hg
      · obtain rfl : j = i := by omega
        rw [List.getElem?_append_right (by rw [G.gl]; exact Nat.le_refl _), G.gl, Nat.sub_self] at hg
        rw [he] at hf
        cases hf
        cases hg
        exact ⟨newA.1, newA.2.1, newA.2.2, rfl, newG⟩
    have keepA : ∀ (k : Nat), k < h.length → (∀ (j : Nat) (f : OE), j < i + 1 → es[j]? = some f → k ≠ f.w) → H2[k]? = h[k]? := fun k hk hne =>
      (kp k (by omega) (hne i e (by omega) he)).trans (G.keep k hk fun j f hj hf => hne j f (by omega) hf)
    rcases G.sG with ⟨rfl, rfl⟩ | ⟨hi0, rfl, hG, hiG⟩
    · have hgs := List.eq_nil_of_length_eq_zero G.gl
      subst hgs
      simp (maxSteps := 4000000) only [Try.results26, Int.cast_ofNat_Int, A.at_, lw, List.append_assoc, List.getElem?_append_left, List.getElem?_append_right, List.length_append, List.length_set, List.set_append_left, gset, List.getElem?_set_ne, Nat.add_sub_cancel_left, Nat.sub_self, Nat.le_refl, Nat.le_add_right, rep_flat, List.replicate_one, List.flatten_cons, List.flatten_nil, XX, Nat.reduceBEq, Nat.reduceLT, Nat.reduceAdd, Nat.reduceMul, Nat.reduceSub, Nat.reduceLeDiff, Nat.reduceEqDiff, Int.reduceToNat, Int.reduceLT, Int.reduceLE, Int.reduceAdd, Int.reduceSub, Int.reduceEq, reduceIte, Nat.reduceBNe, Int.reducePow, Nat.reducePow, Int.reduceMul, Int.reduceNeg, isB_i, isB_b, isB_y, isBv_i, isBv_b, eqCells_t, TT]
      refine ⟨by unfold maxLen; omega, xapp_grow (by omega) fun cG hcG _ => ?_⟩
      simp (maxSteps := 4000000) only [Try.results26, e3, A.at_, lw, List.append_assoc, List.getElem?_append_left, List.getElem?_append_right, List.length_append, List.length_set, List.set_append_left, gset, List.getElem?_set_ne, Nat.add_sub_cancel_left, Nat.sub_self, Nat.le_refl, Nat.le_add_right, rep_flat, List.replicate_one, List.flatten_cons, List.flatten_nil, XX, Nat.reduceBEq, Nat.reduceLT, Nat.reduceAdd, Nat.reduceMul, Nat.reduceSub, Nat.reduceLeDiff, Nat.reduceEqDiff, Int.reduceToNat, Int.reduceLT, Int.reduceLE, Int.reduceAdd, Int.reduceSub, Int.reduceEq, reduceIte, Nat.reduceBNe, Int.reducePow, Nat.reducePow, Int.reduceMul, Int.reduceNeg, isB_i, isB_b, isB_y, isBv_i, isBv_b, eqCells_t, TT]
      refine ⟨es.length - 1, by omega, _, ⟨1, _, _, H2.length + 1, cG - 1, [(w, c, e.l.length)], rfl, by omega, ⟨by simp; omega, fun k hk hne => ?_, rfl, .inr ⟨by omega, rfl, ?_, by omega⟩, ?_⟩, rfl⟩, rfl, rfl, rfl, rfl, ?_, rfl, trivial⟩
      · rw [List.getElem?_append_left (by omega)]; exact keepA k hk hne
      · rw [List.getElem?_append_right (by omega), Nat.add_sub_cancel_left]; rfl
      · intro j f g hf hg
        obtain ⟨⟨o1, q1, a1⟩, ⟨q2, a2⟩, a3, a4, a5⟩ := allA j f g hf hg
        have l1 := lt_of a1
        refine ⟨⟨o1, q1, by rw [List.getElem?_append_left l1]; exact a1⟩, ⟨q2, by rw [List.getElem?_append_left (lt_of a2)]; exact a2⟩, a3, a4, fun _ => by omega⟩
      · rw [show 1 + (cG - 1) = cG by omega]; rfl
    · have lG := lt_of hG
      have neG : iG ≠ e.w := by omega
      have hG2 : H2[iG]? = _ := (kp iG lG neG).trans hG
      have lG2 := lt_of hG2
      have tG : List.take i (gs.map (fun g => SC.sl g.1 0 (g.2.2 + 9) g.2.1) ++ List.replicate r nilC) = gs.map (fun g => SC.sl g.1 0 (g.2.2 + 9) g.2.1) := take_rep _ _ _ (by simp [G.gl])
      have dG : List.drop (i + 1) (gs.map (fun g => SC.sl g.1 0 (g.2.2 + 9) g.2.1) ++ List.replicate r nilC) = List.replicate (r - 1) nilC := by
        have := drop_rep (gs.map (fun g => SC.sl g.1 0 (g.2.2 + 9) g.2.1)) nilC (i + r) i (by simp [G.gl])
        rw [show i + r - i = r by omega, show i + r - (i + 1) = r - 1 by omega] at this
        exact this
      simp (maxSteps := 4000000) only [Try.results26, Int.cast_ofNat_Int, hG2, lG2, A.at_, lw, List.append_assoc, List.getElem?_append_left, List.getElem?_append_right, List.length_append, List.length_set, List.set_append_left, gset, List.getElem?_set_ne, Nat.add_sub_cancel_left, Nat.sub_self, Nat.le_refl, Nat.le_add_right, rep_flat, List.replicate_one, List.flatten_cons, List.flatten_nil, XX, Nat.reduceBEq, Nat.reduceLT, Nat.reduceAdd, Nat.reduceMul, Nat.reduceSub, Nat.reduceLeDiff, Nat.reduceEqDiff, Int.reduceToNat, Int.reduceLT, Int.reduceLE, Int.reduceAdd, Int.reduceSub, Int.reduceEq, reduceIte, Nat.reduceBNe, Int.reducePow, Nat.reducePow, Int.reduceMul, Int.reduceNeg, isB_i, isB_b, isB_y, isBv_i, isBv_b, eqCells_t, TT]
      refine ⟨⟨by omega, by unfold maxLen; omega, by simp [G.gl], fun h => by simp [G.gl]; omega⟩, xapp_both (fun hr => ?_) (fun hg cG hcG _ => ?_)⟩
      · simp (maxSteps := 4000000) only [Try.results26, e3, tG, dG, hG2, lG2, A.at_, lw, List.append_assoc, List.getElem?_append_left, List.getElem?_append_right, List.length_append, List.length_set, List.set_append_left, gset, List.getElem?_set_ne, Nat.add_sub_cancel_left, Nat.sub_self, Nat.le_refl, Nat.le_add_right, rep_flat, List.replicate_one, List.flatten_cons, List.flatten_nil, XX, Nat.reduceBEq, Nat.reduceLT, Nat.reduceAdd, Nat.reduceMul, Nat.reduceSub, Nat.reduceLeDiff, Nat.reduceEqDiff, Int.reduceToNat, Int.reduceLT, Int.reduceLE, Int.reduceAdd, Int.reduceSub, Int.reduceEq, reduceIte, Nat.reduceBNe, Int.reducePow, Nat.reducePow, Int.reduceMul, Int.reduceNeg, isB_i, isB_b, isB_y, isBv_i, isBv_b, eqCells_t, TT]
        refine ⟨es.length - (i + 1), by omega, _, ⟨i + 1, _, _, iG, r - 1, gs ++ [(w, c, e.l.length)], rfl, by omega, ⟨by simp; omega, fun k hk hne => ?_, by simp [G.gl], .inr ⟨by omega, rfl, ?_, hiG⟩, ?_⟩, rfl⟩, rfl, rfl, rfl, rfl, ?_, rfl, trivial⟩
        · rw [List.getElem?_append_left (by simp; omega), List.getElem?_set_ne (by omega)]; exact keepA k hk hne
        · rw [List.getElem?_append_left (by simpa using lG2), gset, hG2, List.map_append, List.append_assoc]; rfl
        · intro j f g hf hg
          obtain ⟨⟨o1, q1, a1⟩, ⟨q2, a2⟩, a3, a4, a5⟩ := allA j f g hf hg
          have l2 : f.w < h.length := lt_of (O.at_ j f hf)
          refine ⟨⟨o1, q1, by rw [List.getElem?_append_left (by simpa using lt_of a1), List.getElem?_set_ne (a5 hi0).symm]; exact a1⟩, ⟨q2, by rw [List.getElem?_append_left (by simpa using lt_of a2), List.getElem?_set_ne (by omega)]; exact a2⟩, a3, a4, fun _ => a5 hi0⟩
        · rw [show i + 1 + (r - 1) = i + r by omega]; rfl
      · simp (maxSteps := 4000000) only [Try.results26, e3, tG, dG, hG2, lG2, A.at_, lw, List.append_assoc, List.getElem?_append_left, List.getElem?_append_right, List.length_append, List.length_set, List.set_append_left, gset, List.getElem?_set_ne, Nat.add_sub_cancel_left, Nat.sub_self, Nat.le_refl, Nat.le_add_right, rep_flat, List.replicate_one, List.flatten_cons, List.flatten_nil, XX, Nat.reduceBEq, Nat.reduceLT, Nat.reduceAdd, Nat.reduceMul, Nat.reduceSub, Nat.reduceLeDiff, Nat.reduceEqDiff, Int.reduceToNat, Int.reduceLT, Int.reduceLE, Int.reduceAdd, Int.reduceSub, Int.reduceEq, reduceIte, Nat.reduceBNe, Int.reducePow, Nat.reducePow, Int.reduceMul, Int.reduceNeg, isB_i, isB_b, isB_y, isBv_i, isBv_b, eqCells_t, TT]
        refine ⟨es.length - (i + 1), by omega, _, ⟨i + 1, _, _, H2.length + 1, cG - (i + 1), gs ++ [(w, c, e.l.length)], rfl, by omega, ⟨by simp; omega, fun k hk hne => ?_, by simp [G.gl], .inr ⟨by omega, rfl, ?_, by omega⟩, ?_⟩, rfl⟩, rfl, rfl, rfl, rfl, ?_, rfl, trivial⟩
        · rw [List.getElem?_append_left (by omega)]; exact keepA k hk hne
        · rw [List.getElem?_append_right (by omega), Nat.add_sub_cancel_left, List.map_append, List.append_assoc]; rfl
        · intro j f g hf hg
          obtain ⟨⟨o1, q1, a1⟩, ⟨q2, a2⟩, a3, a4, a5⟩ := allA j f g hf hg
          have l1 := lt_of a1
          refine ⟨⟨o1, q1, by rw [List.getElem?_append_left l1]; exact a1⟩, ⟨q2, by rw [List.getElem?_append_left (lt_of a2)]; exact a2⟩, a3, a4, fun _ => by omega⟩
        · rw [show i + 1 + (cG - (i + 1)) = cG by omega]; rfl
  have hi' : i = es.length := by omega
  subst hi'
  have hd : decide ((es.length : Int) < (es.length : Int)) = false := by simp
  simp (maxSteps := 4000000) only [Try.results26, kb, hd, XX, Nat.reduceBEq, Nat.reduceLT, Nat.reduceAdd, Nat.reduceMul, Nat.reduceSub, Nat.reduceLeDiff, Nat.reduceEqDiff, Int.reduceToNat, Int.reduceLT, Int.reduceLE, Int.reduceAdd, Int.reduceSub, Int.reduceEq, reduceIte, Nat.reduceBNe, Int.reducePow, Nat.reducePow, Int.reduceMul, Int.reduceNeg, isB_i, isB_b, isB_y, isBv_i, isBv_b, eqCells_t, TT]
  rcases Nat.eq_zero_or_pos es.length with hn0 | hn0
  · -- no lists
    rcases G.sG with ⟨_, rfl⟩ | ⟨h1, _⟩
    · rw [hn0]
      refine loop_rounds cx_ok 400 1 ?_
      simp (maxSteps := 4000000) only [Try.results26, XX, Nat.reduceBEq, Nat.reduceLT, Nat.reduceAdd, Nat.reduceMul, Nat.reduceSub, Nat.reduceLeDiff, Nat.reduceEqDiff, Int.reduceToNat, Int.reduceLT, Int.reduceLE, Int.reduceAdd, Int.reduceSub, Int.reduceEq, reduceIte, Nat.reduceBNe, Int.reducePow, Nat.reducePow, Int.reduceMul, Int.reduceNeg, isB_i, isB_b, isB_y, isBv_i, isBv_b, eqCells_t, TT]
    · omega
  obtain ⟨rfl, hG, hiG⟩ : sG = .sl iG 0 es.length (es.length + r) ∧ H[iG]? = some (listsB (gs.map (fun g => SC.sl g.1 0 (g.2.2 + 9) g.2.1) ++ List.replicate r nilC)) ∧ h.length ≤ iG := by
    rcases G.sG with ⟨h1, _⟩ | ⟨_, h1, h2, h3⟩
    · omega
    · exact ⟨h1, h2, h3⟩
  refine loop_at cx_ok 400 (fun μ σ => ∃ i : Nat, μ = es.length - i ∧ i ≤ es.length ∧ σ = ⟨⟨15, h.length⟩, [(0, .c (.ptr ib 0)), (2, .c (bC false)), (4, .c (.sl iG 0 es.length (es.length + r))), (11, .c (i64 i))], H⟩) es.length
    ⟨⟨15, h.length⟩, [(0, .c (.ptr ib 0)), (2, .c (bC false)), (4, .c (.sl iG 0 es.length (es.length + r))), (11, .c (i64 (0 : Nat)))], H⟩ ⟨0, rfl, Nat.zero_le _, rfl⟩ ⟨rfl, rfl, rfl, rfl, rfl, rfl, trivial⟩ ?_
  rintro μ σ ⟨i, rfl, hi, rfl⟩
  by_cases hlt : i < es.length
  · have hd : decide ((i : Int) < (es.length : Int)) = true := by simp only [decide_eq_true_eq]; omega
    obtain ⟨e, he⟩ : ∃ e, es[i]? = some e := ⟨_, List.getElem?_eq_getElem hlt⟩
    obtain ⟨g, hg⟩ : ∃ g, gs[i]? = some g := ⟨_, List.getElem?_eq_getElem (by rw [G.gl]; exact hlt)⟩
    have g1 : (es.map OE.sc ++ List.replicate (cL - es.length) nilC).getD i .any = .sl e.w 0 e.l.length (e.l.length + e.p.length) := getD_map he
    have g2 : (gs.map (fun g => SC.sl g.1 0 (g.2.2 + 9) g.2.1) ++ List.replicate r nilC).getD i .any = .sl g.1 0 (g.2.2 + 9) g.2.1 := getD_map hg
    obtain ⟨⟨o1, q1, a1⟩, ⟨q2, a2⟩, a3, a4, a5⟩ := G.at_ i e g he hg
    rw [a4] at g2
    have hlen := O.lt i e he
    have e3 : IntKind.i64.wrap ((i : Int) + 1) = ((i + 1 : Nat) : Int) := by rw [w64] <;> omega
    simp (maxSteps := 4000000) only [Try.results26, kb, kL, hd, g1, XX, Nat.reduceBEq, Nat.reduceLT, Nat.reduceAdd, Nat.reduceMul, Nat.reduceSub, Nat.reduceLeDiff, Nat.reduceEqDiff, Int.reduceToNat, Int.reduceLT, Int.reduceLE, Int.reduceAdd, Int.reduceSub, Int.reduceEq, reduceIte, Nat.reduceBNe, Int.reducePow, Nat.reducePow, Int.reduceMul, Int.reduceNeg, isB_i, isB_b, isB_y, isBv_i, isBv_b, eqCells_t, TT]
    refine ⟨⟨by omega, by omega⟩, by simp; omega, ?_⟩
    refine loop_at cx_ok 400 (fun μ σ => ∃ m : Nat, μ = e.l.length + 9 - m ∧ m ≤ e.l.length + 9 ∧ σ = ⟨⟨15, h.length⟩, [(0, .c (.ptr ib 0)), (2, .c (bC false)), (4, .c (.sl iG 0 es.length (es.length + r))), (11, .c (i64 i)), (12, .c (.sl e.w 0 e.l.length (e.l.length + e.p.length))), (13, .c (i64 m))], H⟩) (e.l.length + 9)
      ⟨⟨15, h.length⟩, [(0, .c (.ptr ib 0)), (2, .c (bC false)), (4, .c (.sl iG 0 es.length (es.length + r))), (11, .c (i64 i)), (12, .c (.sl e.w 0 e.l.length (e.l.length + e.p.length))), (13, .c (i64 (0 : Nat)))], H⟩ ⟨0, rfl, Nat.zero_le _, rfl⟩ ⟨rfl, rfl, rfl, rfl, rfl, rfl, rfl, rfl, trivial⟩ ?_
    rintro μ σ ⟨m, rfl, hm, rfl⟩
    have p1 : (0 : Int) ≤ (i : Int) ∧ (i : Int) < (es.length : Int) := ⟨by omega, by omega⟩
    have p2 : i < (gs.map (fun g => SC.sl g.1 0 (g.2.2 + 9) g.2.1) ++ List.replicate r nilC).length := by simp [G.gl]; omega
    have f1 : (bsC (mk i (e.l.length + 9) ++ q1)).getD m .any = if m < e.l.length + 9 then SC.v (.int .u8 (mkB i m).toNat) else (bsC (mk i (e.l.length + 9) ++ q1)).getD m .any := by
      split
      · rename_i hm
        rw [List.getD_eq_getElem?_getD, List.getElem?_map, List.getElem?_append_left (by rw [mk_len]; exact hm), mk_at hm]; rfl
      · rfl
    have e4 : IntKind.i64.wrap ((m : Int) + 1) = ((m + 1 : Nat) : Int) := by rw [w64] <;> omega
    by_cases hlt2 : m < e.l.length + 9
    · have hd2 : decide ((m : Int) < ((e.l.length + 9 : Nat) : Int)) = true := by simp only [decide_eq_true_eq]; omega
      rw [if_pos hlt2] at f1
      simp (maxSteps := 4000000) only [Try.results26, hG, g2, hd2, p1, p2, XX, Nat.reduceBEq, Nat.reduceLT, Nat.reduceAdd, Nat.reduceMul, Nat.reduceSub, Nat.reduceLeDiff, Nat.reduceEqDiff, Int.reduceToNat, Int.reduceLT, Int.reduceLE, Int.reduceAdd, Int.reduceSub, Int.reduceEq, reduceIte, Nat.reduceBNe, Int.reducePow, Nat.reducePow, Int.reduceMul, Int.reduceNeg, isB_i, isB_b, isB_y, isBv_i, isBv_b, eqCells_t, TT]
      refine call_plain (mark_spec i m (by omega) (by omega)) rfl ?_
      rintro _ rfl
      by_cases hlt3 : m < e.l.length
      · have hd3 : decide ((m : Int) < (e.l.length : Int)) = true := by simp only [decide_eq_true_eq]; omega
        have f2 : (bsC (mk i e.l.length ++ q2)).getD m .any = SC.v (.int .u8 (mkB i m).toNat) := by
          rw [List.getD_eq_getElem?_getD, List.getElem?_map, List.getElem?_append_left (by rw [mk_len]; exact hlt3), mk_at hlt3]; rfl
        simp (maxSteps := 4000000) only [Try.results26, hG, g2, a1, a2, f1, f2, hd3, byteC, e4, XX, Nat.reduceBEq, Nat.reduceLT, Nat.reduceAdd, Nat.reduceMul, Nat.reduceSub, Nat.reduceLeDiff, Nat.reduceEqDiff, Int.reduceToNat, Int.reduceLT, Int.reduceLE, Int.reduceAdd, Int.reduceSub, Int.reduceEq, reduceIte, Nat.reduceBNe, Int.reducePow, Nat.reducePow, Int.reduceMul, Int.reduceNeg, isB_i, isB_b, isB_y, isBv_i, isBv_b, eqCells_t, TT]
        exact ⟨by omega, p2, ⟨by omega, by omega⟩, by simp [mk_len]; omega, ⟨by omega, by omega⟩, by simp [mk_len]; omega, e.l.length + 9 - (m + 1), by omega, _, ⟨m + 1, rfl, by omega, rfl⟩, rfl, rfl, rfl, rfl, rfl, rfl, rfl, rfl, trivial⟩
      · have hd3 : decide ((m : Int) < (e.l.length : Int)) = false := by simp only [decide_eq_false_iff_not]; omega
        have f2 : (∃ x : UInt8, (bsC (mk i e.l.length ++ q2)).getD m .any = SC.v (.int .u8 x.toNat)) ∨ (bsC (mk i e.l.length ++ q2)).getD m .any = .any := by
          rw [List.getD_eq_getElem?_getD, List.getElem?_map]
          cases (mk i e.l.length ++ q2)[m]? with
          | none => exact .inr rfl
          | some x => exact .inl ⟨x, rfl⟩
        have bad : ∀ {d : TD} {sz : List Bool} {fl : Bool} {op : BinOp} {y : SC}, binS d sz fl op (.c .any) (.c y) = .bad := by intros; rfl
        rcases f2 with ⟨x, f2⟩ | f2
        all_goals
          simp (maxSteps := 4000000) only [Try.results26, hG, g2, a1, a2, f1, f2, hd3, byteC, e4, bad, XX, Nat.reduceBEq, Nat.reduceLT, Nat.reduceAdd, Nat.reduceMul, Nat.reduceSub, Nat.reduceLeDiff, Nat.reduceEqDiff, Int.reduceToNat, Int.reduceLT, Int.reduceLE, Int.reduceAdd, Int.reduceSub, Int.reduceEq, reduceIte, Nat.reduceBNe, Int.reducePow, Nat.reducePow, Int.reduceMul, Int.reduceNeg, isB_i, isB_b, isB_y, isBv_i, isBv_b, eqCells_t, TT]
          exact ⟨by omega, p2, ⟨by omega, by omega⟩, by simp [mk_len]; omega, e.l.length + 9 - (m + 1), by omega, _, ⟨m + 1, rfl, by omega, rfl⟩, rfl, rfl, rfl, rfl, rfl, rfl, rfl, rfl, trivial⟩
    · have hm' : m = e.l.length + 9 := by omega
      subst hm'
      have hd2 : decide (((e.l.length + 9 : Nat) : Int) < ((e.l.length + 9 : Nat) : Int)) = false := by simp
      simp (maxSteps := 4000000) only [Try.results26, hG, g2, hd2, p1, p2, e3, XX, Nat.reduceBEq, Nat.reduceLT, Nat.reduceAdd, Nat.reduceMul, Nat.reduceSub, Nat.reduceLeDiff, Nat.reduceEqDiff, Int.reduceToNat, Int.reduceLT, Int.reduceLE, Int.reduceAdd, Int.reduceSub, Int.reduceEq, reduceIte, Nat.reduceBNe, Int.reducePow, Nat.reducePow, Int.reduceMul, Int.reduceNeg, isB_i, isB_b, isB_y, isBv_i, isBv_b, eqCells_t, TT]
      exact ⟨es.length - (i + 1), by omega, _, ⟨i + 1, rfl, by omega, rfl⟩, rfl, rfl, rfl, rfl, rfl, rfl, trivial⟩
  · have hi' : i = es.length := by omega
    subst hi'
    have hd : decide ((es.length : Int) < (es.length : Int)) = false := by simp
    simp (maxSteps := 4000000) only [Try.results26, hd, XX, Nat.reduceBEq, Nat.reduceLT, Nat.reduceAdd, Nat.reduceMul, Nat.reduceSub, Nat.reduceLeDiff, Nat.reduceEqDiff, Int.reduceToNat, Int.reduceLT, Int.reduceLE, Int.reduceAdd, Int.reduceSub, Int.reduceEq, reduceIte, Nat.reduceBNe, Int.reducePow, Nat.reducePow, Int.reduceMul, Int.reduceNeg, isB_i, isB_b, isB_y, isBv_i, isBv_b, eqCells_t, TT]
end Go.Proofs.Ytgegddefcgfhgaa.Sx
namespace Go.Proofs.Ytgegddefcgfhgaa.Sx
open Go
set_option linter.unusedSimpArgs false
set_option linter.unusedVariables false
set_option maxRecDepth 10000
set_option maxHeartbeats 2000000
theorem ty_ne {H : List SB} {i j : Nat} {a b : SB} (hi : H[i]? = some a) (hj : H[j]? = some b) (h : a.ty ≠ b.ty) : i ≠ j := by
  rintro rfl
  rw [hi] at hj
  exact h (congrArg SB.ty (Option.some.inj hj))
theorem plug_off {r : Nat → Nat} {π : List Nat} {h0 h0' h : List SB} {i : Nat} {b : SB} (hi : h[i]? = some b) (hn : i ∉ π) : (plug r π h0 h0' h)[i]? = some b := by
  have lt := lt_of hi
  have lg : (plugGo r π h0 h0' h).length = h.length := plugGo_len
  unfold plug
  rw [List.getElem?_append_left (by omega)]
  obtain ⟨b', hb'⟩ : ∃ b', (plugGo r π h0 h0' h)[i]? = some b' := ⟨_, List.getElem?_eq_getElem (by omega)⟩
  rcases plugGo_cases hb' with ⟨h1, _⟩ | ⟨k, b0, b1, h1, _⟩
  · rw [hb', ← h1, hi]
  · exact absurd (List.mem_of_getElem? h1) hn
/-- The entries, by numbers from 'k' on. -/
def renE : Nat → List OE → List OE
  | _, [] => []
  | k, e :: es => ⟨k, e.l, e.p, e.o⟩ :: renE (k + 1) es
abbrev winE (e : OE) : SB := wB e.o (e.l ++ e.p)
theorem renE_get : ∀ {es : List OE} {k i : Nat}, (renE k es)[i]? = (es[i]?).map fun e => ⟨k + i, e.l, e.p, e.o⟩
  | [], _, _ => by simp [renE]
  | e :: es, k, 0 => by simp [renE]
  | e :: es, k, i + 1 => by
    simp only [renE, List.getElem?_cons_succ, renE_get (es := es) (k := k + 1) (i := i)]
    rw [show k + 1 + i = k + (i + 1) by omega]
theorem renE_len : ∀ (es : List OE) (k : Nat), (renE k es).length = es.length
  | [], _ => rfl
  | e :: es, k => by simp [renE, renE_len es (k + 1)]
theorem renE_l : ∀ (es : List OE) (k : Nat), (renE k es).map OE.l = es.map OE.l
  | [], _ => rfl
  | e :: es, k => by simp [renE, renE_l es (k + 1)]
theorem renE_owns (es : List OE) (a b c : SB) (hown : ∀ e ∈ es, 0 < e.l.length + e.p.length → e.o = true) (hlt : ∀ e ∈ es, e.l.length < 140737488351233) : Owns (a :: b :: c :: es.map winE) (renE 3 es) := by
  have key : ∀ (i : Nat) (f : OE), (renE 3 es)[i]? = some f → ∃ e, es[i]? = some e ∧ f = ⟨3 + i, e.l, e.p, e.o⟩ := by
    intro i f hf
    rw [renE_get] at hf
    cases he : es[i]? with
    | none => rw [he] at hf; cases hf
    | some e => rw [he] at hf; exact ⟨e, rfl, (Option.some.inj hf).symm⟩
  refine ⟨fun i f hf => ?_, fun i f hf => ?_, fun i f hf => ?_, fun i j f g hij hf hg => ?_⟩
  · obtain ⟨e, he, rfl⟩ := key i f hf
    show (a :: b :: c :: es.map winE)[3 + i]? = _
    rw [Nat.add_comm 3 i]
    simp only [List.getElem?_cons_succ, List.getElem?_map, he]
    rfl
  · obtain ⟨e, he, rfl⟩ := key i f hf
    exact hown e (List.mem_of_getElem? he)
  · obtain ⟨e, he, rfl⟩ := key i f hf
    exact hlt e (List.mem_of_getElem? he)
  · obtain ⟨e, he, rfl⟩ := key i f hf
    obtain ⟨e', he', rfl⟩ := key j g hg
    show 3 + i ≠ 3 + j
    omega
theorem preOk_es {r : Nat → Nat} {H : List SB} : ∀ {es : List OE}, (∀ e ∈ es, H[e.w]? = some (winE e)) → preOk r H (es.map OE.w) (es.map winE)
  | [], _ => trivial
  | e :: es, h => by
    refine ⟨?_, preOk_es fun x hx => h x (List.mem_cons_of_mem _ hx)⟩
    rw [h e (List.mem_cons_self ..)]
    exact ⟨(ren_bsC _ _).symm, fun h => ⟨h, rfl⟩⟩
theorem piOk_es : ∀ {es : List OE}, (∀ (i j : Nat) (e f : OE), i ≠ j → es[i]? = some e → es[j]? = some f → e.w ≠ f.w) → piOk (es.map OE.w) (es.map winE) = true
  | [], _ => rfl
  | e :: es, h => by
    simp only [List.map_cons, piOk, Bool.and_eq_true]
    refine ⟨?_, piOk_es fun i j a b hij ha hb => h (i + 1) (j + 1) a b (by omega) (by simpa using ha) (by simpa using hb)⟩
    rw [List.all_eq_true]
    rintro ⟨x, y⟩ hq
    have hx := (List.of_mem_zip hq).1
    simp only [List.mem_map] at hx
    obtain ⟨f, hf, rfl⟩ := hx
    obtain ⟨j, hj, hf'⟩ := List.getElem_of_mem hf
    have := h 0 (j + 1) e f (by omega) rfl (by simp [List.getElem?_eq_getElem hj, hf'])
    simp [this]
theorem renE_ren {r : Nat → Nat} : ∀ {es : List OE} {k : Nat}, (∀ (i : Nat) (e : OE), es[i]? = some e → r (k + i) = e.w) → ((renE k es).map OE.sc).map (SC.ren r) = es.map OE.sc
  | [], _, _ => rfl
  | e :: es, k, h => by
    simp only [renE, List.map_cons]
    rw [renE_ren fun i f hf => by rw [show k + 1 + i = k + (i + 1) by omega]; exact h (i + 1) f (by simpa using hf)]
    congr 1
    show SC.sl (r k) 0 _ _ = SC.sl e.w 0 _ _
    rw [show r k = e.w from h 0 e rfl]
theorem all_ne {x : Nat} {l : List Nat} {hs : List SB} {p : Nat × SB → Bool} (h : ∀ y ∈ l, x ≠ y) : ((l.zip hs).all fun q => !x == q.1 || p q) = true := by
  rw [List.all_eq_true]
  rintro ⟨y, b⟩ hq
  have := h y (List.of_mem_zip hq).1
  simp [this]
theorem renE_lt : ∀ (es : List OE) (k n : Nat), k + es.length ≤ n → ((renE k es).map OE.sc).all (SC.lt n) = true
  | [], _, _, _ => rfl
  | e :: es, k, n, h => by
    simp only [List.length_cons] at h
    simp only [renE, List.map_cons, List.all_cons, Bool.and_eq_true]
    refine ⟨?_, renE_lt es (k + 1) n (by omega)⟩
    simp only [OE.sc, SC.lt, decide_eq_true_eq]
    omega
theorem ownedF_spec {H : List SB} {bk : Nat} {es : List OE} {iL cL iW cW : Nat} (B : Book H bk (es.map OE.sc) (es.map OE.l) iL cL iW cW) (O : Owns H es) (hn : es.length < 4398046511104) :
    Spec cx.P 26 [.c (.ptr bk 0)] H fun t h' => t = .c (bC true) ∧ H.length ≤ h'.length ∧ ∀ (i : Nat) (b : SB), H[i]? = some b → i ≠ bk → i ≠ iL → i ≠ iW → (∀ e ∈ es, e.w ≠ i) → h'[i]? = some b := by
  have oe : ∀ e ∈ es, ∃ i, es[i]? = some e := fun e he => by
    obtain ⟨i, hi, h⟩ := List.getElem_of_mem he
    exact ⟨i, by rw [List.getElem?_eq_getElem hi, h]⟩
  have n1 := ty_ne B.b B.L (by decide : (51 : Nat) ≠ 22)
  have n2 := ty_ne B.b B.W (by decide : (51 : Nat) ≠ 9)
  have n3 := ty_ne B.L B.W (by decide : (22 : Nat) ≠ 9)
  have m1 : ∀ e ∈ es, bk ≠ e.w := fun e he => by obtain ⟨i, hi⟩ := oe e he; exact ty_ne B.b (O.at_ i e hi) (by decide : (51 : Nat) ≠ 5)
  have m2 : ∀ e ∈ es, iL ≠ e.w := fun e he => by obtain ⟨i, hi⟩ := oe e he; exact ty_ne B.L (O.at_ i e hi) (by decide : (22 : Nat) ≠ 5)
  have m3 : ∀ e ∈ es, iW ≠ e.w := fun e he => by obtain ⟨i, hi⟩ := oe e he; exact ty_ne B.W (O.at_ i e hi) (by decide : (9 : Nat) ≠ 5)
  have L := B.L
  have W := B.W
  have hb := B.b
  have cl := B.cl
  have cw := B.cw
  simp only [List.length_map] at L W hb cl cw
  have s := owned_spec ([bookB (.sl 1 0 es.length cL) (.sl 2 0 es.length cW), listsB ((renE 3 es).map OE.sc ++ List.replicate (cL - es.length) nilC), wasB ((es.map OE.l).map strB ++ List.replicate (cW - es.length) noS)] ++ es.map winE) 0 (renE 3 es) 1 cL 2 cW
    ⟨by simp [renE_len], by simp [renE_len], by rw [renE_l]; simp [renE_len], by simp, by simpa [renE_len] using cl, by simpa [renE_len] using cw⟩
    (renE_owns es _ _ _ (fun e he => by obtain ⟨i, hi⟩ := oe e he; exact O.own i e hi) (fun e he => by obtain ⟨i, hi⟩ := oe e he; exact O.lt i e hi)) (by rw [renE_len]; exact hn)
  have r0 : ∀ (i : Nat) (e : OE), es[i]? = some e → renF ([bk, iL, iW] ++ es.map OE.w) H.length (3 + i) = e.w := fun i e he => by
    unfold renF
    rw [List.getElem?_append_right (by simp), show 3 + i - [bk, iL, iW].length = i by simp, List.getElem?_map, he]
    rfl
  refine (s.frame (args := [.c (.ptr bk 0)]) (h := H) false (fun h => by cases h) ([bk, iL, iW] ++ es.map OE.w) ⟨.inl ⟨by simp [SV.lt, SC.lt], rfl⟩, trivial⟩ ?_ ?_ ?_).mono fun t h' ⟨s0, h0', e1, e2, e3⟩ => ?_
  · show ((([iL, iW] ++ es.map OE.w).zip _).all _ && ((([iW] ++ es.map OE.w).zip _).all _ && (((es.map OE.w).zip _).all _ && piOk _ _))) = true
    rw [Bool.and_eq_true, Bool.and_eq_true, Bool.and_eq_true]
    refine ⟨all_ne fun y hy => ?_, all_ne fun y hy => ?_, all_ne fun y hy => ?_, piOk_es O.ne⟩
    · simp only [List.mem_append, List.mem_cons, List.not_mem_nil, or_false, List.mem_map] at hy
      rcases hy with (rfl | rfl) | ⟨e, he, rfl⟩
      · exact n1
      · exact n2
      · exact m1 e he
    · simp only [List.mem_append, List.mem_cons, List.not_mem_nil, or_false, List.mem_map] at hy
      rcases hy with rfl | ⟨e, he, rfl⟩
      · exact n3
      · exact m2 e he
    · simp only [List.mem_map] at hy
      obtain ⟨e, he, rfl⟩ := hy
      exact m3 e he
  · refine ⟨?_, ?_, ?_, preOk_es fun e he => ?_⟩
    · rw [hb]
      exact ⟨by simp only [List.length_map]; rfl, fun _ => ⟨rfl, rfl⟩⟩
    · rw [L]
      refine ⟨?_, fun _ => ⟨rfl, rfl⟩⟩
      show _ = List.map _ (_ ++ _)
      rw [List.map_append, renE_ren r0, List.map_replicate]
      rfl
    · rw [W]
      refine ⟨?_, fun _ => ⟨rfl, rfl⟩⟩
      show _ = List.map _ (_ ++ _)
      have hs : ∀ (r : Nat → Nat) (l : List (List UInt8)), (l.map strB).map (SC.ren r) = l.map strB := fun r l => by rw [List.map_map]; rfl
      rw [List.map_append, List.map_replicate, hs]
      rfl
    · obtain ⟨i, hi⟩ := oe e he
      exact O.at_ i e hi
  · rw [List.all_append, Bool.and_eq_true]
    refine ⟨?_, ?_⟩
    · simp only [List.all_cons, List.all_nil, Bool.and_true, Bool.and_eq_true, List.all_append]
      refine ⟨⟨by simp [SC.lt], by simp [SC.lt]⟩, ⟨renE_lt _ _ _ (by simp; omega), ?_⟩, ?_, ?_⟩
      · rw [List.all_eq_true]; intro x hx; rw [List.eq_of_mem_replicate hx]; rfl
      · rw [List.all_eq_true]; intro x hx; obtain ⟨y, _, rfl⟩ := List.mem_map.1 hx; rfl
      · rw [List.all_eq_true]; intro x hx; rw [List.eq_of_mem_replicate hx]; rfl
    · rw [List.all_eq_true]
      intro x hx
      obtain ⟨e, _, rfl⟩ := List.mem_map.1 hx
      rw [List.all_eq_true]
      intro y hy
      obtain ⟨z, _, rfl⟩ := List.mem_map.1 hy
      rfl
  · subst e1 e2 e3
    refine ⟨rfl, ?_, fun i b hi h1 h2 h3 h4 => plug_off hi ?_⟩
    · unfold plug
      rw [List.length_append, plugGo_len]
      omega
    · intro hm
      simp only [List.mem_append, List.mem_cons, List.not_mem_nil, or_false, List.mem_map] at hm
      rcases hm with (h | h | h) | ⟨e, he, h⟩
      · exact h1 h
      · exact h2 h
      · exact h3 h
      · exact h4 e he h
end Go.Proofs.Ytgegddefcgfhgaa.Sx
namespace Go.Proofs.Ytgegddefcgfhgaa.Sx
open Go
set_option linter.unusedSimpArgs false
set_option linter.unusedVariables false
set_option maxRecDepth 10000
set_option maxHeartbeats 1000000
theorem rput2_spec (n : Nat) (hn : n < 18446744073709551616) : Spec cx.P 80 [.c (u64 n), .c (i64 2)] [] fun s h' => s = .c (.sl 0 0 2 2) ∧ h' = [wB true (be2 n)] := by
  refine spec_of_X cx_ok Try.func80 rfl (by kernel_rfl) (by kernel_rfl) (Nat.le_of_ble_eq_true rfl) 400 7 ?_
  simp (maxSteps := 4000000) only [Try.results80, XX, Nat.reduceBEq, Nat.reduceLT, Nat.reduceAdd, Nat.reduceMul, Nat.reduceSub, Nat.reduceLeDiff, Nat.reduceEqDiff, Int.reduceToNat, Int.reduceLT, Int.reduceLE, Int.reduceAdd, Int.reduceSub, Int.reduceEq, reduceIte, Nat.reduceBNe, Int.reducePow, Nat.reducePow, Int.reduceMul, Int.reduceNeg, isB_i, isB_b, isB_y, isBv_i, isBv_b, eqCells_t, TT]
  refine loop_rounds cx_ok 400 3 ?_
  simp (maxSteps := 4000000) only [Try.results80, w64, List.replicate_succ, List.replicate_zero, List.flatten_cons, List.flatten_nil, Int.reduceDiv, Int.reduceMod, Int.reduceToNat, XX, Nat.reduceBEq, Nat.reduceLT, Nat.reduceAdd, Nat.reduceMul, Nat.reduceSub, Nat.reduceLeDiff, Nat.reduceEqDiff, Int.reduceToNat, Int.reduceLT, Int.reduceLE, Int.reduceAdd, Int.reduceSub, Int.reduceEq, reduceIte, Nat.reduceBNe, Int.reducePow, Nat.reducePow, Int.reduceMul, Int.reduceNeg, isB_i, isB_b, isB_y, isBv_i, isBv_b, eqCells_t, TT]
  rw [tdiv256, wu64 (by omega) (by omega), tmod256, tmod256, byteC_m, byteC_m]
  rfl
theorem rput4_spec (n : Nat) (hn : n < 18446744073709551616) : Spec cx.P 80 [.c (u64 n), .c (i64 4)] [] fun s h' => s = .c (.sl 0 0 4 4) ∧ h' = [wB true (be4 n)] := by
  refine spec_of_X cx_ok Try.func80 rfl (by kernel_rfl) (by kernel_rfl) (Nat.le_of_ble_eq_true rfl) 400 7 ?_
  simp (maxSteps := 4000000) only [Try.results80, XX, Nat.reduceBEq, Nat.reduceLT, Nat.reduceAdd, Nat.reduceMul, Nat.reduceSub, Nat.reduceLeDiff, Nat.reduceEqDiff, Int.reduceToNat, Int.reduceLT, Int.reduceLE, Int.reduceAdd, Int.reduceSub, Int.reduceEq, reduceIte, Nat.reduceBNe, Int.reducePow, Nat.reducePow, Int.reduceMul, Int.reduceNeg, isB_i, isB_b, isB_y, isBv_i, isBv_b, eqCells_t, TT]
  refine loop_rounds cx_ok 400 5 ?_
  have a1 : IntKind.u64.wrap (((n / 256 : Nat)) : Int) = ((n / 256 : Nat) : Int) := by rw [wu64] <;> omega
  have a2 : IntKind.u64.wrap (((n / 256 / 256 : Nat)) : Int) = ((n / 256 / 256 : Nat) : Int) := by rw [wu64] <;> omega
  have a3 : IntKind.u64.wrap (((n / 256 / 256 / 256 : Nat)) : Int) = ((n / 256 / 256 / 256 : Nat) : Int) := by rw [wu64] <;> omega
  simp (maxSteps := 4000000) only [Try.results80, w64, tdiv256, tmod256, a1, a2, a3, byteC_m, Nat.div_div_eq_div_mul, List.replicate_succ, List.replicate_zero, List.flatten_cons, List.flatten_nil, Int.reduceDiv, Int.reduceMod, Int.reduceToNat, XX, Nat.reduceBEq, Nat.reduceLT, Nat.reduceAdd, Nat.reduceMul, Nat.reduceSub, Nat.reduceLeDiff, Nat.reduceEqDiff, Int.reduceToNat, Int.reduceLT, Int.reduceLE, Int.reduceAdd, Int.reduceSub, Int.reduceEq, reduceIte, Nat.reduceBNe, Int.reducePow, Nat.reducePow, Int.reduceMul, Int.reduceNeg, isB_i, isB_b, isB_y, isBv_i, isBv_b, eqCells_t, TT]
  have a4 : IntKind.u64.wrap (((n / 65536 : Nat)) : Int) = ((n / 65536 : Nat) : Int) := by rw [wu64] <;> omega
  have a5 : IntKind.u64.wrap (((n / 16777216 : Nat)) : Int) = ((n / 16777216 : Nat) : Int) := by rw [wu64] <;> omega
  simp only [a4, a5, tdiv256, tmod256, byteC_m, Nat.div_div_eq_div_mul, Nat.reduceMul]
  rfl
end Go.Proofs.Ytgegddefcgfhgaa.Sx
namespace Go.Proofs.Ytgegddefcgfhgaa.Sx
open Go
set_option linter.unusedSimpArgs false
set_option linter.unusedVariables false
set_option maxRecDepth 10000
set_option maxHeartbeats 1000000
theorem RTy_mac {B n : Nat} {x : List RC} (h : RTy T B (n + 2) 26 x) : ∃ m : M6, x = bsR m.l := by
  obtain ⟨parts, h1, rfl, h2⟩ := RTy_array T_26 h
  obtain ⟨ys, rfl, _⟩ := all_form (p := fun _ => True) (f := fun b : UInt8 => [byteR b]) fun x hx => by
    obtain ⟨b, rfl⟩ := RTy_byte (h2 x hx)
    exact ⟨b, rfl, trivial⟩
  rw [List.length_map] at h1
  match ys, h1 with
  | [a, b, c, d, e, f], _ => exact ⟨⟨a, b, c, d, e, f⟩, rfl⟩
end Go.Proofs.Ytgegddefcgfhgaa.Sx
namespace Go.Proofs.Ytgegddefcgfhgaa.Sx
open Go
set_option linter.unusedSimpArgs false
set_option linter.unusedVariables false
set_option maxRecDepth 10000
set_option maxHeartbeats 2000000
theorem OI.form {n : Nat} {x : List RC} (h : RTy T reachBytes (n + 4) 74 x) : ∃ o : OI, x = o.rc ∧ o.ok := by
  obtain ⟨parts, rfl, h1⟩ := RTy_struct T_74 h
  simp only [List.map_cons, List.map_nil] at h1
  obtain ⟨p1, r1, rfl, q1, h2⟩ := RTyL_cons h1
  obtain ⟨p2, r2, rfl, q2, h3⟩ := RTyL_cons h2
  obtain rfl := RTyL_nil h3
  obtain ⟨a, rfl, ha⟩ := RTy_int T_3 q1
  obtain ⟨l, sp, c, rfl, hc1, hc2, hc3, hc4⟩ := RTy_bytes (n := n + 1) q2
  simp [IntKind.min, IntKind.max, IntKind.bits, IntKind.signed] at ha
  exact ⟨⟨a, l, sp, c⟩, rfl, hc1, (by show l.length ≤ _; have h4 : c ≤ 140737488351232 := hc4; omega), ha.1, by have := ha.2; show a < _; omega⟩
section
variable (xs sp : List OI) (c : Nat) (hok : ∀ x ∈ xs, x.ok) (hn : xs.length ≤ 140737488355328) (k : Int)
include hok hn
end
end Go.Proofs.Ytgegddefcgfhgaa.Sx
namespace Go.Proofs.Ytgegddefcgfhgaa.Sx
open Go
set_option linter.unusedSimpArgs false
set_option linter.unusedVariables false
set_option maxRecDepth 10000
set_option maxHeartbeats 2000000
theorem totO_app (a b : List OI) : totO (a ++ b) = totO a + totO b := by simp [totO]
end Go.Proofs.Ytgegddefcgfhgaa.Sx
namespace Go.Proofs.Ytgegddefcgfhgaa.Sx
open Go
set_option linter.unusedSimpArgs false
set_option linter.unusedVariables false
set_option maxRecDepth 10000
set_option maxHeartbeats 4000000
theorem ceil_pcs' (n : Nat) : (if ((((n + 254) / 255 : Nat) : Int)) > (1 : Int) then ((((n + 254) / 255 : Nat) : Int)) else (1 : Int)) = (pcs n : Nat) := by
  unfold pcs
  split <;> omega
theorem min_int (n : Nat) : (if (255 : Int) < (n : Int) then (255 : Int) else (n : Int)) = ((min 255 n : Nat) : Int) := by split <;> omega
theorem size_spec (k : Int) (d sp : List UInt8) (c : Nat) (hd : d.length ≤ 140737488355328) : Spec cx.P 41 [.agg [i64 k, roB d sp c]] [] fun s _ => s.plain = true ∧ s = .c (i64 (d.length + 2 * pcs d.length : Nat)) := by
  have e4 : IntKind.i64.wrap ((d.length : Int) + 255) = ((d.length + 255 : Nat) : Int) := by rw [w64] <;> omega
  have e5 : IntKind.i64.wrap (((d.length + 255 : Nat) : Int) - 1) = ((d.length + 254 : Nat) : Int) := by rw [w64] <;> omega
  have e6 : IntKind.i64.wrap ((((d.length + 254 : Nat) : Int)).tdiv 255) = (((d.length + 254) / 255 : Nat) : Int) := by rw [show (((d.length + 254 : Nat) : Int)).tdiv 255 = (((d.length + 254) / 255 : Nat) : Int) from rfl, w64] <;> omega
  have hp := pcs_bound d.length
  have e7 : IntKind.i64.wrap (2 * (pcs d.length : Int)) = ((2 * pcs d.length : Nat) : Int) := by rw [w64] <;> omega
  have e8 : IntKind.i64.wrap (((2 * pcs d.length : Nat) : Int) + (d.length : Int)) = ((d.length + 2 * pcs d.length : Nat) : Int) := by rw [w64] <;> omega
  refine spec_of_X cx_ok Try.func41 rfl (by kernel_rfl) (by kernel_rfl) (Nat.le_of_ble_eq_true rfl) 400 4 ?_
  simp (maxSteps := 4000000) only [Try.results41, XX, Nat.reduceBEq, Nat.reduceLT, Nat.reduceAdd, Nat.reduceMul, Nat.reduceSub, Nat.reduceLeDiff, Nat.reduceEqDiff, Int.reduceToNat, Int.reduceLT, Int.reduceLE, Int.reduceAdd, Int.reduceSub, Int.reduceEq, reduceIte, Nat.reduceBNe, Int.reducePow, Nat.reducePow, Int.reduceMul, Int.reduceNeg, isB_i, isB_b, isB_y, isBv_i, isBv_b, eqCells_t, TT]
  simp (maxSteps := 4000000) only [Try.results41, e4, e5, e6, ceil_pcs', e7, e8, XX, Nat.reduceBEq, Nat.reduceLT, Nat.reduceAdd, Nat.reduceMul, Nat.reduceSub, Nat.reduceLeDiff, Nat.reduceEqDiff, Int.reduceToNat, Int.reduceLT, Int.reduceLE, Int.reduceAdd, Int.reduceSub, Int.reduceEq, reduceIte, Nat.reduceBNe, Int.reducePow, Nat.reducePow, Int.reduceMul, Int.reduceNeg, isB_i, isB_b, isB_y, isBv_i, isBv_b, eqCells_t, TT]
theorem rpack_big (xs sp : List OI) (c : Nat) (hok : ∀ x ∈ xs, x.ok) (room : Int) (hT : totO xs ≤ 8589934592 ∨ (totO xs ≤ 281474976776192 ∧ room ≤ 8589934592)) : Spec cx.P 13 [.c (roO xs sp c), .c (i64 room)] [] (resB (packF xs room).1 (packF xs room).2) := by
  have hn := totO_len xs
  have hsz := szO_le xs
  refine resBN_of ?_
  refine spec_of_X cx_ok Try.func13 rfl (by kernel_rfl) (by kernel_rfl) (Nat.le_of_ble_eq_true rfl) 400 15 ?_
  simp (maxSteps := 4000000) only [Try.results13, XX, Nat.reduceBEq, Nat.reduceLT, Nat.reduceAdd, Nat.reduceMul, Nat.reduceSub, Nat.reduceLeDiff, Nat.reduceEqDiff, Int.reduceToNat, Int.reduceLT, Int.reduceLE, Int.reduceAdd, Int.reduceSub, Int.reduceEq, reduceIte, Nat.reduceBNe, Int.reducePow, Nat.reducePow, Int.reduceMul, Int.reduceNeg, isB_i, isB_b, isB_y, isBv_i, isBv_b, eqCells_t, TT]
  rw [rep_flat, seenC_zero]
  refine loop_any cx_ok 400 (fun μ σ => ∃ i : Nat, μ = xs.length - i ∧ i ≤ xs.length ∧ (∀ (j : Nat) (x : OI), j < i → xs[j]? = some x → ¬ BadAt xs j x) ∧
      σ = ⟨⟨15, 0⟩, [(0, .c (roO xs sp c)), (1, .c (i64 room)), (6, .c (.sl 0 0 255 255)), (7, .c (i64 i))], [⟨true, 4, seenC (seenF (xs.take i))⟩]⟩) xs.length
    ⟨⟨15, 0⟩, [(0, .c (roO xs sp c)), (1, .c (i64 room)), (6, .c (.sl 0 0 255 255)), (7, .c (i64 (0 : Nat)))], [⟨true, 4, seenC (seenF (xs.take 0))⟩]⟩ ⟨0, rfl, Nat.zero_le _, fun j x h => absurd h (by omega), rfl⟩ (.inl ⟨rfl, rfl, rfl, rfl, rfl, rfl, trivial⟩) ?_
  rintro μ σ ⟨i, rfl, hi, hnb, rfl⟩
  by_cases hlt : i < xs.length
  · have hd : decide ((i : Int) < (xs.length : Int)) = true := by simp only [decide_eq_true_eq]; omega
    have e3 : IntKind.i64.wrap ((i : Int) + 1) = ((i + 1 : Nat) : Int) := by rw [w64] <;> omega
    obtain ⟨x, hx⟩ : ∃ x, xs[i]? = some x := ⟨_, List.getElem?_eq_getElem hlt⟩
    obtain ⟨R, hR⟩ := osR_at (sp := sp) hx
    obtain ⟨ox1, ox2, ox3⟩ := hok x (List.mem_of_getElem? hx)
    by_cases k1 : x.k < 1
    · have d1 : decide (x.k < 1) = true := by simpa using k1
      have hg : (seenC (seenF (xs.take i))).getD x.k.toNat .any = bC (seenF (xs.take i) 0) := by
        rw [show x.k.toNat = 0 by omega]; exact seenC_at _ (by omega)
      rw [packF_bad (room := room) ⟨i, x, hx, .inl (by omega)⟩]
      simp (maxSteps := 4000000) only [Try.results13, hd, hR, d1, hg, XX, Nat.reduceBEq, Nat.reduceLT, Nat.reduceAdd, Nat.reduceMul, Nat.reduceSub, Nat.reduceLeDiff, Nat.reduceEqDiff, Int.reduceToNat, Int.reduceLT, Int.reduceLE, Int.reduceAdd, Int.reduceSub, Int.reduceEq, reduceIte, Nat.reduceBNe, Int.reducePow, Nat.reducePow, Int.reduceMul, Int.reduceNeg, isB_i, isB_b, isB_y, isBv_i, isBv_b, eqCells_t, TT]
      exact ⟨by omega, by omega⟩
    have d1 : decide (x.k < 1) = false := by simpa using k1
    by_cases k2 : 255 ≤ x.k
    · have d2 : decide ((255 : Int) ≤ x.k) = true := by simpa using k2
      have hg : (seenC (seenF (xs.take i))).getD x.k.toNat .any = SC.any := by
        rw [List.getD_eq_getElem?_getD, List.getElem?_eq_none (by rw [seenC_len]; omega)]; rfl
      rw [packF_bad (room := room) ⟨i, x, hx, .inr (.inl k2)⟩]
      simp (maxSteps := 4000000) only [Try.results13, hd, hR, d1, d2, hg, pickE_any, XX, Nat.reduceBEq, Nat.reduceLT, Nat.reduceAdd, Nat.reduceMul, Nat.reduceSub, Nat.reduceLeDiff, Nat.reduceEqDiff, Int.reduceToNat, Int.reduceLT, Int.reduceLE, Int.reduceAdd, Int.reduceSub, Int.reduceEq, reduceIte, Nat.reduceBNe, Int.reducePow, Nat.reducePow, Int.reduceMul, Int.reduceNeg, isB_i, isB_b, isB_y, isBv_i, isBv_b, eqCells_t, TT]
      exact ⟨by omega, by omega⟩
    have d2 : decide ((255 : Int) ≤ x.k) = false := by simpa using k2
    obtain ⟨m, hm⟩ : ∃ m : Nat, x.k = m := ⟨x.k.toNat, by omega⟩
    have hm2 : m < 255 := by omega
    have hg := seenC_at (seenF (xs.take i)) hm2
    rw [hm] at hR d1 d2
    by_cases k3 : seenF (xs.take i) m = true
    · rw [k3] at hg
      rw [packF_bad (room := room) ⟨i, x, hx, .inr (.inr ((seenF_iff hm).1 k3))⟩]
      simp (maxSteps := 4000000) only [Try.results13, hd, hR, d1, d2, hg, seenC_len, hm2, XX, Nat.reduceBEq, Nat.reduceLT, Nat.reduceAdd, Nat.reduceMul, Nat.reduceSub, Nat.reduceLeDiff, Nat.reduceEqDiff, Int.reduceToNat, Int.reduceLT, Int.reduceLE, Int.reduceAdd, Int.reduceSub, Int.reduceEq, reduceIte, Nat.reduceBNe, Int.reducePow, Nat.reducePow, Int.reduceMul, Int.reduceNeg, isB_i, isB_b, isB_y, isBv_i, isBv_b, eqCells_t, TT]
      exact ⟨by omega, by omega, by omega⟩
    have k3' : seenF (xs.take i) m = false := by simpa using k3
    rw [k3'] at hg
    simp (maxSteps := 4000000) only [Try.results13, hd, hR, d1, d2, hg, seenC_len, hm2, e3, XX, Nat.reduceBEq, Nat.reduceLT, Nat.reduceAdd, Nat.reduceMul, Nat.reduceSub, Nat.reduceLeDiff, Nat.reduceEqDiff, Int.reduceToNat, Int.reduceLT, Int.reduceLE, Int.reduceAdd, Int.reduceSub, Int.reduceEq, reduceIte, Nat.reduceBNe, Int.reducePow, Nat.reducePow, Int.reduceMul, Int.reduceNeg, isB_i, isB_b, isB_y, isBv_i, isBv_b, eqCells_t, TT]
    have hs := seenC_set (xs.take i) hm hm2
    rw [← take_nextO hx] at hs
    rw [hs]
    refine ⟨by omega, by omega, by omega, by omega, by omega, xs.length - (i + 1), by omega, _, ⟨i + 1, rfl, by omega, fun j y hj hy => ?_, rfl⟩, .inl ⟨rfl, rfl, rfl, rfl, rfl, rfl, trivial⟩⟩
    by_cases hji : j < i
    · exact hnb j y hji hy
    · obtain rfl : j = i := by omega
      rw [hx] at hy
      cases hy
      rintro (h | h | h)
      · omega
      · exact k2 h
      · exact k3 ((seenF_iff hm).2 h)
  obtain rfl : i = xs.length := by omega
  have hd : decide ((xs.length : Int) < (xs.length : Int)) = false := by simp
  rw [List.take_length]
  have hbad : ¬ Bad xs := fun ⟨j, x, hx, hb⟩ => hnb j x (List.getElem?_eq_some_iff.1 hx).1 hx hb
  by_cases q1 : 64 < xs.length
  · have d1 : decide ((64 : Int) < (xs.length : Int)) = true := by simp only [decide_eq_true_eq]; omega
    rw [packF_many hbad q1]
    simp (maxSteps := 4000000) only [Try.results13, hd, d1, XX, Nat.reduceBEq, Nat.reduceLT, Nat.reduceAdd, Nat.reduceMul, Nat.reduceSub, Nat.reduceLeDiff, Nat.reduceEqDiff, Int.reduceToNat, Int.reduceLT, Int.reduceLE, Int.reduceAdd, Int.reduceSub, Int.reduceEq, reduceIte, Nat.reduceBNe, Int.reducePow, Nat.reducePow, Int.reduceMul, Int.reduceNeg, isB_i, isB_b, isB_y, isBv_i, isBv_b, eqCells_t, TT]
  have d1 : decide ((64 : Int) < (xs.length : Int)) = false := by simp only [decide_eq_false_iff_not]; omega
  simp (maxSteps := 4000000) only [Try.results13, hd, d1, XX, Nat.reduceBEq, Nat.reduceLT, Nat.reduceAdd, Nat.reduceMul, Nat.reduceSub, Nat.reduceLeDiff, Nat.reduceEqDiff, Int.reduceToNat, Int.reduceLT, Int.reduceLE, Int.reduceAdd, Int.reduceSub, Int.reduceEq, reduceIte, Nat.reduceBNe, Int.reducePow, Nat.reducePow, Int.reduceMul, Int.reduceNeg, isB_i, isB_b, isB_y, isBv_i, isBv_b, eqCells_t, TT]
  clear hnb hi hlt
  refine loop_any cx_ok 400 (fun μ σ => ∃ i : Nat, μ = xs.length - i ∧ i ≤ xs.length ∧
      σ = ⟨⟨15, 0⟩, [(0, .c (roO xs sp c)), (1, .c (i64 room)), (9, .c (i64 (1 + szO (xs.take i) : Nat))), (10, .c (i64 i))], []⟩) xs.length
    ⟨⟨15, 0⟩, [(0, .c (roO xs sp c)), (1, .c (i64 room)), (9, .c (i64 (1 + szO (xs.take 0) : Nat))), (10, .c (i64 (0 : Nat)))], []⟩ ⟨0, rfl, Nat.zero_le _, rfl⟩ (.inr ⟨[], rfl, rfl, trivial, ⟨.inl ⟨rfl, rfl⟩, .inl ⟨rfl, rfl⟩, .inl ⟨rfl, rfl⟩, .inl ⟨rfl, rfl⟩, trivial⟩⟩) ?_
  rintro μ σ ⟨i, rfl, hi, rfl⟩
  by_cases hlt : i < xs.length
  · have hd : decide ((i : Int) < (xs.length : Int)) = true := by simp only [decide_eq_true_eq]; omega
    have e3 : IntKind.i64.wrap ((i : Int) + 1) = ((i + 1 : Nat) : Int) := by rw [w64] <;> omega
    obtain ⟨x, hx⟩ : ∃ x, xs[i]? = some x := ⟨_, List.getElem?_eq_getElem hlt⟩
    obtain ⟨R, hR⟩ := osR_at (sp := sp) hx
    obtain ⟨ox1, ox2, ox3⟩ := hok x (List.mem_of_getElem? hx)
    have hxt := mem_tot (List.mem_of_getElem? hx)
    have hp := pcs_bound x.d.length
    have hle := szO_take_le xs i
    have e9 : IntKind.i64.wrap (((1 + szO (xs.take i) : Nat) : Int) + ((x.d.length + 2 * pcs x.d.length : Nat) : Int)) = ((1 + szO (xs.take (i + 1)) : Nat) : Int) := by rw [szO_next hx, w64] <;> omega
    simp (maxSteps := 4000000) only [Try.results13, hd, hR, XX, Nat.reduceBEq, Nat.reduceLT, Nat.reduceAdd, Nat.reduceMul, Nat.reduceSub, Nat.reduceLeDiff, Nat.reduceEqDiff, Int.reduceToNat, Int.reduceLT, Int.reduceLE, Int.reduceAdd, Int.reduceSub, Int.reduceEq, reduceIte, Nat.reduceBNe, Int.reducePow, Nat.reducePow, Int.reduceMul, Int.reduceNeg, isB_i, isB_b, isB_y, isBv_i, isBv_b, eqCells_t, TT]
    refine ⟨by omega, ?_⟩
    refine call_pureF [.agg [i64 x.k, roB x.d x.sp x.c]] (size_spec x.k x.d x.sp x.c (by omega)) ⟨.inl ⟨rfl, rfl⟩, trivial⟩ ?_
    rintro _ rfl
    simp (maxSteps := 4000000) only [Try.results13, e3, e9, XX, Nat.reduceBEq, Nat.reduceLT, Nat.reduceAdd, Nat.reduceMul, Nat.reduceSub, Nat.reduceLeDiff, Nat.reduceEqDiff, Int.reduceToNat, Int.reduceLT, Int.reduceLE, Int.reduceAdd, Int.reduceSub, Int.reduceEq, reduceIte, Nat.reduceBNe, Int.reducePow, Nat.reducePow, Int.reduceMul, Int.reduceNeg, isB_i, isB_b, isB_y, isBv_i, isBv_b, eqCells_t, TT]
    exact ⟨xs.length - (i + 1), by omega, _, ⟨i + 1, rfl, by omega, rfl⟩, .inl ⟨rfl, rfl, rfl, rfl, rfl, rfl, trivial⟩⟩
  obtain rfl : i = xs.length := by omega
  have hd : decide ((xs.length : Int) < (xs.length : Int)) = false := by simp
  rw [List.take_length]
  by_cases q2 : room < 1 + (szO xs : Int)
  · have d2 : decide (room < ((1 + szO xs : Nat) : Int)) = true := by simp only [decide_eq_true_eq]; omega
    rw [packF_long hbad q1 q2]
    simp (maxSteps := 4000000) only [Try.results13, hd, d2, XX, Nat.reduceBEq, Nat.reduceLT, Nat.reduceAdd, Nat.reduceMul, Nat.reduceSub, Nat.reduceLeDiff, Nat.reduceEqDiff, Int.reduceToNat, Int.reduceLT, Int.reduceLE, Int.reduceAdd, Int.reduceSub, Int.reduceEq, reduceIte, Nat.reduceBNe, Int.reducePow, Nat.reducePow, Int.reduceMul, Int.reduceNeg, isB_i, isB_b, isB_y, isBv_i, isBv_b, eqCells_t, TT]
  have d2 : decide (room < ((1 + szO xs : Nat) : Int)) = false := by simp only [decide_eq_false_iff_not]; omega
  rw [packF_ok hbad q1 q2]
  simp (maxSteps := 4000000) only [Try.results13, hd, d2, XX, Nat.reduceBEq, Nat.reduceLT, Nat.reduceAdd, Nat.reduceMul, Nat.reduceSub, Nat.reduceLeDiff, Nat.reduceEqDiff, Int.reduceToNat, Int.reduceLT, Int.reduceLE, Int.reduceAdd, Int.reduceSub, Int.reduceEq, reduceIte, Nat.reduceBNe, Int.reducePow, Nat.reducePow, Int.reduceMul, Int.reduceNeg, isB_i, isB_b, isB_y, isBv_i, isBv_b, eqCells_t, TT]
  clear hi hlt hd d2 d1
  refine loop_any cx_ok 400 (fun μ σ => ∃ (i : Nat) (H : List SB) (w : Nat) (o : Bool) (z : List UInt8), μ = xs.length - i ∧ i ≤ xs.length ∧ Buf H w o (encAll (xs.take i)) z ∧
      σ = ⟨⟨15, 0⟩, [(0, .c (roO xs sp c)), (11, .c (slB w (encAll (xs.take i)) z)), (12, .c (i64 i))], H⟩) xs.length
    ⟨⟨15, 0⟩, [(0, .c (roO xs sp c)), (11, .c (.sl 0 0 0 0)), (12, .c (i64 (0 : Nat)))], [wB false []]⟩ ⟨0, [wB false []], 0, false, [], rfl, Nat.zero_le _, ⟨by rw [List.take_zero]; rfl, fun h => absurd h (by rw [List.take_zero]; simp [encAll])⟩, by rw [List.take_zero]; rfl⟩
    (.inr ⟨[none], rfl, rfl, by simp only [XX, Nat.reduceBEq, Nat.reduceLT, Nat.reduceAdd, Nat.reduceMul, Nat.reduceSub, Nat.reduceLeDiff, Nat.reduceEqDiff, Int.reduceToNat, Int.reduceLT, Int.reduceLE, Int.reduceAdd, Int.reduceSub, Int.reduceEq, reduceIte, Nat.reduceBNe, Int.reducePow, Nat.reducePow, Int.reduceMul, Int.reduceNeg, isB_i, isB_b, isB_y, isBv_i, isBv_b, eqCells_t, TT, List.map_nil], ⟨.inl ⟨rfl, rfl⟩, wk_nil, .inl ⟨rfl, rfl⟩, trivial⟩⟩) ?_
  rintro μ σ ⟨i, H, w, o, z, rfl, hi, B, rfl⟩
  by_cases hlt : i < xs.length
  · have hd : decide ((i : Int) < (xs.length : Int)) = true := by simp only [decide_eq_true_eq]; omega
    have e3 : IntKind.i64.wrap ((i : Int) + 1) = ((i + 1 : Nat) : Int) := by rw [w64] <;> omega
    obtain ⟨x, hx⟩ : ∃ x, xs[i]? = some x := ⟨_, List.getElem?_eq_getElem hlt⟩
    obtain ⟨R, hR⟩ := osR_at (sp := sp) hx
    obtain ⟨ox1, ox2, ox3⟩ := hok x (List.mem_of_getElem? hx)
    have hsl := szO_take_le xs (i + 1)
    rw [szO_next hx] at hsl
    have hel : (encAll (xs.take i)).length = szO (xs.take i) := encAll_len _
    obtain ⟨pre, hpre⟩ : ∃ pre, pre = encAll (xs.take i) := ⟨_, rfl⟩
    rw [← hpre] at hel B ⊢
    simp (maxSteps := 4000000) only [Try.results13, hd, hR, XX, Nat.reduceBEq, Nat.reduceLT, Nat.reduceAdd, Nat.reduceMul, Nat.reduceSub, Nat.reduceLeDiff, Nat.reduceEqDiff, Int.reduceToNat, Int.reduceLT, Int.reduceLE, Int.reduceAdd, Int.reduceSub, Int.reduceEq, reduceIte, Nat.reduceBNe, Int.reducePow, Nat.reducePow, Int.reduceMul, Int.reduceNeg, isB_i, isB_b, isB_y, isBv_i, isBv_b, eqCells_t, TT]
    refine ⟨by omega, by omega, ?_⟩
    refine loop_any cx_ok 400 (fun μ σ => ∃ (j : Nat) (H : List SB) (w : Nat) (o : Bool) (z : List UInt8), μ = pcs x.d.length - j ∧ (255 * j < x.d.length ∨ j = 0) ∧ Buf H w o (pre ++ encN (UInt8.ofInt x.k) x.d j) z ∧
        σ = ⟨⟨15, 0⟩, [(0, .c (roO xs sp c)), (11, .c (slB w (pre ++ encN (UInt8.ofInt x.k) x.d j) z)), (12, .c (i64 i)), (13, .c (boxC x.d x.sp x.c j))], H⟩) (pcs x.d.length)
      ⟨⟨15, 0⟩, [(0, .c (roO xs sp c)), (11, .c (slB w (pre ++ encN (UInt8.ofInt x.k) x.d 0) z)), (12, .c (i64 i)), (13, .c (boxC x.d x.sp x.c 0))], H⟩ ⟨0, H, w, o, z, rfl, .inr rfl, by rw [show encN (UInt8.ofInt x.k) x.d 0 = [] from rfl, List.append_nil]; exact B, rfl⟩
      (.inl ⟨rfl, rfl, rfl, by rw [show encN (UInt8.ofInt x.k) x.d 0 = [] from rfl, List.append_nil]; rfl, rfl, rfl, trivial⟩) ?_
    clear B
    rintro μ σ ⟨j, H, w, o, z, rfl, hj, B, rfl⟩
    have hjp := pcs_le hj
    have hen := encN_len (UInt8.ofInt x.k) x.d j
    have hen2 := encN_len (UInt8.ofInt x.k) x.d (j + 1)
    have hen3 := encN_len (UInt8.ofInt x.k) x.d (pcs x.d.length)
    have hpf := pcs_full x.d.length
    obtain ⟨q, hq⟩ : ∃ q, q = pre ++ encN (UInt8.ofInt x.k) x.d j := ⟨_, rfl⟩
    rw [← hq] at B ⊢
    have hql : q.length = pre.length + (encN (UInt8.ofInt x.k) x.d j).length := by rw [hq, List.length_append]
    obtain ⟨m, hm⟩ : ∃ m, m = min 255 (x.d.length - 255 * j) := ⟨_, rfl⟩
    have r2 : List.replicate 2 (SC.v (.int .u8 0)) = [SC.v (.int .u8 0), SC.v (.int .u8 0)] := rfl
    have e0 : (bsR (x.d.drop (255 * j) ++ x.sp)).take m = bsR (pieceL x.d j) := by
      rw [rs_take, hm]; unfold pieceL
      congr 1
      rw [List.take_append_of_le_length (by simp; omega)]
      rw [List.take_eq_take_iff]; simp
    have hpl : (pieceL x.d j).length = m := by rw [pieceL_len, hm]
    unfold boxC
    simp (maxSteps := 4000000) only [Try.results13, hR, min_int, ← hm, byteC_of, u8_ofInt_nat, r2, B.at_, lt_of B.at_, List.append_assoc, List.getElem?_append_left, List.getElem?_append_right, List.length_append, List.length_set, List.set_append_left, gset, List.getElem?_set_ne, Nat.add_sub_cancel_left, Nat.sub_self, Nat.le_refl, Nat.le_add_right, List.replicate_one, List.flatten_cons, List.flatten_nil, rep_flat, XX, Nat.reduceBEq, Nat.reduceLT, Nat.reduceAdd, Nat.reduceMul, Nat.reduceSub, Nat.reduceLeDiff, Nat.reduceEqDiff, Int.reduceToNat, Int.reduceLT, Int.reduceLE, Int.reduceAdd, Int.reduceSub, Int.reduceEq, reduceIte, Nat.reduceBNe, Int.reducePow, Nat.reducePow, Int.reduceMul, Int.reduceNeg, isB_i, isB_b, isB_y, isBv_i, isBv_b, eqCells_t, TT]
    refine ⟨by omega, by omega, ⟨by omega, by unfold maxLen; omega, by simp, fun h => ⟨B.own (by omega), by simp; omega⟩⟩, ?_⟩
    refine xapp_more (news := [UInt8.ofInt x.k, UInt8.ofNat m]) (t := [⟨true, 5, [byteC (UInt8.ofInt x.k), byteC (UInt8.ofNat m)]⟩]) B rfl rfl rfl rfl (by omega) fun H1 w1 z1 B1 h1 h2 h3 => ?_
    obtain ⟨q2, hq2⟩ : ∃ q2, q2 = q ++ [UInt8.ofInt x.k, UInt8.ofNat m] := ⟨_, rfl⟩
    have hq2l : q2.length = q.length + 2 := by rw [hq2]; simp
    rw [← hq2] at B1 ⊢
    simp (maxSteps := 4000000) only [Try.results13, hR, e0, bsR_toSC, bsC_len, hpl, B1.at_, lt_of B1.at_, List.append_assoc, List.getElem?_append_left, List.getElem?_append_right, List.length_append, List.length_set, List.set_append_left, gset, List.getElem?_set_ne, Nat.add_sub_cancel_left, Nat.sub_self, Nat.le_refl, Nat.le_add_right, List.replicate_one, List.flatten_cons, List.flatten_nil, rep_flat, XX, Nat.reduceBEq, Nat.reduceLT, Nat.reduceAdd, Nat.reduceMul, Nat.reduceSub, Nat.reduceLeDiff, Nat.reduceEqDiff, Int.reduceToNat, Int.reduceLT, Int.reduceLE, Int.reduceAdd, Int.reduceSub, Int.reduceEq, reduceIte, Nat.reduceBNe, Int.reducePow, Nat.reducePow, Int.reduceMul, Int.reduceNeg, isB_i, isB_b, isB_y, isBv_i, isBv_b, eqCells_t, TT]
    refine ⟨by omega, ⟨⟨by omega, by unfold maxLen; omega⟩, by simp; omega⟩, xapp_more0 (news := pieceL x.d j) B1 rfl hpl rfl rfl (by omega) fun H2 w2 z2 B2 g1 g2 g3 => ?_⟩
    have hq3 : q2 ++ pieceL x.d j = pre ++ encN (UInt8.ofInt x.k) x.d (j + 1) := by
      rw [hq2, hq, encN, ← hm]; simp
    rw [hq3] at B2 ⊢
    by_cases hgt : 255 < x.d.length - 255 * j
    · have hm5 : m = 255 := by omega
      subst hm5
      have d0 : decide (((x.d.length - 255 * j - 255 : Nat) : Int) = 0) = false := by simp only [decide_eq_false_iff_not]; omega
      simp (maxSteps := 4000000) only [Try.results13, d0, XX, Nat.reduceBEq, Nat.reduceLT, Nat.reduceAdd, Nat.reduceMul, Nat.reduceSub, Nat.reduceLeDiff, Nat.reduceEqDiff, Int.reduceToNat, Int.reduceLT, Int.reduceLE, Int.reduceAdd, Int.reduceSub, Int.reduceEq, reduceIte, Nat.reduceBNe, Int.reducePow, Nat.reducePow, Int.reduceMul, Int.reduceNeg, isB_i, isB_b, isB_y, isBv_i, isBv_b, eqCells_t, TT]
      refine ⟨by omega, pcs x.d.length - (j + 1), by omega, _, ⟨j + 1, H2, w2, true, z2, rfl, .inl (by omega), B2, rfl⟩, .inl ⟨rfl, rfl, rfl, rfl, rfl, ?_, trivial⟩⟩
      have := boxC_next (sp := x.sp) (c := x.c) hgt
      unfold boxC at this
      rw [this]
      rfl
    · have hm5 : m = x.d.length - 255 * j := by omega
      have hjn : j + 1 = pcs x.d.length := by unfold pcs; rcases hj with h | h <;> omega
      have hpx : pre ++ encN (UInt8.ofInt x.k) x.d (j + 1) = encAll (xs.take (i + 1)) := by rw [hjn, hpre, encAll_next hx]; rfl
      rw [hpx] at B2 ⊢
      have d0 : decide (((x.d.length - 255 * j - m : Nat) : Int) = 0) = true := by simp only [decide_eq_true_eq]; omega
      simp (maxSteps := 4000000) only [Try.results13, d0, e3, XX, Nat.reduceBEq, Nat.reduceLT, Nat.reduceAdd, Nat.reduceMul, Nat.reduceSub, Nat.reduceLeDiff, Nat.reduceEqDiff, Int.reduceToNat, Int.reduceLT, Int.reduceLE, Int.reduceAdd, Int.reduceSub, Int.reduceEq, reduceIte, Nat.reduceBNe, Int.reducePow, Nat.reducePow, Int.reduceMul, Int.reduceNeg, isB_i, isB_b, isB_y, isBv_i, isBv_b, eqCells_t, TT]
      exact ⟨by omega, xs.length - (i + 1), by omega, _, ⟨i + 1, H2, w2, true, z2, rfl, by omega, B2, rfl⟩, .inl ⟨rfl, rfl, rfl, rfl, rfl, trivial⟩⟩
  obtain rfl : i = xs.length := by omega
  have hd : decide ((xs.length : Int) < (xs.length : Int)) = false := by simp
  rw [List.take_length] at B ⊢
  have hel := encAll_len xs
  have r1 : List.replicate 1 (SC.v (.int .u8 0)) = [SC.v (.int .u8 0)] := rfl
  have b255 : SC.v (.int .u8 255) = byteC 255 := rfl
  simp (maxSteps := 4000000) only [Try.results13, hd, r1, b255, B.at_, lt_of B.at_, List.append_assoc, List.getElem?_append_left, List.getElem?_append_right, List.length_append, List.length_set, List.set_append_left, gset, List.getElem?_set_ne, Nat.add_sub_cancel_left, Nat.sub_self, Nat.le_refl, Nat.le_add_right, List.replicate_one, List.flatten_cons, List.flatten_nil, rep_flat, XX, Nat.reduceBEq, Nat.reduceLT, Nat.reduceAdd, Nat.reduceMul, Nat.reduceSub, Nat.reduceLeDiff, Nat.reduceEqDiff, Int.reduceToNat, Int.reduceLT, Int.reduceLE, Int.reduceAdd, Int.reduceSub, Int.reduceEq, reduceIte, Nat.reduceBNe, Int.reducePow, Nat.reducePow, Int.reduceMul, Int.reduceNeg, isB_i, isB_b, isB_y, isBv_i, isBv_b, eqCells_t, TT]
  refine ⟨⟨by omega, by unfold maxLen; omega, by simp, fun h => ⟨B.own (by omega), by simp; omega⟩⟩, xapp_one (t := [⟨true, 5, [byteC 255]⟩]) B rfl rfl rfl fun H1 w1 z1 B1 h1 h2 h3 => ?_⟩
  simp (maxSteps := 4000000) only [Try.results13, XX, Nat.reduceBEq, Nat.reduceLT, Nat.reduceAdd, Nat.reduceMul, Nat.reduceSub, Nat.reduceLeDiff, Nat.reduceEqDiff, Int.reduceToNat, Int.reduceLT, Int.reduceLE, Int.reduceAdd, Int.reduceSub, Int.reduceEq, reduceIte, Nat.reduceBNe, Int.reducePow, Nat.reducePow, Int.reduceMul, Int.reduceNeg, isB_i, isB_b, isB_y, isBv_i, isBv_b, eqCells_t, TT]
  exact .inl ⟨w1, z1, true, by simp only [slB, List.length_append], B1⟩
end Go.Proofs.Ytgegddefcgfhgaa.Sx
namespace Go.Proofs.Ytgegddefcgfhgaa.Sx
open Go
set_option linter.unusedSimpArgs false
set_option linter.unusedVariables false
set_option maxRecDepth 10000
set_option maxHeartbeats 2000000
theorem rzero_spec (l : List UInt8) (hl : l.length ≤ 140737488355328) : Spec cx.P 81 [.c (strB l)] [] fun s _ => s.plain = true ∧ s = .c (bC (decide ((0 : UInt8) ∈ l))) := by
  refine spec_of_X cx_ok Try.func81 rfl (by kernel_rfl) (by kernel_rfl) (Nat.le_of_ble_eq_true rfl) 400 4 ?_
  simp (maxSteps := 4000000) only [Try.results81, XX, Nat.reduceBEq, Nat.reduceLT, Nat.reduceAdd, Nat.reduceMul, Nat.reduceSub, Nat.reduceLeDiff, Nat.reduceEqDiff, Int.reduceToNat, Int.reduceLT, Int.reduceLE, Int.reduceAdd, Int.reduceSub, Int.reduceEq, reduceIte, Nat.reduceBNe, Int.reducePow, Nat.reducePow, Int.reduceMul, Int.reduceNeg, isB_i, isB_b, isB_y, isBv_i, isBv_b, eqCells_t, TT]
  refine loop_any cx_ok 400 (fun μ σ => ∃ i : Nat, μ = l.length - i ∧ i ≤ l.length ∧ (0 : UInt8) ∉ l.take i ∧ σ = ⟨⟨4, 0⟩, [(0, .c (strB l)), (3, .c (i64 i))], []⟩) l.length
    ⟨⟨4, 0⟩, [(0, .c (strB l)), (3, .c (i64 (0 : Nat)))], []⟩ ⟨0, rfl, Nat.zero_le _, by simp, rfl⟩ (.inl ⟨rfl, rfl, rfl, rfl, trivial⟩) ?_
  rintro μ σ ⟨i, rfl, hi, hz, rfl⟩
  by_cases hlt : i < l.length
  · have hd : decide ((i : Int) < (l.length : Int)) = true := by simp only [decide_eq_true_eq]; omega
    obtain ⟨x, hx⟩ : ∃ x, l[i]? = some x := ⟨_, List.getElem?_eq_getElem hlt⟩
    have e3 : IntKind.i64.wrap ((i : Int) + 1) = ((i + 1 : Nat) : Int) := by rw [w64] <;> omega
    have hg : l.getD i 0 = x := by rw [List.getD_eq_getElem?_getD, hx]; rfl
    have ht : l.take (i + 1) = l.take i ++ [x] := by rw [List.take_add_one, hx]; rfl
    by_cases hx0 : x = 0
    · subst hx0
      have d0 : decide (((0 : UInt8).toNat : Int) = 0) = true := rfl
      rw [decide_eq_true (List.mem_of_getElem? hx)]
      simp (maxSteps := 4000000) only [Try.results81, hd, str_size, hg, byteC, d0, XX, Nat.reduceBEq, Nat.reduceLT, Nat.reduceAdd, Nat.reduceMul, Nat.reduceSub, Nat.reduceLeDiff, Nat.reduceEqDiff, Int.reduceToNat, Int.reduceLT, Int.reduceLE, Int.reduceAdd, Int.reduceSub, Int.reduceEq, reduceIte, Nat.reduceBNe, Int.reducePow, Nat.reducePow, Int.reduceMul, Int.reduceNeg, isB_i, isB_b, isB_y, isBv_i, isBv_b, eqCells_t, TT]
      omega
    · have d0 : decide ((x.toNat : Int) = 0) = false := by
        simp only [decide_eq_false_iff_not]; intro h; exact hx0 (UInt8.toNat_inj.1 (by show x.toNat = 0; omega))
      simp (maxSteps := 4000000) only [Try.results81, hd, str_size, hg, byteC, d0, e3, XX, Nat.reduceBEq, Nat.reduceLT, Nat.reduceAdd, Nat.reduceMul, Nat.reduceSub, Nat.reduceLeDiff, Nat.reduceEqDiff, Int.reduceToNat, Int.reduceLT, Int.reduceLE, Int.reduceAdd, Int.reduceSub, Int.reduceEq, reduceIte, Nat.reduceBNe, Int.reducePow, Nat.reducePow, Int.reduceMul, Int.reduceNeg, isB_i, isB_b, isB_y, isBv_i, isBv_b, eqCells_t, TT]
      exact ⟨by omega, l.length - (i + 1), by omega, _, ⟨i + 1, rfl, by omega, by rw [ht]; simp only [List.mem_append, List.mem_singleton, not_or]; exact ⟨hz, fun e => hx0 e.symm⟩, rfl⟩, .inl ⟨rfl, rfl, rfl, rfl, trivial⟩⟩
  · obtain rfl : i = l.length := by omega
    have hd : decide ((l.length : Int) < (l.length : Int)) = false := by simp
    rw [List.take_length] at hz
    rw [decide_eq_false hz]
    simp (maxSteps := 4000000) only [Try.results81, hd, str_size, XX, Nat.reduceBEq, Nat.reduceLT, Nat.reduceAdd, Nat.reduceMul, Nat.reduceSub, Nat.reduceLeDiff, Nat.reduceEqDiff, Int.reduceToNat, Int.reduceLT, Int.reduceLE, Int.reduceAdd, Int.reduceSub, Int.reduceEq, reduceIte, Nat.reduceBNe, Int.reducePow, Nat.reducePow, Int.reduceMul, Int.reduceNeg, isB_i, isB_b, isB_y, isBv_i, isBv_b, eqCells_t, TT]
theorem rrefused_spec (m : BM) (hm : m.ok) (xs sp : List OI) (c : Nat) (hok : ∀ x ∈ xs, x.ok) (hn : xs.length ≤ 4398046511104) : Spec cx.P 50 [.agg (boC m (roO xs sp c))] [] fun s _ => s.plain = true ∧ s = .c (i64 (refF m xs)) := by
  refine spec_of_X cx_ok Try.func50 rfl (by kernel_rfl) (by kernel_rfl) (Nat.le_of_ble_eq_true rfl) 400 6 ?_
  simp (maxSteps := 4000000) only [Try.results50, XX, Nat.reduceBEq, Nat.reduceLT, Nat.reduceAdd, Nat.reduceMul, Nat.reduceSub, Nat.reduceLeDiff, Nat.reduceEqDiff, Int.reduceToNat, Int.reduceLT, Int.reduceLE, Int.reduceAdd, Int.reduceSub, Int.reduceEq, reduceIte, Nat.reduceBNe, Int.reducePow, Nat.reducePow, Int.reduceMul, Int.reduceNeg, isB_i, isB_b, isB_y, isBv_i, isBv_b, eqCells_t, TT]
  refine call_plain (rzero_spec m.sname hm.sname) rfl ?_
  rintro _ rfl
  simp (maxSteps := 4000000) only [Try.results50, XX, Nat.reduceBEq, Nat.reduceLT, Nat.reduceAdd, Nat.reduceMul, Nat.reduceSub, Nat.reduceLeDiff, Nat.reduceEqDiff, Int.reduceToNat, Int.reduceLT, Int.reduceLE, Int.reduceAdd, Int.reduceSub, Int.reduceEq, reduceIte, Nat.reduceBNe, Int.reducePow, Nat.reducePow, Int.reduceMul, Int.reduceNeg, isB_i, isB_b, isB_y, isBv_i, isBv_b, eqCells_t, TT]
  refine call_plain (rzero_spec m.file hm.file) rfl ?_
  rintro _ rfl
  cases hB : badB m || zeroB m with
  | true =>
    rw [show refF m xs = 160 by unfold refF; rw [hB]; rfl]
    unfold badB zeroB at hB
    rw [← Bool.or_assoc] at hB
    simp (maxSteps := 4000000) only [Try.results50, hB, XX, Nat.reduceBEq, Nat.reduceLT, Nat.reduceAdd, Nat.reduceMul, Nat.reduceSub, Nat.reduceLeDiff, Nat.reduceEqDiff, Int.reduceToNat, Int.reduceLT, Int.reduceLE, Int.reduceAdd, Int.reduceSub, Int.reduceEq, reduceIte, Nat.reduceBNe, Int.reducePow, Nat.reducePow, Int.reduceMul, Int.reduceNeg, isB_i, isB_b, isB_y, isBv_i, isBv_b, eqCells_t, TT]
  | false =>
    have hr : refF m xs = if longB m then 2 else if overB xs then 162 else 0 := by unfold refF; rw [hB]; rfl
    rw [hr]
    clear hr
    unfold badB zeroB at hB
    rw [← Bool.or_assoc] at hB
    simp (maxSteps := 4000000) only [Try.results50, hB, str_size, XX, Nat.reduceBEq, Nat.reduceLT, Nat.reduceAdd, Nat.reduceMul, Nat.reduceSub, Nat.reduceLeDiff, Nat.reduceEqDiff, Int.reduceToNat, Int.reduceLT, Int.reduceLE, Int.reduceAdd, Int.reduceSub, Int.reduceEq, reduceIte, Nat.reduceBNe, Int.reducePow, Nat.reducePow, Int.reduceMul, Int.reduceNeg, isB_i, isB_b, isB_y, isBv_i, isBv_b, eqCells_t, TT]
    cases hL : longB m with
    | true =>
      unfold longB at hL
      simp (maxSteps := 4000000) only [Try.results50, hL, XX, Nat.reduceBEq, Nat.reduceLT, Nat.reduceAdd, Nat.reduceMul, Nat.reduceSub, Nat.reduceLeDiff, Nat.reduceEqDiff, Int.reduceToNat, Int.reduceLT, Int.reduceLE, Int.reduceAdd, Int.reduceSub, Int.reduceEq, reduceIte, Nat.reduceBNe, Int.reducePow, Nat.reducePow, Int.reduceMul, Int.reduceNeg, isB_i, isB_b, isB_y, isBv_i, isBv_b, eqCells_t, TT]
    | false =>
      unfold longB at hL
      simp (maxSteps := 4000000) only [Try.results50, hL, XX, Nat.reduceBEq, Nat.reduceLT, Nat.reduceAdd, Nat.reduceMul, Nat.reduceSub, Nat.reduceLeDiff, Nat.reduceEqDiff, Int.reduceToNat, Int.reduceLT, Int.reduceLE, Int.reduceAdd, Int.reduceSub, Int.reduceEq, reduceIte, Nat.reduceBNe, Int.reducePow, Nat.reducePow, Int.reduceMul, Int.reduceNeg, isB_i, isB_b, isB_y, isBv_i, isBv_b, eqCells_t, TT]
      refine loop_any cx_ok 400 (fun μ σ => ∃ (i : Nat) (H : List SB), μ = xs.length - i ∧ i ≤ xs.length ∧ overB (xs.take i) = false ∧ H[0]? = some ⟨true, 29, boC m (roO xs sp c)⟩ ∧ σ = ⟨⟨6, 0⟩, [(1, .c (.ptr 0 0)), (5, .c (i64 i))], H⟩) xs.length
        ⟨⟨6, 0⟩, [(1, .c (.ptr 0 0)), (5, .c (i64 (0 : Nat)))], [⟨true, 29, boC m (roO xs sp c)⟩]⟩ ⟨0, _, rfl, Nat.zero_le _, rfl, rfl, rfl⟩ (.inl ⟨rfl, rfl, rfl, rfl, trivial⟩) ?_
      rintro μ σ ⟨i, H, rfl, hi, hz, hH, rfl⟩
      have lH := lt_of hH
      by_cases hlt : i < xs.length
      · have hd : decide ((i : Int) < (xs.length : Int)) = true := by simp only [decide_eq_true_eq]; omega
        have e3 : IntKind.i64.wrap ((i : Int) + 1) = ((i + 1 : Nat) : Int) := by rw [w64] <;> omega
        obtain ⟨x, hx⟩ : ∃ x, xs[i]? = some x := ⟨_, List.getElem?_eq_getElem hlt⟩
        obtain ⟨R, hR⟩ := osR_at (sp := sp) hx
        have ht : xs.take (i + 1) = xs.take i ++ [x] := by rw [List.take_add_one, hx]; rfl
        by_cases hk : x.k = 52
        · have dk : decide (x.k = 52) = true := by simpa using hk
          have ho : overB xs = true := List.any_eq_true.2 ⟨x, List.mem_of_getElem? hx, dk⟩
          rw [ho]
          simp (maxSteps := 4000000) only [Try.results50, hH, lH, hd, hR, dk, XX, Nat.reduceBEq, Nat.reduceLT, Nat.reduceAdd, Nat.reduceMul, Nat.reduceSub, Nat.reduceLeDiff, Nat.reduceEqDiff, Int.reduceToNat, Int.reduceLT, Int.reduceLE, Int.reduceAdd, Int.reduceSub, Int.reduceEq, reduceIte, Nat.reduceBNe, Int.reducePow, Nat.reducePow, Int.reduceMul, Int.reduceNeg, isB_i, isB_b, isB_y, isBv_i, isBv_b, eqCells_t, TT]
          exact ⟨by omega, by omega⟩
        · have dk : decide (x.k = 52) = false := by simpa using hk
          simp (maxSteps := 4000000) only [Try.results50, hH, lH, hd, hR, dk, e3, XX, Nat.reduceBEq, Nat.reduceLT, Nat.reduceAdd, Nat.reduceMul, Nat.reduceSub, Nat.reduceLeDiff, Nat.reduceEqDiff, Int.reduceToNat, Int.reduceLT, Int.reduceLE, Int.reduceAdd, Int.reduceSub, Int.reduceEq, reduceIte, Nat.reduceBNe, Int.reducePow, Nat.reducePow, Int.reduceMul, Int.reduceNeg, isB_i, isB_b, isB_y, isBv_i, isBv_b, eqCells_t, TT]
          exact ⟨by omega, by omega, xs.length - (i + 1), by omega, _, ⟨i + 1, H, rfl, by omega, by rw [ht, overB, List.any_append]; simp only [overB] at hz; rw [hz]; simp [dk], hH, rfl⟩, .inl ⟨rfl, rfl, rfl, rfl, trivial⟩⟩
      obtain rfl : i = xs.length := by omega
      have hd : decide ((xs.length : Int) < (xs.length : Int)) = false := by simp
      rw [List.take_length] at hz
      rw [hz]
      simp (maxSteps := 4000000) only [Try.results50, hH, lH, hd, XX, Nat.reduceBEq, Nat.reduceLT, Nat.reduceAdd, Nat.reduceMul, Nat.reduceSub, Nat.reduceLeDiff, Nat.reduceEqDiff, Int.reduceToNat, Int.reduceLT, Int.reduceLE, Int.reduceAdd, Int.reduceSub, Int.reduceEq, reduceIte, Nat.reduceBNe, Int.reducePow, Nat.reducePow, Int.reduceMul, Int.reduceNeg, isB_i, isB_b, isB_y, isBv_i, isBv_b, eqCells_t, TT]
end Go.Proofs.Ytgegddefcgfhgaa.Sx
namespace Go.Proofs.Ytgegddefcgfhgaa.Sx
open Go
set_option linter.unusedSimpArgs false
set_option linter.unusedVariables false
set_option maxRecDepth 10000
set_option maxHeartbeats 2000000
/-- What comes of laying bytes behind a list. -/
def Laid (H0 : List SB) (w0 : Nat) (l : List UInt8) (s : SV) (h' : List SB) : Prop := ∃ w z' o, s = .c (slB w l z') ∧ Buf h' w o l z' ∧ H0.length ≤ h'.length ∧ (∀ k, k < H0.length → k ≠ w0 → h'[k]? = H0[k]?) ∧ (w = w0 ∨ H0.length ≤ w)
theorem take_nextB (m : List UInt8) (i : Nat) (hi : i < m.length) : m.take i ++ [m.getD i 0] = m.take (i + 1) := by
  rw [List.take_add_one, List.getD_eq_getElem?_getD, List.getElem?_eq_getElem hi]; rfl
theorem add16_spec (H0 : List SB) (w0 : Nat) (o0 : Bool) (l z : List UInt8) (B0 : Buf H0 w0 o0 l z) (wb ofs cb : Nat) (bb : SB) (m : List UInt8) (hb0 : H0[wb]? = some bb) (hne : wb ≠ w0) (hc : ∀ i, i < m.length → bb.cells.getD (ofs + i) .any = byteC (m.getD i 0)) (hlb : ofs + m.length ≤ bb.cells.length) (many : Nat) (hl : l.length + m.length + many ≤ 70368744177664) :
    Spec cx.P 52 [.c (slB w0 l z), .c (.sl wb ofs m.length cb), .c (i64 many)] H0 (Laid H0 w0 (l ++ (m ++ List.replicate (many - m.length) 0))) := by
  refine spec_of_X cx_ok Try.func52 rfl (by kernel_rfl) (by kernel_rfl) (Nat.le_of_ble_eq_true rfl) 400 9 ?_
  simp (maxSteps := 4000000) only [Try.results52, XX, Nat.reduceBEq, Nat.reduceLT, Nat.reduceAdd, Nat.reduceMul, Nat.reduceSub, Nat.reduceLeDiff, Nat.reduceEqDiff, Int.reduceToNat, Int.reduceLT, Int.reduceLE, Int.reduceAdd, Int.reduceSub, Int.reduceEq, reduceIte, Nat.reduceBNe, Int.reducePow, Nat.reducePow, Int.reduceMul, Int.reduceNeg, isB_i, isB_b, isB_y, isBv_i, isBv_b, eqCells_t, TT]
  refine loop_any cx_ok 400 (fun μ σ => ∃ (i : Nat) (H : List SB) (w : Nat) (o : Bool) (z' : List UInt8), μ = m.length - i ∧ i ≤ m.length ∧ Buf H w o (l ++ m.take i) z' ∧ H0.length ≤ H.length ∧ (∀ k, k < H0.length → k ≠ w0 → H[k]? = H0[k]?) ∧ (w = w0 ∨ H0.length ≤ w) ∧
      σ = ⟨⟨9, H0.length⟩, [(0, .c (.sl w 0 (l.length + i) ((l.length + i) + z'.length))), (1, .c (.sl wb ofs m.length cb)), (2, .c (i64 many)), (7, .c (i64 i))], H⟩) m.length
    ⟨⟨9, H0.length⟩, [(0, .c (.sl w0 0 (l.length + 0) (l.length + 0 + z.length))), (1, .c (.sl wb ofs m.length cb)), (2, .c (i64 many)), (7, .c (i64 (0 : Nat)))], H0⟩ ⟨0, H0, w0, o0, z, rfl, Nat.zero_le _, by rw [List.take_zero, List.append_nil]; exact B0, Nat.le_refl _, fun _ _ _ => rfl, .inl rfl, rfl⟩
    (.inl ⟨rfl, rfl, rfl, rfl, rfl, rfl, trivial⟩) ?_
  rintro μ σ ⟨i, H, w, o, z', rfl, hi, B, k1, k2, k3, rfl⟩
  by_cases hlt : i < m.length
  · have hd : decide ((i : Int) < (m.length : Int)) = true := by simp only [decide_eq_true_eq]; omega
    have e3 : IntKind.i64.wrap ((i : Int) + 1) = ((i + 1 : Nat) : Int) := by rw [w64] <;> omega
    have wb1 : H[wb]? = some bb := (k2 wb (lt_of hb0) hne).trans hb0
    have lb1 := lt_of wb1
    have hR := hc i hlt
    have hn : (l ++ m.take i).length = l.length + i := by simp; omega
    obtain ⟨LM, hLM⟩ : ∃ LM, LM = l ++ m.take i := ⟨_, rfl⟩
    rw [← hLM] at B hn
    simp (maxSteps := 4000000) only [Try.results52, hd, wb1, lb1, hR, B.at_, lt_of B.at_, List.append_assoc, List.getElem?_append_left, List.getElem?_append_right, List.length_append, List.length_set, List.set_append_left, gset, List.getElem?_set_ne, Nat.add_sub_cancel_left, Nat.sub_self, Nat.le_refl, Nat.le_add_right, List.replicate_one, List.flatten_cons, List.flatten_nil, rep_flat, XX, Nat.reduceBEq, Nat.reduceLT, Nat.reduceAdd, Nat.reduceMul, Nat.reduceSub, Nat.reduceLeDiff, Nat.reduceEqDiff, Int.reduceToNat, Int.reduceLT, Int.reduceLE, Int.reduceAdd, Int.reduceSub, Int.reduceEq, reduceIte, Nat.reduceBNe, Int.reducePow, Nat.reducePow, Int.reduceMul, Int.reduceNeg, isB_i, isB_b, isB_y, isBv_i, isBv_b, eqCells_t, TT]
    refine ⟨⟨by omega, by omega⟩, by omega, ⟨⟨by omega, by unfold maxLen; omega, by simp; omega, fun h => ⟨B.own (by omega), by simp; omega⟩⟩, ?_⟩⟩
    refine xapp_one B hn rfl rfl fun H' w' z2 B' h1 h2 h3 => ?_
    simp (maxSteps := 4000000) only [Try.results52, e3, XX, Nat.reduceBEq, Nat.reduceLT, Nat.reduceAdd, Nat.reduceMul, Nat.reduceSub, Nat.reduceLeDiff, Nat.reduceEqDiff, Int.reduceToNat, Int.reduceLT, Int.reduceLE, Int.reduceAdd, Int.reduceSub, Int.reduceEq, reduceIte, Nat.reduceBNe, Int.reducePow, Nat.reducePow, Int.reduceMul, Int.reduceNeg, isB_i, isB_b, isB_y, isBv_i, isBv_b, eqCells_t, TT]
    have hL2 : LM ++ [m.getD i 0] = l ++ m.take (i + 1) := by rw [hLM, List.append_assoc, take_nextB m i hlt]
    have hn' : (l ++ m.take (i + 1)).length = l.length + i + 1 := by simp; omega
    rw [hL2] at B' ⊢
    refine ⟨m.length - (i + 1), by omega, _, ⟨i + 1, H', w', true, z2, rfl, by omega, B', by omega, fun k hk hkne => (h2 k (by omega) (by rcases k3 with k3 | k3 <;> omega)).trans (k2 k hk hkne), by omega, rfl⟩, .inl ⟨rfl, rfl, ?_, rfl, rfl, rfl, trivial⟩⟩
    simp only [XX, Nat.reduceBEq, Nat.reduceLT, Nat.reduceAdd, Nat.reduceMul, Nat.reduceSub, Nat.reduceLeDiff, Nat.reduceEqDiff, Int.reduceToNat, Int.reduceLT, Int.reduceLE, Int.reduceAdd, Int.reduceSub, Int.reduceEq, reduceIte, Nat.reduceBNe, Int.reducePow, Nat.reducePow, Int.reduceMul, Int.reduceNeg, isB_i, isB_b, isB_y, isBv_i, isBv_b, eqCells_t, TT, slB, hn', Nat.add_assoc]
  obtain rfl : i = m.length := by omega
  have hd : decide ((m.length : Int) < (m.length : Int)) = false := by simp
  rw [List.take_length] at B
  simp (maxSteps := 4000000) only [Try.results52, hd, XX, Nat.reduceBEq, Nat.reduceLT, Nat.reduceAdd, Nat.reduceMul, Nat.reduceSub, Nat.reduceLeDiff, Nat.reduceEqDiff, Int.reduceToNat, Int.reduceLT, Int.reduceLE, Int.reduceAdd, Int.reduceSub, Int.reduceEq, reduceIte, Nat.reduceBNe, Int.reducePow, Nat.reducePow, Int.reduceMul, Int.reduceNeg, isB_i, isB_b, isB_y, isBv_i, isBv_b, eqCells_t, TT]
  refine loop_any cx_ok 400 (fun μ σ => ∃ (i : Nat) (H : List SB) (w : Nat) (o : Bool) (z' : List UInt8), μ = many - i ∧ m.length ≤ i ∧ i ≤ max many m.length ∧ Buf H w o (l ++ (m ++ List.replicate (i - m.length) 0)) z' ∧ H0.length ≤ H.length ∧ (∀ k, k < H0.length → k ≠ w0 → H[k]? = H0[k]?) ∧ (w = w0 ∨ H0.length ≤ w) ∧
      σ = ⟨⟨9, H0.length⟩, [(0, .c (.sl w 0 (l.length + i) ((l.length + i) + z'.length))), (2, .c (i64 many)), (8, .c (i64 i))], H⟩) (many - m.length)
    ⟨⟨9, H0.length⟩, [(0, .c (.sl w 0 (l.length + m.length) ((l.length + m.length) + z'.length))), (2, .c (i64 many)), (8, .c (i64 m.length))], H⟩ ⟨m.length, H, w, o, z', rfl, Nat.le_refl _, by omega, by rw [Nat.sub_self, List.replicate_zero, List.append_nil]; exact B, k1, k2, k3, rfl⟩
    (.inl ⟨rfl, rfl, rfl, rfl, rfl, trivial⟩) ?_
  clear B k1 k2 k3 hd hlt hi
  rintro μ σ ⟨i, H, w, o, z', rfl, hi1, hi2, B, k1, k2, k3, rfl⟩
  by_cases hlt : i < many
  · have hd : decide ((i : Int) < (many : Int)) = true := by simp only [decide_eq_true_eq]; omega
    have e3 : IntKind.i64.wrap ((i : Int) + 1) = ((i + 1 : Nat) : Int) := by rw [w64] <;> omega
    have hn : (l ++ (m ++ List.replicate (i - m.length) (0 : UInt8))).length = l.length + i := by simp; omega
    obtain ⟨LM, hLM⟩ : ∃ LM, LM = l ++ (m ++ List.replicate (i - m.length) (0 : UInt8)) := ⟨_, rfl⟩
    rw [← hLM] at B hn
    have z0 : SC.v (.int .u8 0) = byteC 0 := rfl
    simp (maxSteps := 4000000) only [Try.results52, hd, B.at_, lt_of B.at_, List.append_assoc, List.getElem?_append_left, List.getElem?_append_right, List.length_append, List.length_set, List.set_append_left, gset, List.getElem?_set_ne, Nat.add_sub_cancel_left, Nat.sub_self, Nat.le_refl, Nat.le_add_right, List.replicate_one, List.flatten_cons, List.flatten_nil, rep_flat, List.drop_succ_cons, List.drop_zero, XX, Nat.reduceBEq, Nat.reduceLT, Nat.reduceAdd, Nat.reduceMul, Nat.reduceSub, Nat.reduceLeDiff, Nat.reduceEqDiff, Int.reduceToNat, Int.reduceLT, Int.reduceLE, Int.reduceAdd, Int.reduceSub, Int.reduceEq, reduceIte, Nat.reduceBNe, Int.reducePow, Nat.reducePow, Int.reduceMul, Int.reduceNeg, isB_i, isB_b, isB_y, isBv_i, isBv_b, eqCells_t, TT]
    refine ⟨⟨by omega, by unfold maxLen; omega, by simp; omega, fun h => ⟨B.own (by omega), by simp; omega⟩⟩, ?_⟩
    refine xapp_one (x := 0) B hn rfl rfl fun H' w' z2 B' h1 h2 h3 => ?_
    simp (maxSteps := 4000000) only [Try.results52, e3, XX, Nat.reduceBEq, Nat.reduceLT, Nat.reduceAdd, Nat.reduceMul, Nat.reduceSub, Nat.reduceLeDiff, Nat.reduceEqDiff, Int.reduceToNat, Int.reduceLT, Int.reduceLE, Int.reduceAdd, Int.reduceSub, Int.reduceEq, reduceIte, Nat.reduceBNe, Int.reducePow, Nat.reducePow, Int.reduceMul, Int.reduceNeg, isB_i, isB_b, isB_y, isBv_i, isBv_b, eqCells_t, TT]
    have hL2 : LM ++ [0] = l ++ (m ++ List.replicate (i + 1 - m.length) (0 : UInt8)) := by
      rw [hLM, show i + 1 - m.length = (i - m.length) + 1 by omega, List.replicate_succ', List.append_assoc, List.append_assoc]
    have hn' : (l ++ (m ++ List.replicate (i + 1 - m.length) (0 : UInt8))).length = l.length + i + 1 := by simp; omega
    rw [hL2] at B' ⊢
    refine ⟨many - (i + 1), by omega, _, ⟨i + 1, H', w', true, z2, rfl, by omega, by omega, B', by omega, fun k hk hkne => (h2 k (by omega) (by rcases k3 with k3 | k3 <;> omega)).trans (k2 k hk hkne), by omega, rfl⟩, .inl ⟨rfl, rfl, ?_, rfl, rfl, trivial⟩⟩
    simp only [XX, Nat.reduceBEq, Nat.reduceLT, Nat.reduceAdd, Nat.reduceMul, Nat.reduceSub, Nat.reduceLeDiff, Nat.reduceEqDiff, Int.reduceToNat, Int.reduceLT, Int.reduceLE, Int.reduceAdd, Int.reduceSub, Int.reduceEq, reduceIte, Nat.reduceBNe, Int.reducePow, Nat.reducePow, Int.reduceMul, Int.reduceNeg, isB_i, isB_b, isB_y, isBv_i, isBv_b, eqCells_t, TT, slB, hn', Nat.add_assoc]
  have hd : decide ((i : Int) < (many : Int)) = false := by simp only [decide_eq_false_iff_not]; omega
  rw [show i - m.length = many - m.length by omega] at B
  have hn' : (l ++ (m ++ List.replicate (many - m.length) (0 : UInt8))).length = l.length + i := by simp; omega
  simp (maxSteps := 4000000) only [Try.results52, hd, XX, Nat.reduceBEq, Nat.reduceLT, Nat.reduceAdd, Nat.reduceMul, Nat.reduceSub, Nat.reduceLeDiff, Nat.reduceEqDiff, Int.reduceToNat, Int.reduceLT, Int.reduceLE, Int.reduceAdd, Int.reduceSub, Int.reduceEq, reduceIte, Nat.reduceBNe, Int.reducePow, Nat.reducePow, Int.reduceMul, Int.reduceNeg, isB_i, isB_b, isB_y, isBv_i, isBv_b, eqCells_t, TT]
  exact ⟨w, z', o, by simp only [slB, hn'], B, k1, k2, k3⟩
theorem number4_spec (H0 : List SB) (w0 : Nat) (o0 : Bool) (l z : List UInt8) (B0 : Buf H0 w0 o0 l z) (n : Nat) (hn : n < 18446744073709551616) (hl : l.length ≤ 1000000) :
    Spec cx.P 51 [.c (slB w0 l z), .c (u64 n), .c (i64 4)] H0 (Laid H0 w0 (l ++ be4 n)) := by
  have lw := lt_of B0.at_
  refine spec_of_X cx_ok Try.func51 rfl (by kernel_rfl) (by kernel_rfl) (Nat.le_of_ble_eq_true rfl) 400 8 ?_
  simp (maxSteps := 4000000) only [Try.results51, XX, Nat.reduceBEq, Nat.reduceLT, Nat.reduceAdd, Nat.reduceMul, Nat.reduceSub, Nat.reduceLeDiff, Nat.reduceEqDiff, Int.reduceToNat, Int.reduceLT, Int.reduceLE, Int.reduceAdd, Int.reduceSub, Int.reduceEq, reduceIte, Nat.reduceBNe, Int.reducePow, Nat.reducePow, Int.reduceMul, Int.reduceNeg, isB_i, isB_b, isB_y, isBv_i, isBv_b, eqCells_t, TT]
  refine call_fz [.c (u64 n), .c (i64 4)] (rput4_spec n hn) (fun t h' h => by obtain ⟨rfl, rfl⟩ := h; exact ⟨rfl, by simp only [XX, Nat.reduceBEq, Nat.reduceLT, Nat.reduceAdd, Nat.reduceMul, Nat.reduceSub, Nat.reduceLeDiff, Nat.reduceEqDiff, Int.reduceToNat, Int.reduceLT, Int.reduceLE, Int.reduceAdd, Int.reduceSub, Int.reduceEq, reduceIte, Nat.reduceBNe, Int.reducePow, Nat.reducePow, Int.reduceMul, Int.reduceNeg, isB_i, isB_b, isB_y, isBv_i, isBv_b, eqCells_t, TT, ids_bsC, ren_bsC, noRo_bsC, plain_bsC, lt_bsC, ids_byte, ren_byte, noRo_byte, plain_byte, lt_byte]⟩) ⟨.inl ⟨rfl, rfl⟩, .inl ⟨rfl, rfl⟩, trivial⟩ ?_
  rintro _ _ ⟨rfl, rfl⟩
  obtain ⟨M, hM⟩ : ∃ M, M = be4 n := ⟨_, rfl⟩
  have lM : M.length = 4 := by rw [hM]; rfl
  rw [← hM]
  simp (maxSteps := 4000000) only [Try.results51, ids_bsC, ren_bsC, noRo_bsC, plain_bsC, lt_bsC, ids_byte, ren_byte, noRo_byte, plain_byte, lt_byte, XX, Nat.reduceBEq, Nat.reduceLT, Nat.reduceAdd, Nat.reduceMul, Nat.reduceSub, Nat.reduceLeDiff, Nat.reduceEqDiff, Int.reduceToNat, Int.reduceLT, Int.reduceLE, Int.reduceAdd, Int.reduceSub, Int.reduceEq, reduceIte, Nat.reduceBNe, Int.reducePow, Nat.reducePow, Int.reduceMul, Int.reduceNeg, isB_i, isB_b, isB_y, isBv_i, isBv_b, eqCells_t, TT]
  have u0 : (H0 ++ [wB true M])[H0.length]? = some (wB true M) := by rw [List.getElem?_append_right (Nat.le_refl _), Nat.sub_self]; rfl
  have e4 : (SC.sl H0.length 0 4 4) = .sl H0.length 0 M.length 4 := by rw [lM]
  rw [e4]
  refine call_is (add16_spec (H0 ++ [wB true M]) w0 o0 l z (B0.app) H0.length 0 4 _ M u0 (by omega) (fun i hi => ?_) (by rw [bsC_len]; omega) 0 (by omega)) ?_
  · show (bsC M).getD (0 + i) .any = _
    rw [Nat.zero_add, List.getD_eq_getElem?_getD, List.getElem?_map, List.getD_eq_getElem?_getD, List.getElem?_eq_getElem hi]; rfl
  rintro _ h' ⟨w, z', o, rfl, B, k1, k2, k3⟩
  rw [Nat.zero_sub, List.replicate_zero, List.append_nil] at B
  rw [Nat.zero_sub, List.replicate_zero, List.append_nil]
  rw [List.length_append, List.length_singleton] at k1 k2 k3
  simp (maxSteps := 4000000) only [Try.results51, XX, Nat.reduceBEq, Nat.reduceLT, Nat.reduceAdd, Nat.reduceMul, Nat.reduceSub, Nat.reduceLeDiff, Nat.reduceEqDiff, Int.reduceToNat, Int.reduceLT, Int.reduceLE, Int.reduceAdd, Int.reduceSub, Int.reduceEq, reduceIte, Nat.reduceBNe, Int.reducePow, Nat.reducePow, Int.reduceMul, Int.reduceNeg, isB_i, isB_b, isB_y, isBv_i, isBv_b, eqCells_t, TT]
  exact ⟨w, z', o, rfl, B, by omega, fun k hk hne => (k2 k (by omega) hne).trans (List.getElem?_append_left hk), by omega⟩
theorem number2_spec (H0 : List SB) (w0 : Nat) (o0 : Bool) (l z : List UInt8) (B0 : Buf H0 w0 o0 l z) (n : Nat) (hn : n < 18446744073709551616) (hl : l.length ≤ 1000000) :
    Spec cx.P 51 [.c (slB w0 l z), .c (u64 n), .c (i64 2)] H0 (Laid H0 w0 (l ++ be2 n)) := by
  have lw := lt_of B0.at_
  refine spec_of_X cx_ok Try.func51 rfl (by kernel_rfl) (by kernel_rfl) (Nat.le_of_ble_eq_true rfl) 400 8 ?_
  simp (maxSteps := 4000000) only [Try.results51, XX, Nat.reduceBEq, Nat.reduceLT, Nat.reduceAdd, Nat.reduceMul, Nat.reduceSub, Nat.reduceLeDiff, Nat.reduceEqDiff, Int.reduceToNat, Int.reduceLT, Int.reduceLE, Int.reduceAdd, Int.reduceSub, Int.reduceEq, reduceIte, Nat.reduceBNe, Int.reducePow, Nat.reducePow, Int.reduceMul, Int.reduceNeg, isB_i, isB_b, isB_y, isBv_i, isBv_b, eqCells_t, TT]
  refine call_fz [.c (u64 n), .c (i64 2)] (rput2_spec n hn) (fun t h' h => by obtain ⟨rfl, rfl⟩ := h; exact ⟨rfl, by simp only [XX, Nat.reduceBEq, Nat.reduceLT, Nat.reduceAdd, Nat.reduceMul, Nat.reduceSub, Nat.reduceLeDiff, Nat.reduceEqDiff, Int.reduceToNat, Int.reduceLT, Int.reduceLE, Int.reduceAdd, Int.reduceSub, Int.reduceEq, reduceIte, Nat.reduceBNe, Int.reducePow, Nat.reducePow, Int.reduceMul, Int.reduceNeg, isB_i, isB_b, isB_y, isBv_i, isBv_b, eqCells_t, TT, ids_bsC, ren_bsC, noRo_bsC, plain_bsC, lt_bsC, ids_byte, ren_byte, noRo_byte, plain_byte, lt_byte]⟩) ⟨.inl ⟨rfl, rfl⟩, .inl ⟨rfl, rfl⟩, trivial⟩ ?_
  rintro _ _ ⟨rfl, rfl⟩
  obtain ⟨M, hM⟩ : ∃ M, M = be2 n := ⟨_, rfl⟩
  have lM : M.length = 2 := by rw [hM]; rfl
  rw [← hM]
  simp (maxSteps := 4000000) only [Try.results51, ids_bsC, ren_bsC, noRo_bsC, plain_bsC, lt_bsC, ids_byte, ren_byte, noRo_byte, plain_byte, lt_byte, XX, Nat.reduceBEq, Nat.reduceLT, Nat.reduceAdd, Nat.reduceMul, Nat.reduceSub, Nat.reduceLeDiff, Nat.reduceEqDiff, Int.reduceToNat, Int.reduceLT, Int.reduceLE, Int.reduceAdd, Int.reduceSub, Int.reduceEq, reduceIte, Nat.reduceBNe, Int.reducePow, Nat.reducePow, Int.reduceMul, Int.reduceNeg, isB_i, isB_b, isB_y, isBv_i, isBv_b, eqCells_t, TT]
  have u0 : (H0 ++ [wB true M])[H0.length]? = some (wB true M) := by rw [List.getElem?_append_right (Nat.le_refl _), Nat.sub_self]; rfl
  have e4 : (SC.sl H0.length 0 2 2) = .sl H0.length 0 M.length 2 := by rw [lM]
  rw [e4]
  refine call_is (add16_spec (H0 ++ [wB true M]) w0 o0 l z (B0.app) H0.length 0 2 _ M u0 (by omega) (fun i hi => ?_) (by rw [bsC_len]; omega) 0 (by omega)) ?_
  · show (bsC M).getD (0 + i) .any = _
    rw [Nat.zero_add, List.getD_eq_getElem?_getD, List.getElem?_map, List.getD_eq_getElem?_getD, List.getElem?_eq_getElem hi]; rfl
  rintro _ h' ⟨w, z', o, rfl, B, k1, k2, k3⟩
  rw [Nat.zero_sub, List.replicate_zero, List.append_nil] at B
  rw [Nat.zero_sub, List.replicate_zero, List.append_nil]
  rw [List.length_append, List.length_singleton] at k1 k2 k3
  simp (maxSteps := 4000000) only [Try.results51, XX, Nat.reduceBEq, Nat.reduceLT, Nat.reduceAdd, Nat.reduceMul, Nat.reduceSub, Nat.reduceLeDiff, Nat.reduceEqDiff, Int.reduceToNat, Int.reduceLT, Int.reduceLE, Int.reduceAdd, Int.reduceSub, Int.reduceEq, reduceIte, Nat.reduceBNe, Int.reducePow, Nat.reducePow, Int.reduceMul, Int.reduceNeg, isB_i, isB_b, isB_y, isBv_i, isBv_b, eqCells_t, TT]
  exact ⟨w, z', o, rfl, B, by omega, fun k hk hne => (k2 k (by omega) hne).trans (List.getElem?_append_left hk), by omega⟩
end Go.Proofs.Ytgegddefcgfhgaa.Sx
namespace Go.Proofs.Ytgegddefcgfhgaa.Sx
open Go
set_option linter.unusedSimpArgs false
set_option linter.unusedVariables false
set_option maxRecDepth 10000
set_option maxHeartbeats 4000000
theorem rencode_big (m : BM) (hm : m.ok) (xs sp : List OI) (c0 : Nat) (hok : ∀ x ∈ xs, x.ok) (hn : xs.length ≤ 4398046511104) (hT : totO xs ≤ 281474976776192) : Spec cx.P 24 [.agg (boC m (roO xs sp c0))] [] (resB (encF m xs).1 (encF m xs).2) := by
  have r1 := rrefused_spec m hm xs sp c0 hok hn
  have r2 := rpack_big xs sp c0 hok 1232 (.inr ⟨hT, by decide⟩)
  by_cases h0 : refF m xs = 0
  · by_cases h1 : (packF xs 1232).2 = 0
    · have he : encF m xs = (encB m (packF xs 1232).1, 0) := by unfold encF; rw [if_pos h0, if_pos h1]
      rw [he]
      rw [h0] at r1
      rw [h1] at r2
      have lo := packF_le' (xs := xs) 1232 (by decide)
      have lz := szO_le xs
      generalize (packF xs 1232).1 = o at *
      have hb : badB m = false ∧ zeroB m = false ∧ longB m = false := by
        unfold refF at h0
        cases h3 : badB m || zeroB m with
        | true => rw [h3] at h0; exact absurd h0 (by simp)
        | false =>
          rw [h3] at h0
          cases h4 : longB m with
          | true => rw [h4] at h0; exact absurd h0 (by simp)
          | false => exact ⟨(Bool.or_eq_false_iff.1 h3).1, (Bool.or_eq_false_iff.1 h3).2, rfl⟩
      obtain ⟨hb1, hb2, hb3⟩ := hb
      have hs : 0 ≤ m.secs ∧ m.secs ≤ 65535 := by
        unfold badB at hb1
        simp at hb1
        omega
      have hl : m.sname.length ≤ 63 ∧ m.file.length ≤ 127 := by
        unfold longB at hb3
        simp at hb3
        omega
      refine resB_of ?_
      refine spec_of_X cx_ok Try.func24 rfl (by kernel_rfl) (by kernel_rfl) (Nat.le_of_ble_eq_true rfl) 400 8 ?_
      simp (maxSteps := 4000000) only [Try.results24, XX, Nat.reduceBEq, Nat.reduceLT, Nat.reduceAdd, Nat.reduceMul, Nat.reduceSub, Nat.reduceLeDiff, Nat.reduceEqDiff, Int.reduceToNat, Int.reduceLT, Int.reduceLE, Int.reduceAdd, Int.reduceSub, Int.reduceEq, reduceIte, Nat.reduceBNe, Int.reducePow, Nat.reducePow, Int.reduceMul, Int.reduceNeg, isB_i, isB_b, isB_y, isBv_i, isBv_b, eqCells_t, TT]
      refine call_pureF [.agg (boC m (roO xs sp c0))] r1 ⟨.inl ⟨rfl, rfl⟩, trivial⟩ ?_
      rintro _ rfl
      simp (maxSteps := 4000000) only [Try.results24, XX, Nat.reduceBEq, Nat.reduceLT, Nat.reduceAdd, Nat.reduceMul, Nat.reduceSub, Nat.reduceLeDiff, Nat.reduceEqDiff, Int.reduceToNat, Int.reduceLT, Int.reduceLE, Int.reduceAdd, Int.reduceSub, Int.reduceEq, reduceIte, Nat.reduceBNe, Int.reducePow, Nat.reducePow, Int.reduceMul, Int.reduceNeg, isB_i, isB_b, isB_y, isBv_i, isBv_b, eqCells_t, TT]
      refine call_fz [.c (roO xs sp c0), .c (i64 1232)] r2 (fun t h' h => resB_noRo h) ⟨.inl ⟨rfl, rfl⟩, .inl ⟨rfl, rfl⟩, trivial⟩ ?_
      rintro _ _ ⟨zp, op, rfl, rfl, hop⟩
      have exid : IntKind.u64.wrap (m.xid : Int) = (m.xid : Int) := by have := hm.xid; rw [wu64] <;> omega
      have eci : IntKind.u64.wrap (m.ci : Int) = (m.ci : Int) := by have := hm.ci; rw [wu64] <;> omega
      have eyi : IntKind.u64.wrap (m.yi : Int) = (m.yi : Int) := by have := hm.yi; rw [wu64] <;> omega
      have esi : IntKind.u64.wrap (m.si : Int) = (m.si : Int) := by have := hm.si; rw [wu64] <;> omega
      have egi : IntKind.u64.wrap (m.gi : Int) = (m.gi : Int) := by have := hm.gi; rw [wu64] <;> omega
      have esecs : IntKind.u64.wrap m.secs = ((m.secs.toNat : Nat) : Int) := by rw [wu64] <;> omega
      have gxid := hm.xid
      have gci := hm.ci
      have gyi := hm.yi
      have gsi := hm.si
      have ggi := hm.gi
      simp (maxSteps := 4000000) only [Try.results24, ids_bsC, ren_bsC, noRo_bsC, plain_bsC, lt_bsC, ids_byte, ren_byte, noRo_byte, plain_byte, lt_byte, byteC_of, exid, List.flatten_cons, List.flatten_nil, List.cons_append, List.nil_append, List.append_nil, List.replicate_succ, List.replicate_zero, List.drop_succ_cons, List.drop_zero, List.length_cons, List.length_nil, Nat.reduceAdd, Nat.reduceLeDiff, reduceIte, XX, Nat.reduceBEq, Nat.reduceLT, Nat.reduceAdd, Nat.reduceMul, Nat.reduceSub, Nat.reduceLeDiff, Nat.reduceEqDiff, Int.reduceToNat, Int.reduceLT, Int.reduceLE, Int.reduceAdd, Int.reduceSub, Int.reduceEq, reduceIte, Nat.reduceBNe, Int.reducePow, Nat.reducePow, Int.reduceMul, Int.reduceNeg, isB_i, isB_b, isB_y, isBv_i, isBv_b, eqCells_t, TT]
      obtain ⟨L0, e0⟩ : ∃ L : List UInt8, L = [UInt8.ofInt m.op, 1, 6, UInt8.ofInt m.hops] := ⟨_, rfl⟩
      have n0 : L0.length = 4 := by rw [e0]; rfl
      have a0 : (SC.sl 2 0 4 4) = slB 2 L0 [] := by rw [slB, n0]; rfl
      rw [a0]
      refine gen_call16 (fun H => Buf H 2 true L0 [] ∧ H[0]? = some ⟨true, 29, boC m (roO xs sp c0)⟩ ∧ H[1]? = some (wB op (o ++ zp)) ∧ 2 < H.length) ⟨⟨by rw [e0]; rfl, fun _ => rfl⟩, rfl, rfl, by simp⟩ ?_
      rintro H0 ⟨B0, b0, q0, l0'⟩
      have l0 : 1 < H0.length ∧ 1 < 2 := by omega
      clear l0'
      cases hA : m.all with
      | true =>
        refine call_is (number4_spec H0 2 true L0 [] B0 (m.xid) (by omega) (by omega)) ?_
        rintro _ H1 ⟨w1, z1, o1, rfl, B1, k1, k2, k3⟩
        have b1 := (k2 0 (by omega) (by omega)).trans b0
        have q1 := (k2 1 (by omega) (by omega)).trans q0
        have l1 : 1 < H1.length ∧ 1 < w1 := by omega
        obtain ⟨L1, e1⟩ : ∃ L, L = L0 ++ be4 (m.xid) := ⟨_, rfl⟩
        have n1 : L1.length = 8 := by rw [e1]; simp only [List.length_append, List.length_cons, List.length_nil, List.length_replicate, n0]; try omega
        rw [← e1] at B1 ⊢
        clear k1 k2 k3 b0 q0 B0 l0
        simp (maxSteps := 4000000) only [Try.results24, b1, lt_of b1, q1, lt_of q1, exid, esecs, eci, eyi, esi, egi, List.append_assoc, List.getElem?_append_left, List.getElem?_append_right, List.length_append, List.length_set, List.set_append_left, gset, List.getElem?_set_ne, Nat.add_sub_cancel_left, Nat.sub_self, Nat.le_refl, Nat.le_add_right, List.replicate_one, List.flatten_cons, List.flatten_nil, rep_flat, XX, Nat.reduceBEq, Nat.reduceLT, Nat.reduceAdd, Nat.reduceMul, Nat.reduceSub, Nat.reduceLeDiff, Nat.reduceEqDiff, Int.reduceToNat, Int.reduceLT, Int.reduceLE, Int.reduceAdd, Int.reduceSub, Int.reduceEq, reduceIte, Nat.reduceBNe, Int.reducePow, Nat.reducePow, Int.reduceMul, Int.reduceNeg, isB_i, isB_b, isB_y, isBv_i, isBv_b, eqCells_t, TT]
        refine call_is (number2_spec H1 w1 o1 L1 z1 B1 (m.secs.toNat) (by omega) (by omega)) ?_
        rintro _ H2 ⟨w2, z2, o2, rfl, B2, k1, k2, k3⟩
        have b2 := (k2 0 (by omega) (by omega)).trans b1
        have q2 := (k2 1 (by omega) (by omega)).trans q1
        have l2 : 1 < H2.length ∧ 1 < w2 := by omega
        obtain ⟨L2, e2⟩ : ∃ L, L = L1 ++ be2 (m.secs.toNat) := ⟨_, rfl⟩
        have n2 : L2.length = 10 := by rw [e2]; simp only [List.length_append, List.length_cons, List.length_nil, List.length_replicate, n1]; try omega
        rw [← e2] at B2 ⊢
        clear k1 k2 k3 b1 q1 B1 l1
        simp (maxSteps := 4000000) only [Try.results24, b2, lt_of b2, q2, lt_of q2, exid, esecs, eci, eyi, esi, egi, hA, B2.at_, lt_of B2.at_, List.flatten_cons, List.flatten_nil, List.cons_append, List.nil_append, List.append_nil, List.replicate_succ, List.replicate_zero, List.drop_succ_cons, List.drop_zero, List.length_cons, List.length_nil, Nat.reduceAdd, Nat.reduceLeDiff, reduceIte, List.append_assoc, List.getElem?_append_left, List.getElem?_append_right, List.length_append, List.length_set, List.set_append_left, gset, List.getElem?_set_ne, Nat.add_sub_cancel_left, Nat.sub_self, Nat.le_refl, Nat.le_add_right, List.replicate_one, List.flatten_cons, List.flatten_nil, rep_flat, XX, Nat.reduceBEq, Nat.reduceLT, Nat.reduceAdd, Nat.reduceMul, Nat.reduceSub, Nat.reduceLeDiff, Nat.reduceEqDiff, Int.reduceToNat, Int.reduceLT, Int.reduceLE, Int.reduceAdd, Int.reduceSub, Int.reduceEq, reduceIte, Nat.reduceBNe, Int.reducePow, Nat.reducePow, Int.reduceMul, Int.reduceNeg, isB_i, isB_b, isB_y, isBv_i, isBv_b, eqCells_t, TT]
        refine ⟨⟨by omega, by unfold maxLen; omega, by simp, fun h => ⟨B2.own (by omega), by simp; omega⟩⟩, xapp_more (news := [128, 0]) B2 rfl rfl rfl rfl (by omega) fun H3 w3 z3 B3 k1 k2 k3 => ?_⟩
        have b3 := (k2 0 (by omega) (by omega)).trans b2
        have q3 := (k2 1 (by omega) (by omega)).trans q2
        have l3 : 1 < H3.length ∧ 1 < w3 := by omega
        obtain ⟨L3, e3⟩ : ∃ L, L = L2 ++ [128, 0] := ⟨_, rfl⟩
        have n3 : L3.length = 12 := by rw [e3]; simp only [List.length_append, List.length_cons, List.length_nil, n2]
        rw [← e3] at B3 ⊢
        clear k1 k2 k3 b2 q2 B2 l2
        simp (maxSteps := 4000000) only [Try.results24, b3, lt_of b3, q3, lt_of q3, exid, esecs, eci, eyi, esi, egi, List.append_assoc, List.getElem?_append_left, List.getElem?_append_right, List.length_append, List.length_set, List.set_append_left, gset, List.getElem?_set_ne, Nat.add_sub_cancel_left, Nat.sub_self, Nat.le_refl, Nat.le_add_right, List.replicate_one, List.flatten_cons, List.flatten_nil, rep_flat, XX, Nat.reduceBEq, Nat.reduceLT, Nat.reduceAdd, Nat.reduceMul, Nat.reduceSub, Nat.reduceLeDiff, Nat.reduceEqDiff, Int.reduceToNat, Int.reduceLT, Int.reduceLE, Int.reduceAdd, Int.reduceSub, Int.reduceEq, reduceIte, Nat.reduceBNe, Int.reducePow, Nat.reducePow, Int.reduceMul, Int.reduceNeg, isB_i, isB_b, isB_y, isBv_i, isBv_b, eqCells_t, TT]
        refine call_is (number4_spec H3 w3 true L3 z3 B3 (m.ci) (by omega) (by omega)) ?_
        rintro _ H4 ⟨w4, z4, o4, rfl, B4, k1, k2, k3⟩
        have b4 := (k2 0 (by omega) (by omega)).trans b3
        have q4 := (k2 1 (by omega) (by omega)).trans q3
        have l4 : 1 < H4.length ∧ 1 < w4 := by omega
        obtain ⟨L4, e4⟩ : ∃ L, L = L3 ++ be4 (m.ci) := ⟨_, rfl⟩
        have n4 : L4.length = 16 := by rw [e4]; simp only [List.length_append, List.length_cons, List.length_nil, List.length_replicate, n3]; try omega
        rw [← e4] at B4 ⊢
        clear k1 k2 k3 b3 q3 B3 l3
        simp (maxSteps := 4000000) only [Try.results24, b4, lt_of b4, q4, lt_of q4, exid, esecs, eci, eyi, esi, egi, List.append_assoc, List.getElem?_append_left, List.getElem?_append_right, List.length_append, List.length_set, List.set_append_left, gset, List.getElem?_set_ne, Nat.add_sub_cancel_left, Nat.sub_self, Nat.le_refl, Nat.le_add_right, List.replicate_one, List.flatten_cons, List.flatten_nil, rep_flat, XX, Nat.reduceBEq, Nat.reduceLT, Nat.reduceAdd, Nat.reduceMul, Nat.reduceSub, Nat.reduceLeDiff, Nat.reduceEqDiff, Int.reduceToNat, Int.reduceLT, Int.reduceLE, Int.reduceAdd, Int.reduceSub, Int.reduceEq, reduceIte, Nat.reduceBNe, Int.reducePow, Nat.reducePow, Int.reduceMul, Int.reduceNeg, isB_i, isB_b, isB_y, isBv_i, isBv_b, eqCells_t, TT]
        refine call_is (number4_spec H4 w4 o4 L4 z4 B4 (m.yi) (by omega) (by omega)) ?_
        rintro _ H5 ⟨w5, z5, o5, rfl, B5, k1, k2, k3⟩
        have b5 := (k2 0 (by omega) (by omega)).trans b4
        have q5 := (k2 1 (by omega) (by omega)).trans q4
        have l5 : 1 < H5.length ∧ 1 < w5 := by omega
        obtain ⟨L5, e5⟩ : ∃ L, L = L4 ++ be4 (m.yi) := ⟨_, rfl⟩
        have n5 : L5.length = 20 := by rw [e5]; simp only [List.length_append, List.length_cons, List.length_nil, List.length_replicate, n4]; try omega
        rw [← e5] at B5 ⊢
        clear k1 k2 k3 b4 q4 B4 l4
        simp (maxSteps := 4000000) only [Try.results24, b5, lt_of b5, q5, lt_of q5, exid, esecs, eci, eyi, esi, egi, List.append_assoc, List.getElem?_append_left, List.getElem?_append_right, List.length_append, List.length_set, List.set_append_left, gset, List.getElem?_set_ne, Nat.add_sub_cancel_left, Nat.sub_self, Nat.le_refl, Nat.le_add_right, List.replicate_one, List.flatten_cons, List.flatten_nil, rep_flat, XX, Nat.reduceBEq, Nat.reduceLT, Nat.reduceAdd, Nat.reduceMul, Nat.reduceSub, Nat.reduceLeDiff, Nat.reduceEqDiff, Int.reduceToNat, Int.reduceLT, Int.reduceLE, Int.reduceAdd, Int.reduceSub, Int.reduceEq, reduceIte, Nat.reduceBNe, Int.reducePow, Nat.reducePow, Int.reduceMul, Int.reduceNeg, isB_i, isB_b, isB_y, isBv_i, isBv_b, eqCells_t, TT]
        refine call_is (number4_spec H5 w5 o5 L5 z5 B5 (m.si) (by omega) (by omega)) ?_
        rintro _ H6 ⟨w6, z6, o6, rfl, B6, k1, k2, k3⟩
        have b6 := (k2 0 (by omega) (by omega)).trans b5
        have q6 := (k2 1 (by omega) (by omega)).trans q5
        have l6 : 1 < H6.length ∧ 1 < w6 := by omega
        obtain ⟨L6, e6⟩ : ∃ L, L = L5 ++ be4 (m.si) := ⟨_, rfl⟩
        have n6 : L6.length = 24 := by rw [e6]; simp only [List.length_append, List.length_cons, List.length_nil, List.length_replicate, n5]; try omega
        rw [← e6] at B6 ⊢
        clear k1 k2 k3 b5 q5 B5 l5
        simp (maxSteps := 4000000) only [Try.results24, b6, lt_of b6, q6, lt_of q6, exid, esecs, eci, eyi, esi, egi, List.append_assoc, List.getElem?_append_left, List.getElem?_append_right, List.length_append, List.length_set, List.set_append_left, gset, List.getElem?_set_ne, Nat.add_sub_cancel_left, Nat.sub_self, Nat.le_refl, Nat.le_add_right, List.replicate_one, List.flatten_cons, List.flatten_nil, rep_flat, XX, Nat.reduceBEq, Nat.reduceLT, Nat.reduceAdd, Nat.reduceMul, Nat.reduceSub, Nat.reduceLeDiff, Nat.reduceEqDiff, Int.reduceToNat, Int.reduceLT, Int.reduceLE, Int.reduceAdd, Int.reduceSub, Int.reduceEq, reduceIte, Nat.reduceBNe, Int.reducePow, Nat.reducePow, Int.reduceMul, Int.reduceNeg, isB_i, isB_b, isB_y, isBv_i, isBv_b, eqCells_t, TT]
        refine call_is (number4_spec H6 w6 o6 L6 z6 B6 (m.gi) (by omega) (by omega)) ?_
        rintro _ H7 ⟨w7, z7, o7, rfl, B7, k1, k2, k3⟩
        have b7 := (k2 0 (by omega) (by omega)).trans b6
        have q7 := (k2 1 (by omega) (by omega)).trans q6
        have l7 : 1 < H7.length ∧ 1 < w7 := by omega
        obtain ⟨L7, e7⟩ : ∃ L, L = L6 ++ be4 (m.gi) := ⟨_, rfl⟩
        have n7 : L7.length = 28 := by rw [e7]; simp only [List.length_append, List.length_cons, List.length_nil, List.length_replicate, n6]; try omega
        rw [← e7] at B7 ⊢
        clear k1 k2 k3 b6 q6 B6 l6
        simp (maxSteps := 4000000) only [Try.results24, b7, lt_of b7, q7, lt_of q7, exid, esecs, eci, eyi, esi, egi, List.append_assoc, List.getElem?_append_left, List.getElem?_append_right, List.length_append, List.length_set, List.set_append_left, gset, List.getElem?_set_ne, Nat.add_sub_cancel_left, Nat.sub_self, Nat.le_refl, Nat.le_add_right, List.replicate_one, List.flatten_cons, List.flatten_nil, rep_flat, XX, Nat.reduceBEq, Nat.reduceLT, Nat.reduceAdd, Nat.reduceMul, Nat.reduceSub, Nat.reduceLeDiff, Nat.reduceEqDiff, Int.reduceToNat, Int.reduceLT, Int.reduceLE, Int.reduceAdd, Int.reduceSub, Int.reduceEq, reduceIte, Nat.reduceBNe, Int.reducePow, Nat.reducePow, Int.reduceMul, Int.reduceNeg, isB_i, isB_b, isB_y, isBv_i, isBv_b, eqCells_t, TT]
        refine call_is (add16_spec H7 w7 o7 L7 z7 B7 0 9 6 _ m.mac.l b7 (by omega) (fun i hi => by match i, hi with | 0, _ => rfl | 1, _ => rfl | 2, _ => rfl | 3, _ => rfl | 4, _ => rfl | 5, _ => rfl) (by simp) 16 (by rw [n7]; first | omega | (simp only [List.length_cons, List.length_nil]; omega))) ?_
        rintro _ H8 ⟨w8, z8, o8, rfl, B8, k1, k2, k3⟩
        have b8 := (k2 0 (by omega) (by omega)).trans b7
        have q8 := (k2 1 (by omega) (by omega)).trans q7
        have l8 : 1 < H8.length ∧ 1 < w8 := by omega
        obtain ⟨L8, e8⟩ : ∃ L, L = L7 ++ (m.mac.l ++ List.replicate (16 - m.mac.l.length) 0) := ⟨_, rfl⟩
        have n8 : L8.length = 44 := by rw [e8]; simp only [List.length_append, List.length_cons, List.length_nil, List.length_replicate, n7]; try omega
        rw [← e8] at B8 ⊢
        clear k1 k2 k3 b7 q7 B7 l7
        simp (maxSteps := 4000000) only [Try.results24, b8, lt_of b8, q8, lt_of q8, exid, esecs, eci, eyi, esi, egi, str_size, List.append_assoc, List.getElem?_append_left, List.getElem?_append_right, List.length_append, List.length_set, List.set_append_left, gset, List.getElem?_set_ne, Nat.add_sub_cancel_left, Nat.sub_self, Nat.le_refl, Nat.le_add_right, List.replicate_one, List.flatten_cons, List.flatten_nil, rep_flat, XX, Nat.reduceBEq, Nat.reduceLT, Nat.reduceAdd, Nat.reduceMul, Nat.reduceSub, Nat.reduceLeDiff, Nat.reduceEqDiff, Int.reduceToNat, Int.reduceLT, Int.reduceLE, Int.reduceAdd, Int.reduceSub, Int.reduceEq, reduceIte, Nat.reduceBNe, Int.reducePow, Nat.reducePow, Int.reduceMul, Int.reduceNeg, isB_i, isB_b, isB_y, isBv_i, isBv_b, eqCells_t, TT]
        refine ⟨by unfold maxLen; omega, fun c hc1 hc2 => ?_⟩
        obtain ⟨j, rfl⟩ := Nat.exists_eq_add_of_le hc1
        have hz : List.map byteC m.sname ++ List.replicate j (SC.v (.int .u8 0)) = bsC (m.sname ++ List.replicate j 0) := by rw [bsC_zeros, bs_app]
        simp (maxSteps := 4000000) only [Try.results24, b8, q8, str_size, hz, List.length_append, List.length_cons, List.length_nil, XX, Nat.reduceBEq, Nat.reduceLT, Nat.reduceAdd, Nat.reduceMul, Nat.reduceSub, Nat.reduceLeDiff, Nat.reduceEqDiff, Int.reduceToNat, Int.reduceLT, Int.reduceLE, Int.reduceAdd, Int.reduceSub, Int.reduceEq, reduceIte, Nat.reduceBNe, Int.reducePow, Nat.reducePow, Int.reduceMul, Int.reduceNeg, isB_i, isB_b, isB_y, isBv_i, isBv_b, eqCells_t, TT]
        have lw8 := lt_of B8.at_
        refine gen_call16 (fun H => Buf H w8 o8 L8 z8 ∧ H[0]? = some ⟨true, 29, boC m (roO xs sp c0)⟩ ∧ H[1]? = some (wB op (o ++ zp)) ∧ H[H8.length]? = some (wB true (m.sname ++ List.replicate j 0)) ∧ H8.length < H.length) ⟨B8.app, (List.getElem?_append_left (by omega)).trans b8, (List.getElem?_append_left (by omega)).trans q8, by rw [List.getElem?_append_right (Nat.le_refl _), Nat.sub_self, Nat.add_sub_cancel_left]; exact congrArg (fun l => some (SB.mk true 5 l)) hz, by simp⟩ ?_
        rintro H9 ⟨B9, b9, q9, s9, g9⟩
        have l9 : 1 < H9.length ∧ 1 < w8 := by omega
        generalize H8.length = c8 at *
        obtain ⟨L9, e9⟩ : ∃ L, L = L8 := ⟨_, rfl⟩
        obtain ⟨w9, ew9⟩ : ∃ L, L = w8 := ⟨_, rfl⟩
        obtain ⟨z9, ez9⟩ : ∃ L, L = z8 := ⟨_, rfl⟩
        obtain ⟨o9, eo9⟩ : ∃ L, L = o8 := ⟨_, rfl⟩
        have n9 := n8
        rw [← e9] at n9
        rw [← e9, ← ez9, ← ew9, ← eo9] at B9
        rw [← ew9] at l9 lw8
        rw [← e9, ← ez9, ← ew9]
        clear B8 b8 q8 l8
        refine call_is (add16_spec H9 w9 o9 L9 z9 B9 c8 0 _ _ m.sname s9 (by omega) (fun i hi => by rw [Nat.zero_add]; exact bs_get hi) (by simp) 64 (by rw [n9]; first | omega | (simp only [List.length_cons, List.length_nil]; omega))) ?_
        rintro _ H10 ⟨w10, z10, o10, rfl, B10, k1, k2, k3⟩
        have b10 := (k2 0 (by omega) (by omega)).trans b9
        have q10 := (k2 1 (by omega) (by omega)).trans q9
        have l10 : 1 < H10.length ∧ 1 < w10 := by omega
        obtain ⟨L10, e10⟩ : ∃ L, L = L9 ++ (m.sname ++ List.replicate (64 - m.sname.length) 0) := ⟨_, rfl⟩
        have n10 : L10.length = 108 := by rw [e10]; simp only [List.length_append, List.length_cons, List.length_nil, List.length_replicate, n9]; try omega
        rw [← e10] at B10 ⊢
        clear k1 k2 k3 b9 q9 B9 l9
        simp (maxSteps := 4000000) only [Try.results24, b10, lt_of b10, q10, lt_of q10, exid, esecs, eci, eyi, esi, egi, str_size, List.append_assoc, List.getElem?_append_left, List.getElem?_append_right, List.length_append, List.length_set, List.set_append_left, gset, List.getElem?_set_ne, Nat.add_sub_cancel_left, Nat.sub_self, Nat.le_refl, Nat.le_add_right, List.replicate_one, List.flatten_cons, List.flatten_nil, rep_flat, XX, Nat.reduceBEq, Nat.reduceLT, Nat.reduceAdd, Nat.reduceMul, Nat.reduceSub, Nat.reduceLeDiff, Nat.reduceEqDiff, Int.reduceToNat, Int.reduceLT, Int.reduceLE, Int.reduceAdd, Int.reduceSub, Int.reduceEq, reduceIte, Nat.reduceBNe, Int.reducePow, Nat.reducePow, Int.reduceMul, Int.reduceNeg, isB_i, isB_b, isB_y, isBv_i, isBv_b, eqCells_t, TT]
        refine ⟨by unfold maxLen; omega, fun c hc1 hc2 => ?_⟩
        obtain ⟨j, rfl⟩ := Nat.exists_eq_add_of_le hc1
        have hz : List.map byteC m.file ++ List.replicate j (SC.v (.int .u8 0)) = bsC (m.file ++ List.replicate j 0) := by rw [bsC_zeros, bs_app]
        simp (maxSteps := 4000000) only [Try.results24, b10, q10, str_size, hz, List.length_append, List.length_cons, List.length_nil, XX, Nat.reduceBEq, Nat.reduceLT, Nat.reduceAdd, Nat.reduceMul, Nat.reduceSub, Nat.reduceLeDiff, Nat.reduceEqDiff, Int.reduceToNat, Int.reduceLT, Int.reduceLE, Int.reduceAdd, Int.reduceSub, Int.reduceEq, reduceIte, Nat.reduceBNe, Int.reducePow, Nat.reducePow, Int.reduceMul, Int.reduceNeg, isB_i, isB_b, isB_y, isBv_i, isBv_b, eqCells_t, TT]
        have lw10 := lt_of B10.at_
        refine gen_call16 (fun H => Buf H w10 o10 L10 z10 ∧ H[0]? = some ⟨true, 29, boC m (roO xs sp c0)⟩ ∧ H[1]? = some (wB op (o ++ zp)) ∧ H[H10.length]? = some (wB true (m.file ++ List.replicate j 0)) ∧ H10.length < H.length) ⟨B10.app, (List.getElem?_append_left (by omega)).trans b10, (List.getElem?_append_left (by omega)).trans q10, by rw [List.getElem?_append_right (Nat.le_refl _), Nat.sub_self, Nat.add_sub_cancel_left]; exact congrArg (fun l => some (SB.mk true 5 l)) hz, by simp⟩ ?_
        rintro H11 ⟨B11, b11, q11, s11, g11⟩
        have l11 : 1 < H11.length ∧ 1 < w10 := by omega
        generalize H10.length = c10 at *
        obtain ⟨L11, e11⟩ : ∃ L, L = L10 := ⟨_, rfl⟩
        obtain ⟨w11, ew11⟩ : ∃ L, L = w10 := ⟨_, rfl⟩
        obtain ⟨z11, ez11⟩ : ∃ L, L = z10 := ⟨_, rfl⟩
        obtain ⟨o11, eo11⟩ : ∃ L, L = o10 := ⟨_, rfl⟩
        have n11 := n10
        rw [← e11] at n11
        rw [← e11, ← ez11, ← ew11, ← eo11] at B11
        rw [← ew11] at l11 lw10
        rw [← e11, ← ez11, ← ew11]
        clear B10 b10 q10 l10
        refine call_is (add16_spec H11 w11 o11 L11 z11 B11 c10 0 _ _ m.file s11 (by omega) (fun i hi => by rw [Nat.zero_add]; exact bs_get hi) (by simp) 128 (by rw [n11]; first | omega | (simp only [List.length_cons, List.length_nil]; omega))) ?_
        rintro _ H12 ⟨w12, z12, o12, rfl, B12, k1, k2, k3⟩
        have b12 := (k2 0 (by omega) (by omega)).trans b11
        have q12 := (k2 1 (by omega) (by omega)).trans q11
        have l12 : 1 < H12.length ∧ 1 < w12 := by omega
        obtain ⟨L12, e12⟩ : ∃ L, L = L11 ++ (m.file ++ List.replicate (128 - m.file.length) 0) := ⟨_, rfl⟩
        have n12 : L12.length = 236 := by rw [e12]; simp only [List.length_append, List.length_cons, List.length_nil, List.length_replicate, n11]; try omega
        rw [← e12] at B12 ⊢
        clear k1 k2 k3 b11 q11 B11 l11
        simp (maxSteps := 4000000) only [Try.results24, b12, lt_of b12, q12, lt_of q12, exid, esecs, eci, eyi, esi, egi, B12.at_, lt_of B12.at_, List.flatten_cons, List.flatten_nil, List.cons_append, List.nil_append, List.append_nil, List.replicate_succ, List.replicate_zero, List.drop_succ_cons, List.drop_zero, List.length_cons, List.length_nil, Nat.reduceAdd, Nat.reduceLeDiff, reduceIte, List.append_assoc, List.getElem?_append_left, List.getElem?_append_right, List.length_append, List.length_set, List.set_append_left, gset, List.getElem?_set_ne, Nat.add_sub_cancel_left, Nat.sub_self, Nat.le_refl, Nat.le_add_right, List.replicate_one, List.flatten_cons, List.flatten_nil, rep_flat, XX, Nat.reduceBEq, Nat.reduceLT, Nat.reduceAdd, Nat.reduceMul, Nat.reduceSub, Nat.reduceLeDiff, Nat.reduceEqDiff, Int.reduceToNat, Int.reduceLT, Int.reduceLE, Int.reduceAdd, Int.reduceSub, Int.reduceEq, reduceIte, Nat.reduceBNe, Int.reducePow, Nat.reducePow, Int.reduceMul, Int.reduceNeg, isB_i, isB_b, isB_y, isBv_i, isBv_b, eqCells_t, TT]
        refine ⟨⟨by omega, by unfold maxLen; omega, by simp, fun h => ⟨B12.own (by omega), by simp; omega⟩⟩, xapp_more (news := [99, 130, 83, 99]) B12 rfl rfl rfl rfl (by omega) fun H13 w13 z13 B13 k1 k2 k3 => ?_⟩
        have b13 := (k2 0 (by omega) (by omega)).trans b12
        have q13 := (k2 1 (by omega) (by omega)).trans q12
        have l13 : 1 < H13.length ∧ 1 < w13 := by omega
        obtain ⟨L13, e13⟩ : ∃ L, L = L12 ++ [99, 130, 83, 99] := ⟨_, rfl⟩
        have n13 : L13.length = 240 := by rw [e13]; simp only [List.length_append, List.length_cons, List.length_nil, n12]
        rw [← e13] at B13 ⊢
        clear k1 k2 k3 b12 q12 B12 l12
        simp (maxSteps := 4000000) only [Try.results24, b13, lt_of b13, q13, lt_of q13, exid, esecs, eci, eyi, esi, egi, List.append_assoc, List.getElem?_append_left, List.getElem?_append_right, List.length_append, List.length_set, List.set_append_left, gset, List.getElem?_set_ne, Nat.add_sub_cancel_left, Nat.sub_self, Nat.le_refl, Nat.le_add_right, List.replicate_one, List.flatten_cons, List.flatten_nil, rep_flat, XX, Nat.reduceBEq, Nat.reduceLT, Nat.reduceAdd, Nat.reduceMul, Nat.reduceSub, Nat.reduceLeDiff, Nat.reduceEqDiff, Int.reduceToNat, Int.reduceLT, Int.reduceLE, Int.reduceAdd, Int.reduceSub, Int.reduceEq, reduceIte, Nat.reduceBNe, Int.reducePow, Nat.reducePow, Int.reduceMul, Int.reduceNeg, isB_i, isB_b, isB_y, isBv_i, isBv_b, eqCells_t, TT]
        refine call_is (add16_spec H13 w13 true L13 z13 B13 1 0 _ _ o q13 (by omega) (fun i hi => by rw [Nat.zero_add]; exact bs_get hi) (by simp) 60 (by rw [n13]; first | omega | (simp only [List.length_cons, List.length_nil]; omega))) ?_
        rintro _ H14 ⟨w14, z14, o14, rfl, B14, k1, k2, k3⟩
        have b14 := (k2 0 (by omega) (by omega)).trans b13
        have l14 : 1 < H14.length ∧ 1 < w14 := by omega
        obtain ⟨L14, e14⟩ : ∃ L, L = L13 ++ (o ++ List.replicate (60 - o.length) 0) := ⟨_, rfl⟩
        have n14 : L14.length = 240 + (o.length + (60 - o.length)) := by rw [e14]; simp only [List.length_append, List.length_cons, List.length_nil, List.length_replicate, n13]; try omega
        rw [← e14] at B14 ⊢
        clear k1 k2 k3 b13 q13 B13 l13
        simp (maxSteps := 4000000) only [Try.results24, XX, Nat.reduceBEq, Nat.reduceLT, Nat.reduceAdd, Nat.reduceMul, Nat.reduceSub, Nat.reduceLeDiff, Nat.reduceEqDiff, Int.reduceToNat, Int.reduceLT, Int.reduceLE, Int.reduceAdd, Int.reduceSub, Int.reduceEq, reduceIte, Nat.reduceBNe, Int.reducePow, Nat.reducePow, Int.reduceMul, Int.reduceNeg, isB_i, isB_b, isB_y, isBv_i, isBv_b, eqCells_t, TT]
        have henc : encB m o = L14 := by
          rw [e14, e13, e12, e11, e10, e9, e8, e7, e6, e5, e4, e3, e2, e1, e0]
          unfold encB flagB
          rw [hA]
          rfl
        rw [henc]
        exact ⟨w14, z14, o14, rfl, B14⟩
      | false =>
        refine call_is (number4_spec H0 2 true L0 [] B0 (m.xid) (by omega) (by omega)) ?_
        rintro _ H1 ⟨w1, z1, o1, rfl, B1, k1, k2, k3⟩
        have b1 := (k2 0 (by omega) (by omega)).trans b0
        have q1 := (k2 1 (by omega) (by omega)).trans q0
        have l1 : 1 < H1.length ∧ 1 < w1 := by omega
        obtain ⟨L1, e1⟩ : ∃ L, L = L0 ++ be4 (m.xid) := ⟨_, rfl⟩
        have n1 : L1.length = 8 := by rw [e1]; simp only [List.length_append, List.length_cons, List.length_nil, List.length_replicate, n0]; try omega
        rw [← e1] at B1 ⊢
        clear k1 k2 k3 b0 q0 B0 l0
        simp (maxSteps := 4000000) only [Try.results24, b1, lt_of b1, q1, lt_of q1, exid, esecs, eci, eyi, esi, egi, List.append_assoc, List.getElem?_append_left, List.getElem?_append_right, List.length_append, List.length_set, List.set_append_left, gset, List.getElem?_set_ne, Nat.add_sub_cancel_left, Nat.sub_self, Nat.le_refl, Nat.le_add_right, List.replicate_one, List.flatten_cons, List.flatten_nil, rep_flat, XX, Nat.reduceBEq, Nat.reduceLT, Nat.reduceAdd, Nat.reduceMul, Nat.reduceSub, Nat.reduceLeDiff, Nat.reduceEqDiff, Int.reduceToNat, Int.reduceLT, Int.reduceLE, Int.reduceAdd, Int.reduceSub, Int.reduceEq, reduceIte, Nat.reduceBNe, Int.reducePow, Nat.reducePow, Int.reduceMul, Int.reduceNeg, isB_i, isB_b, isB_y, isBv_i, isBv_b, eqCells_t, TT]
        refine call_is (number2_spec H1 w1 o1 L1 z1 B1 (m.secs.toNat) (by omega) (by omega)) ?_
        rintro _ H2 ⟨w2, z2, o2, rfl, B2, k1, k2, k3⟩
        have b2 := (k2 0 (by omega) (by omega)).trans b1
        have q2 := (k2 1 (by omega) (by omega)).trans q1
        have l2 : 1 < H2.length ∧ 1 < w2 := by omega
        obtain ⟨L2, e2⟩ : ∃ L, L = L1 ++ be2 (m.secs.toNat) := ⟨_, rfl⟩
        have n2 : L2.length = 10 := by rw [e2]; simp only [List.length_append, List.length_cons, List.length_nil, List.length_replicate, n1]; try omega
        rw [← e2] at B2 ⊢
        clear k1 k2 k3 b1 q1 B1 l1
        simp (maxSteps := 4000000) only [Try.results24, b2, lt_of b2, q2, lt_of q2, exid, esecs, eci, eyi, esi, egi, hA, B2.at_, lt_of B2.at_, List.flatten_cons, List.flatten_nil, List.cons_append, List.nil_append, List.append_nil, List.replicate_succ, List.replicate_zero, List.drop_succ_cons, List.drop_zero, List.length_cons, List.length_nil, Nat.reduceAdd, Nat.reduceLeDiff, reduceIte, List.append_assoc, List.getElem?_append_left, List.getElem?_append_right, List.length_append, List.length_set, List.set_append_left, gset, List.getElem?_set_ne, Nat.add_sub_cancel_left, Nat.sub_self, Nat.le_refl, Nat.le_add_right, List.replicate_one, List.flatten_cons, List.flatten_nil, rep_flat, XX, Nat.reduceBEq, Nat.reduceLT, Nat.reduceAdd, Nat.reduceMul, Nat.reduceSub, Nat.reduceLeDiff, Nat.reduceEqDiff, Int.reduceToNat, Int.reduceLT, Int.reduceLE, Int.reduceAdd, Int.reduceSub, Int.reduceEq, reduceIte, Nat.reduceBNe, Int.reducePow, Nat.reducePow, Int.reduceMul, Int.reduceNeg, isB_i, isB_b, isB_y, isBv_i, isBv_b, eqCells_t, TT]
        refine ⟨⟨by omega, by unfold maxLen; omega, by simp, fun h => ⟨B2.own (by omega), by simp; omega⟩⟩, xapp_more (news := [0, 0]) B2 rfl rfl rfl rfl (by omega) fun H3 w3 z3 B3 k1 k2 k3 => ?_⟩
        have b3 := (k2 0 (by omega) (by omega)).trans b2
        have q3 := (k2 1 (by omega) (by omega)).trans q2
        have l3 : 1 < H3.length ∧ 1 < w3 := by omega
        obtain ⟨L3, e3⟩ : ∃ L, L = L2 ++ [0, 0] := ⟨_, rfl⟩
        have n3 : L3.length = 12 := by rw [e3]; simp only [List.length_append, List.length_cons, List.length_nil, n2]
        rw [← e3] at B3 ⊢
        clear k1 k2 k3 b2 q2 B2 l2
        simp (maxSteps := 4000000) only [Try.results24, b3, lt_of b3, q3, lt_of q3, exid, esecs, eci, eyi, esi, egi, List.append_assoc, List.getElem?_append_left, List.getElem?_append_right, List.length_append, List.length_set, List.set_append_left, gset, List.getElem?_set_ne, Nat.add_sub_cancel_left, Nat.sub_self, Nat.le_refl, Nat.le_add_right, List.replicate_one, List.flatten_cons, List.flatten_nil, rep_flat, XX, Nat.reduceBEq, Nat.reduceLT, Nat.reduceAdd, Nat.reduceMul, Nat.reduceSub, Nat.reduceLeDiff, Nat.reduceEqDiff, Int.reduceToNat, Int.reduceLT, Int.reduceLE, Int.reduceAdd, Int.reduceSub, Int.reduceEq, reduceIte, Nat.reduceBNe, Int.reducePow, Nat.reducePow, Int.reduceMul, Int.reduceNeg, isB_i, isB_b, isB_y, isBv_i, isBv_b, eqCells_t, TT]
        refine call_is (number4_spec H3 w3 true L3 z3 B3 (m.ci) (by omega) (by omega)) ?_
        rintro _ H4 ⟨w4, z4, o4, rfl, B4, k1, k2, k3⟩
        have b4 := (k2 0 (by omega) (by omega)).trans b3
        have q4 := (k2 1 (by omega) (by omega)).trans q3
        have l4 : 1 < H4.length ∧ 1 < w4 := by omega
        obtain ⟨L4, e4⟩ : ∃ L, L = L3 ++ be4 (m.ci) := ⟨_, rfl⟩
        have n4 : L4.length = 16 := by rw [e4]; simp only [List.length_append, List.length_cons, List.length_nil, List.length_replicate, n3]; try omega
        rw [← e4] at B4 ⊢
        clear k1 k2 k3 b3 q3 B3 l3
        simp (maxSteps := 4000000) only [Try.results24, b4, lt_of b4, q4, lt_of q4, exid, esecs, eci, eyi, esi, egi, List.append_assoc, List.getElem?_append_left, List.getElem?_append_right, List.length_append, List.length_set, List.set_append_left, gset, List.getElem?_set_ne, Nat.add_sub_cancel_left, Nat.sub_self, Nat.le_refl, Nat.le_add_right, List.replicate_one, List.flatten_cons, List.flatten_nil, rep_flat, XX, Nat.reduceBEq, Nat.reduceLT, Nat.reduceAdd, Nat.reduceMul, Nat.reduceSub, Nat.reduceLeDiff, Nat.reduceEqDiff, Int.reduceToNat, Int.reduceLT, Int.reduceLE, Int.reduceAdd, Int.reduceSub, Int.reduceEq, reduceIte, Nat.reduceBNe, Int.reducePow, Nat.reducePow, Int.reduceMul, Int.reduceNeg, isB_i, isB_b, isB_y, isBv_i, isBv_b, eqCells_t, TT]
        refine call_is (number4_spec H4 w4 o4 L4 z4 B4 (m.yi) (by omega) (by omega)) ?_
        rintro _ H5 ⟨w5, z5, o5, rfl, B5, k1, k2, k3⟩
        have b5 := (k2 0 (by omega) (by omega)).trans b4
        have q5 := (k2 1 (by omega) (by omega)).trans q4
        have l5 : 1 < H5.length ∧ 1 < w5 := by omega
        obtain ⟨L5, e5⟩ : ∃ L, L = L4 ++ be4 (m.yi) := ⟨_, rfl⟩
        have n5 : L5.length = 20 := by rw [e5]; simp only [List.length_append, List.length_cons, List.length_nil, List.length_replicate, n4]; try omega
        rw [← e5] at B5 ⊢
        clear k1 k2 k3 b4 q4 B4 l4
        simp (maxSteps := 4000000) only [Try.results24, b5, lt_of b5, q5, lt_of q5, exid, esecs, eci, eyi, esi, egi, List.append_assoc, List.getElem?_append_left, List.getElem?_append_right, List.length_append, List.length_set, List.set_append_left, gset, List.getElem?_set_ne, Nat.add_sub_cancel_left, Nat.sub_self, Nat.le_refl, Nat.le_add_right, List.replicate_one, List.flatten_cons, List.flatten_nil, rep_flat, XX, Nat.reduceBEq, Nat.reduceLT, Nat.reduceAdd, Nat.reduceMul, Nat.reduceSub, Nat.reduceLeDiff, Nat.reduceEqDiff, Int.reduceToNat, Int.reduceLT, Int.reduceLE, Int.reduceAdd, Int.reduceSub, Int.reduceEq, reduceIte, Nat.reduceBNe, Int.reducePow, Nat.reducePow, Int.reduceMul, Int.reduceNeg, isB_i, isB_b, isB_y, isBv_i, isBv_b, eqCells_t, TT]
        refine call_is (number4_spec H5 w5 o5 L5 z5 B5 (m.si) (by omega) (by omega)) ?_
        rintro _ H6 ⟨w6, z6, o6, rfl, B6, k1, k2, k3⟩
        have b6 := (k2 0 (by omega) (by omega)).trans b5
        have q6 := (k2 1 (by omega) (by omega)).trans q5
        have l6 : 1 < H6.length ∧ 1 < w6 := by omega
        obtain ⟨L6, e6⟩ : ∃ L, L = L5 ++ be4 (m.si) := ⟨_, rfl⟩
        have n6 : L6.length = 24 := by rw [e6]; simp only [List.length_append, List.length_cons, List.length_nil, List.length_replicate, n5]; try omega
        rw [← e6] at B6 ⊢
        clear k1 k2 k3 b5 q5 B5 l5
        simp (maxSteps := 4000000) only [Try.results24, b6, lt_of b6, q6, lt_of q6, exid, esecs, eci, eyi, esi, egi, List.append_assoc, List.getElem?_append_left, List.getElem?_append_right, List.length_append, List.length_set, List.set_append_left, gset, List.getElem?_set_ne, Nat.add_sub_cancel_left, Nat.sub_self, Nat.le_refl, Nat.le_add_right, List.replicate_one, List.flatten_cons, List.flatten_nil, rep_flat, XX, Nat.reduceBEq, Nat.reduceLT, Nat.reduceAdd, Nat.reduceMul, Nat.reduceSub, Nat.reduceLeDiff, Nat.reduceEqDiff, Int.reduceToNat, Int.reduceLT, Int.reduceLE, Int.reduceAdd, Int.reduceSub, Int.reduceEq, reduceIte, Nat.reduceBNe, Int.reducePow, Nat.reducePow, Int.reduceMul, Int.reduceNeg, isB_i, isB_b, isB_y, isBv_i, isBv_b, eqCells_t, TT]
        refine call_is (number4_spec H6 w6 o6 L6 z6 B6 (m.gi) (by omega) (by omega)) ?_
        rintro _ H7 ⟨w7, z7, o7, rfl, B7, k1, k2, k3⟩
        have b7 := (k2 0 (by omega) (by omega)).trans b6
        have q7 := (k2 1 (by omega) (by omega)).trans q6
        have l7 : 1 < H7.length ∧ 1 < w7 := by omega
        obtain ⟨L7, e7⟩ : ∃ L, L = L6 ++ be4 (m.gi) := ⟨_, rfl⟩
        have n7 : L7.length = 28 := by rw [e7]; simp only [List.length_append, List.length_cons, List.length_nil, List.length_replicate, n6]; try omega
        rw [← e7] at B7 ⊢
        clear k1 k2 k3 b6 q6 B6 l6
        simp (maxSteps := 4000000) only [Try.results24, b7, lt_of b7, q7, lt_of q7, exid, esecs, eci, eyi, esi, egi, List.append_assoc, List.getElem?_append_left, List.getElem?_append_right, List.length_append, List.length_set, List.set_append_left, gset, List.getElem?_set_ne, Nat.add_sub_cancel_left, Nat.sub_self, Nat.le_refl, Nat.le_add_right, List.replicate_one, List.flatten_cons, List.flatten_nil, rep_flat, XX, Nat.reduceBEq, Nat.reduceLT, Nat.reduceAdd, Nat.reduceMul, Nat.reduceSub, Nat.reduceLeDiff, Nat.reduceEqDiff, Int.reduceToNat, Int.reduceLT, Int.reduceLE, Int.reduceAdd, Int.reduceSub, Int.reduceEq, reduceIte, Nat.reduceBNe, Int.reducePow, Nat.reducePow, Int.reduceMul, Int.reduceNeg, isB_i, isB_b, isB_y, isBv_i, isBv_b, eqCells_t, TT]
        refine call_is (add16_spec H7 w7 o7 L7 z7 B7 0 9 6 _ m.mac.l b7 (by omega) (fun i hi => by match i, hi with | 0, _ => rfl | 1, _ => rfl | 2, _ => rfl | 3, _ => rfl | 4, _ => rfl | 5, _ => rfl) (by simp) 16 (by rw [n7]; first | omega | (simp only [List.length_cons, List.length_nil]; omega))) ?_
        rintro _ H8 ⟨w8, z8, o8, rfl, B8, k1, k2, k3⟩
        have b8 := (k2 0 (by omega) (by omega)).trans b7
        have q8 := (k2 1 (by omega) (by omega)).trans q7
        have l8 : 1 < H8.length ∧ 1 < w8 := by omega
        obtain ⟨L8, e8⟩ : ∃ L, L = L7 ++ (m.mac.l ++ List.replicate (16 - m.mac.l.length) 0) := ⟨_, rfl⟩
        have n8 : L8.length = 44 := by rw [e8]; simp only [List.length_append, List.length_cons, List.length_nil, List.length_replicate, n7]; try omega
        rw [← e8] at B8 ⊢
        clear k1 k2 k3 b7 q7 B7 l7
        simp (maxSteps := 4000000) only [Try.results24, b8, lt_of b8, q8, lt_of q8, exid, esecs, eci, eyi, esi, egi, str_size, List.append_assoc, List.getElem?_append_left, List.getElem?_append_right, List.length_append, List.length_set, List.set_append_left, gset, List.getElem?_set_ne, Nat.add_sub_cancel_left, Nat.sub_self, Nat.le_refl, Nat.le_add_right, List.replicate_one, List.flatten_cons, List.flatten_nil, rep_flat, XX, Nat.reduceBEq, Nat.reduceLT, Nat.reduceAdd, Nat.reduceMul, Nat.reduceSub, Nat.reduceLeDiff, Nat.reduceEqDiff, Int.reduceToNat, Int.reduceLT, Int.reduceLE, Int.reduceAdd, Int.reduceSub, Int.reduceEq, reduceIte, Nat.reduceBNe, Int.reducePow, Nat.reducePow, Int.reduceMul, Int.reduceNeg, isB_i, isB_b, isB_y, isBv_i, isBv_b, eqCells_t, TT]
        refine ⟨by unfold maxLen; omega, fun c hc1 hc2 => ?_⟩
        obtain ⟨j, rfl⟩ := Nat.exists_eq_add_of_le hc1
        have hz : List.map byteC m.sname ++ List.replicate j (SC.v (.int .u8 0)) = bsC (m.sname ++ List.replicate j 0) := by rw [bsC_zeros, bs_app]
        simp (maxSteps := 4000000) only [Try.results24, b8, q8, str_size, hz, List.length_append, List.length_cons, List.length_nil, XX, Nat.reduceBEq, Nat.reduceLT, Nat.reduceAdd, Nat.reduceMul, Nat.reduceSub, Nat.reduceLeDiff, Nat.reduceEqDiff, Int.reduceToNat, Int.reduceLT, Int.reduceLE, Int.reduceAdd, Int.reduceSub, Int.reduceEq, reduceIte, Nat.reduceBNe, Int.reducePow, Nat.reducePow, Int.reduceMul, Int.reduceNeg, isB_i, isB_b, isB_y, isBv_i, isBv_b, eqCells_t, TT]
        have lw8 := lt_of B8.at_
        refine gen_call16 (fun H => Buf H w8 o8 L8 z8 ∧ H[0]? = some ⟨true, 29, boC m (roO xs sp c0)⟩ ∧ H[1]? = some (wB op (o ++ zp)) ∧ H[H8.length]? = some (wB true (m.sname ++ List.replicate j 0)) ∧ H8.length < H.length) ⟨B8.app, (List.getElem?_append_left (by omega)).trans b8, (List.getElem?_append_left (by omega)).trans q8, by rw [List.getElem?_append_right (Nat.le_refl _), Nat.sub_self, Nat.add_sub_cancel_left]; exact congrArg (fun l => some (SB.mk true 5 l)) hz, by simp⟩ ?_
        rintro H9 ⟨B9, b9, q9, s9, g9⟩
        have l9 : 1 < H9.length ∧ 1 < w8 := by omega
        generalize H8.length = c8 at *
        obtain ⟨L9, e9⟩ : ∃ L, L = L8 := ⟨_, rfl⟩
        obtain ⟨w9, ew9⟩ : ∃ L, L = w8 := ⟨_, rfl⟩
        obtain ⟨z9, ez9⟩ : ∃ L, L = z8 := ⟨_, rfl⟩
        obtain ⟨o9, eo9⟩ : ∃ L, L = o8 := ⟨_, rfl⟩
        have n9 := n8
        rw [← e9] at n9
        rw [← e9, ← ez9, ← ew9, ← eo9] at B9
        rw [← ew9] at l9 lw8
        rw [← e9, ← ez9, ← ew9]
        clear B8 b8 q8 l8
        refine call_is (add16_spec H9 w9 o9 L9 z9 B9 c8 0 _ _ m.sname s9 (by omega) (fun i hi => by rw [Nat.zero_add]; exact bs_get hi) (by simp) 64 (by rw [n9]; first | omega | (simp only [List.length_cons, List.length_nil]; omega))) ?_
        rintro _ H10 ⟨w10, z10, o10, rfl, B10, k1, k2, k3⟩
        have b10 := (k2 0 (by omega) (by omega)).trans b9
        have q10 := (k2 1 (by omega) (by omega)).trans q9
        have l10 : 1 < H10.length ∧ 1 < w10 := by omega
        obtain ⟨L10, e10⟩ : ∃ L, L = L9 ++ (m.sname ++ List.replicate (64 - m.sname.length) 0) := ⟨_, rfl⟩
        have n10 : L10.length = 108 := by rw [e10]; simp only [List.length_append, List.length_cons, List.length_nil, List.length_replicate, n9]; try omega
        rw [← e10] at B10 ⊢
        clear k1 k2 k3 b9 q9 B9 l9
        simp (maxSteps := 4000000) only [Try.results24, b10, lt_of b10, q10, lt_of q10, exid, esecs, eci, eyi, esi, egi, str_size, List.append_assoc, List.getElem?_append_left, List.getElem?_append_right, List.length_append, List.length_set, List.set_append_left, gset, List.getElem?_set_ne, Nat.add_sub_cancel_left, Nat.sub_self, Nat.le_refl, Nat.le_add_right, List.replicate_one, List.flatten_cons, List.flatten_nil, rep_flat, XX, Nat.reduceBEq, Nat.reduceLT, Nat.reduceAdd, Nat.reduceMul, Nat.reduceSub, Nat.reduceLeDiff, Nat.reduceEqDiff, Int.reduceToNat, Int.reduceLT, Int.reduceLE, Int.reduceAdd, Int.reduceSub, Int.reduceEq, reduceIte, Nat.reduceBNe, Int.reducePow, Nat.reducePow, Int.reduceMul, Int.reduceNeg, isB_i, isB_b, isB_y, isBv_i, isBv_b, eqCells_t, TT]
        refine ⟨by unfold maxLen; omega, fun c hc1 hc2 => ?_⟩
        obtain ⟨j, rfl⟩ := Nat.exists_eq_add_of_le hc1
        have hz : List.map byteC m.file ++ List.replicate j (SC.v (.int .u8 0)) = bsC (m.file ++ List.replicate j 0) := by rw [bsC_zeros, bs_app]
        simp (maxSteps := 4000000) only [Try.results24, b10, q10, str_size, hz, List.length_append, List.length_cons, List.length_nil, XX, Nat.reduceBEq, Nat.reduceLT, Nat.reduceAdd, Nat.reduceMul, Nat.reduceSub, Nat.reduceLeDiff, Nat.reduceEqDiff, Int.reduceToNat, Int.reduceLT, Int.reduceLE, Int.reduceAdd, Int.reduceSub, Int.reduceEq, reduceIte, Nat.reduceBNe, Int.reducePow, Nat.reducePow, Int.reduceMul, Int.reduceNeg, isB_i, isB_b, isB_y, isBv_i, isBv_b, eqCells_t, TT]
        have lw10 := lt_of B10.at_
        refine gen_call16 (fun H => Buf H w10 o10 L10 z10 ∧ H[0]? = some ⟨true, 29, boC m (roO xs sp c0)⟩ ∧ H[1]? = some (wB op (o ++ zp)) ∧ H[H10.length]? = some (wB true (m.file ++ List.replicate j 0)) ∧ H10.length < H.length) ⟨B10.app, (List.getElem?_append_left (by omega)).trans b10, (List.getElem?_append_left (by omega)).trans q10, by rw [List.getElem?_append_right (Nat.le_refl _), Nat.sub_self, Nat.add_sub_cancel_left]; exact congrArg (fun l => some (SB.mk true 5 l)) hz, by simp⟩ ?_
        rintro H11 ⟨B11, b11, q11, s11, g11⟩
        have l11 : 1 < H11.length ∧ 1 < w10 := by omega
        generalize H10.length = c10 at *
        obtain ⟨L11, e11⟩ : ∃ L, L = L10 := ⟨_, rfl⟩
        obtain ⟨w11, ew11⟩ : ∃ L, L = w10 := ⟨_, rfl⟩
        obtain ⟨z11, ez11⟩ : ∃ L, L = z10 := ⟨_, rfl⟩
        obtain ⟨o11, eo11⟩ : ∃ L, L = o10 := ⟨_, rfl⟩
        have n11 := n10
        rw [← e11] at n11
        rw [← e11, ← ez11, ← ew11, ← eo11] at B11
        rw [← ew11] at l11 lw10
        rw [← e11, ← ez11, ← ew11]
        clear B10 b10 q10 l10
        refine call_is (add16_spec H11 w11 o11 L11 z11 B11 c10 0 _ _ m.file s11 (by omega) (fun i hi => by rw [Nat.zero_add]; exact bs_get hi) (by simp) 128 (by rw [n11]; first | omega | (simp only [List.length_cons, List.length_nil]; omega))) ?_
        rintro _ H12 ⟨w12, z12, o12, rfl, B12, k1, k2, k3⟩
        have b12 := (k2 0 (by omega) (by omega)).trans b11
        have q12 := (k2 1 (by omega) (by omega)).trans q11
        have l12 : 1 < H12.length ∧ 1 < w12 := by omega
        obtain ⟨L12, e12⟩ : ∃ L, L = L11 ++ (m.file ++ List.replicate (128 - m.file.length) 0) := ⟨_, rfl⟩
        have n12 : L12.length = 236 := by rw [e12]; simp only [List.length_append, List.length_cons, List.length_nil, List.length_replicate, n11]; try omega
        rw [← e12] at B12 ⊢
        clear k1 k2 k3 b11 q11 B11 l11
        simp (maxSteps := 4000000) only [Try.results24, b12, lt_of b12, q12, lt_of q12, exid, esecs, eci, eyi, esi, egi, B12.at_, lt_of B12.at_, List.flatten_cons, List.flatten_nil, List.cons_append, List.nil_append, List.append_nil, List.replicate_succ, List.replicate_zero, List.drop_succ_cons, List.drop_zero, List.length_cons, List.length_nil, Nat.reduceAdd, Nat.reduceLeDiff, reduceIte, List.append_assoc, List.getElem?_append_left, List.getElem?_append_right, List.length_append, List.length_set, List.set_append_left, gset, List.getElem?_set_ne, Nat.add_sub_cancel_left, Nat.sub_self, Nat.le_refl, Nat.le_add_right, List.replicate_one, List.flatten_cons, List.flatten_nil, rep_flat, XX, Nat.reduceBEq, Nat.reduceLT, Nat.reduceAdd, Nat.reduceMul, Nat.reduceSub, Nat.reduceLeDiff, Nat.reduceEqDiff, Int.reduceToNat, Int.reduceLT, Int.reduceLE, Int.reduceAdd, Int.reduceSub, Int.reduceEq, reduceIte, Nat.reduceBNe, Int.reducePow, Nat.reducePow, Int.reduceMul, Int.reduceNeg, isB_i, isB_b, isB_y, isBv_i, isBv_b, eqCells_t, TT]
        refine ⟨⟨by omega, by unfold maxLen; omega, by simp, fun h => ⟨B12.own (by omega), by simp; omega⟩⟩, xapp_more (news := [99, 130, 83, 99]) B12 rfl rfl rfl rfl (by omega) fun H13 w13 z13 B13 k1 k2 k3 => ?_⟩
        have b13 := (k2 0 (by omega) (by omega)).trans b12
        have q13 := (k2 1 (by omega) (by omega)).trans q12
        have l13 : 1 < H13.length ∧ 1 < w13 := by omega
        obtain ⟨L13, e13⟩ : ∃ L, L = L12 ++ [99, 130, 83, 99] := ⟨_, rfl⟩
        have n13 : L13.length = 240 := by rw [e13]; simp only [List.length_append, List.length_cons, List.length_nil, n12]
        rw [← e13] at B13 ⊢
        clear k1 k2 k3 b12 q12 B12 l12
        simp (maxSteps := 4000000) only [Try.results24, b13, lt_of b13, q13, lt_of q13, exid, esecs, eci, eyi, esi, egi, List.append_assoc, List.getElem?_append_left, List.getElem?_append_right, List.length_append, List.length_set, List.set_append_left, gset, List.getElem?_set_ne, Nat.add_sub_cancel_left, Nat.sub_self, Nat.le_refl, Nat.le_add_right, List.replicate_one, List.flatten_cons, List.flatten_nil, rep_flat, XX, Nat.reduceBEq, Nat.reduceLT, Nat.reduceAdd, Nat.reduceMul, Nat.reduceSub, Nat.reduceLeDiff, Nat.reduceEqDiff, Int.reduceToNat, Int.reduceLT, Int.reduceLE, Int.reduceAdd, Int.reduceSub, Int.reduceEq, reduceIte, Nat.reduceBNe, Int.reducePow, Nat.reducePow, Int.reduceMul, Int.reduceNeg, isB_i, isB_b, isB_y, isBv_i, isBv_b, eqCells_t, TT]
        refine call_is (add16_spec H13 w13 true L13 z13 B13 1 0 _ _ o q13 (by omega) (fun i hi => by rw [Nat.zero_add]; exact bs_get hi) (by simp) 60 (by rw [n13]; first | omega | (simp only [List.length_cons, List.length_nil]; omega))) ?_
        rintro _ H14 ⟨w14, z14, o14, rfl, B14, k1, k2, k3⟩
        have b14 := (k2 0 (by omega) (by omega)).trans b13
        have l14 : 1 < H14.length ∧ 1 < w14 := by omega
        obtain ⟨L14, e14⟩ : ∃ L, L = L13 ++ (o ++ List.replicate (60 - o.length) 0) := ⟨_, rfl⟩
        have n14 : L14.length = 240 + (o.length + (60 - o.length)) := by rw [e14]; simp only [List.length_append, List.length_cons, List.length_nil, List.length_replicate, n13]; try omega
        rw [← e14] at B14 ⊢
        clear k1 k2 k3 b13 q13 B13 l13
        simp (maxSteps := 4000000) only [Try.results24, XX, Nat.reduceBEq, Nat.reduceLT, Nat.reduceAdd, Nat.reduceMul, Nat.reduceSub, Nat.reduceLeDiff, Nat.reduceEqDiff, Int.reduceToNat, Int.reduceLT, Int.reduceLE, Int.reduceAdd, Int.reduceSub, Int.reduceEq, reduceIte, Nat.reduceBNe, Int.reducePow, Nat.reducePow, Int.reduceMul, Int.reduceNeg, isB_i, isB_b, isB_y, isBv_i, isBv_b, eqCells_t, TT]
        have henc : encB m o = L14 := by
          rw [e14, e13, e12, e11, e10, e9, e8, e7, e6, e5, e4, e3, e2, e1, e0]
          unfold encB flagB
          rw [hA]
          rfl
        rw [henc]
        exact ⟨w14, z14, o14, rfl, B14⟩
    · have he : encF m xs = ([], (packF xs 1232).2) := by unfold encF; rw [if_pos h0, if_neg h1]
      rw [he]
      rw [h0] at r1
      generalize (packF xs 1232).2 = e at *
      generalize (packF xs 1232).1 = o at *
      have de : decide (e = 0) = false := by simpa using h1
      refine resB_nil ?_
      refine spec_of_X cx_ok Try.func24 rfl (by kernel_rfl) (by kernel_rfl) (Nat.le_of_ble_eq_true rfl) 400 8 ?_
      simp (maxSteps := 4000000) only [Try.results24, XX, Nat.reduceBEq, Nat.reduceLT, Nat.reduceAdd, Nat.reduceMul, Nat.reduceSub, Nat.reduceLeDiff, Nat.reduceEqDiff, Int.reduceToNat, Int.reduceLT, Int.reduceLE, Int.reduceAdd, Int.reduceSub, Int.reduceEq, reduceIte, Nat.reduceBNe, Int.reducePow, Nat.reducePow, Int.reduceMul, Int.reduceNeg, isB_i, isB_b, isB_y, isBv_i, isBv_b, eqCells_t, TT]
      refine call_pureF [.agg (boC m (roO xs sp c0))] r1 ⟨.inl ⟨rfl, rfl⟩, trivial⟩ ?_
      rintro _ rfl
      simp (maxSteps := 4000000) only [Try.results24, XX, Nat.reduceBEq, Nat.reduceLT, Nat.reduceAdd, Nat.reduceMul, Nat.reduceSub, Nat.reduceLeDiff, Nat.reduceEqDiff, Int.reduceToNat, Int.reduceLT, Int.reduceLE, Int.reduceAdd, Int.reduceSub, Int.reduceEq, reduceIte, Nat.reduceBNe, Int.reducePow, Nat.reducePow, Int.reduceMul, Int.reduceNeg, isB_i, isB_b, isB_y, isBv_i, isBv_b, eqCells_t, TT]
      refine call_fz [.c (roO xs sp c0), .c (i64 1232)] r2 (fun t h' h => resB_noRo h) ⟨.inl ⟨rfl, rfl⟩, .inl ⟨rfl, rfl⟩, trivial⟩ ?_
      rintro _ _ ⟨z0, o0, rfl, rfl, ho0⟩
      simp (maxSteps := 4000000) only [Try.results24, ids_bsC, ren_bsC, noRo_bsC, plain_bsC, lt_bsC, ids_byte, ren_byte, noRo_byte, plain_byte, lt_byte, de, XX, Nat.reduceBEq, Nat.reduceLT, Nat.reduceAdd, Nat.reduceMul, Nat.reduceSub, Nat.reduceLeDiff, Nat.reduceEqDiff, Int.reduceToNat, Int.reduceLT, Int.reduceLE, Int.reduceAdd, Int.reduceSub, Int.reduceEq, reduceIte, Nat.reduceBNe, Int.reducePow, Nat.reducePow, Int.reduceMul, Int.reduceNeg, isB_i, isB_b, isB_y, isBv_i, isBv_b, eqCells_t, TT]
  · have he : encF m xs = ([], refF m xs) := by unfold encF; rw [if_neg h0]
    rw [he]
    generalize refF m xs = e at *
    have de : decide (e = 0) = false := by simpa using h0
    refine resB_nil ?_
    refine spec_of_X cx_ok Try.func24 rfl (by kernel_rfl) (by kernel_rfl) (Nat.le_of_ble_eq_true rfl) 400 8 ?_
    simp (maxSteps := 4000000) only [Try.results24, XX, Nat.reduceBEq, Nat.reduceLT, Nat.reduceAdd, Nat.reduceMul, Nat.reduceSub, Nat.reduceLeDiff, Nat.reduceEqDiff, Int.reduceToNat, Int.reduceLT, Int.reduceLE, Int.reduceAdd, Int.reduceSub, Int.reduceEq, reduceIte, Nat.reduceBNe, Int.reducePow, Nat.reducePow, Int.reduceMul, Int.reduceNeg, isB_i, isB_b, isB_y, isBv_i, isBv_b, eqCells_t, TT]
    refine call_pureF [.agg (boC m (roO xs sp c0))] r1 ⟨.inl ⟨rfl, rfl⟩, trivial⟩ ?_
    rintro _ rfl
    simp (maxSteps := 4000000) only [Try.results24, de, XX, Nat.reduceBEq, Nat.reduceLT, Nat.reduceAdd, Nat.reduceMul, Nat.reduceSub, Nat.reduceLeDiff, Nat.reduceEqDiff, Int.reduceToNat, Int.reduceLT, Int.reduceLE, Int.reduceAdd, Int.reduceSub, Int.reduceEq, reduceIte, Nat.reduceBNe, Int.reducePow, Nat.reducePow, Int.reduceMul, Int.reduceNeg, isB_i, isB_b, isB_y, isBv_i, isBv_b, eqCells_t, TT]
theorem rencode_spec (m : BM) (hm : m.ok) (xs sp : List OI) (c0 : Nat) (hok : ∀ x ∈ xs, x.ok) (hn : xs.length ≤ 4398046511104) (hT : totO xs ≤ 8589934592) : Spec cx.P 24 [.agg (boC m (roO xs sp c0))] [] (resB (encF m xs).1 (encF m xs).2) := rencode_big m hm xs sp c0 hok hn (by omega)
end Go.Proofs.Ytgegddefcgfhgaa.Sx
namespace Go.Proofs.Ytgegddefcgfhgaa.Sx
open Go
set_option linter.unusedSimpArgs false
set_option linter.unusedVariables false
set_option maxRecDepth 10000
set_option maxHeartbeats 2000000
theorem bad_pi {xs ys : List OI} (h : piL xs = piL ys) (hb : ¬ Bad xs) : ¬ Bad ys := by
  obtain ⟨h1, h2⟩ := good_codes hb
  have e : xs.map OI.k = ys.map OI.k := by
    have : (piL xs).map (·.1) = (piL ys).map (·.1) := by rw [h]
    rw [piL, piL, List.map_map, List.map_map] at this
    exact this
  refine codes_good (fun y hy => ?_) (by rw [← e]; exact h2)
  have hm : y.k ∈ xs.map OI.k := by rw [e]; exact List.mem_map_of_mem hy
  simp only [List.mem_map] at hm
  obtain ⟨x, hx, hxy⟩ := hm
  rw [← hxy]; exact h1 x hx
theorem szO_pi {xs ys : List OI} (h : piL xs = piL ys) : szO xs = szO ys := by
  have g : ∀ xs : List OI, szO xs = ((piL xs).map fun p => p.2.length + 2 * pcs p.2.length).sum := fun xs => by
    unfold szO piL
    rw [List.map_map]; rfl
  rw [g, g, h]
theorem totO_pi {xs ys : List OI} (h : piL xs = piL ys) : totO xs = totO ys := by
  have g : ∀ xs : List OI, totO xs = ((piL xs).map fun p => p.2.length + 1).sum := fun xs => by
    unfold totO piL
    rw [List.map_map]; rfl
  rw [g, g, h]
theorem encAll_pi {xs ys : List OI} (h : piL xs = piL ys) : encAll xs = encAll ys := by
  have g : ∀ xs : List OI, encAll xs = (piL xs).flatMap fun p => encN (UInt8.ofInt p.1) p.2 (pcs p.2.length) := fun xs => by
    unfold encAll piL
    rw [List.flatMap_map]; rfl
  rw [g, g, h]
theorem packF_pi {xs ys : List OI} (h : piL xs = piL ys) (room : Int) : packF xs room = packF ys room := by
  unfold packF
  have hl : xs.length = ys.length := by have := congrArg List.length h; simpa using this
  by_cases hb : Bad xs
  · have hb' : Bad ys := Classical.byContradiction fun h' => bad_pi h.symm h' hb
    rw [if_pos hb, if_pos hb']
  · rw [if_neg hb, if_neg (bad_pi h hb), szO_pi h, encAll_pi h, hl]
end Go.Proofs.Ytgegddefcgfhgaa.Sx
namespace Go.Proofs.Ytgegddefcgfhgaa.Sx
open Go
set_option linter.unusedSimpArgs false
set_option linter.unusedVariables false
set_option maxRecDepth 10000
set_option maxHeartbeats 2000000
theorem rowC_put {es : List PE} {e : PE} {m : Nat} : (rowC es (m + 1)).take (es.length * 2) ++ (i64 e.k :: slB e.w e.d e.sp :: (rowC es (m + 1)).drop (es.length * 2 + 2)) = rowC (es ++ [e]) m := by
  rw [row_pre, row_post, rowC, flatc_app, List.append_assoc]; rfl
theorem opts_put {H : List SB} {iO : Nat} {es : List PE} {k : Int} {m : Nat} {d sp : List UInt8} (O : Opts H iO true es (m + 1)) {cells : List SC} (hc : cells = rowC (es ++ [⟨k, d, H.length, sp, true⟩]) m) :
    Opts (H.set iO ⟨true, 74, cells⟩ ++ [wB true (d ++ sp)]) iO true (es ++ [⟨k, d, H.length, sp, true⟩]) m := by
  subst hc
  have lO := lt_of O.row
  rw [← List.set_append_left _ _ lO]
  have old : ∀ i e, (es ++ [⟨k, d, H.length, sp, true⟩])[i]? = some e → (es[i]? = some e ∧ e.w < H.length ∧ e.w ≠ iO) ∨ (i = es.length ∧ e = ⟨k, d, H.length, sp, true⟩) := fun i e he => by
    rcases Nat.lt_or_ge i es.length with hi | hi
    · rw [List.getElem?_append_left hi] at he
      exact .inl ⟨he, lt_of (O.at_ i e he).1, O.neR he⟩
    · rw [List.getElem?_append_right hi] at he
      have : i - es.length = 0 := by have := (List.getElem?_eq_some_iff.1 he).1; simpa using this
      rw [this] at he
      cases he
      exact .inr ⟨by omega, rfl⟩
  refine ⟨?_, fun _ => rfl, fun i e he => ?_, fun i j e f hij he hf => ?_⟩
  · rw [List.getElem?_set_self (by simp; omega)]
  · rcases old i e he with ⟨h1, h2, h3⟩ | ⟨rfl, rfl⟩
    · rw [List.getElem?_set_ne (Ne.symm h3), List.getElem?_append_left h2]
      exact O.at_ i e h1
    · refine ⟨?_, fun _ => rfl⟩
      rw [List.getElem?_set_ne (by show iO ≠ H.length; omega), List.getElem?_append_right (Nat.le_refl _), Nat.sub_self]; rfl
  · rcases old i e he with ⟨h1, h2, h3⟩ | ⟨rfl, rfl⟩ <;> rcases old j f hf with ⟨g1, g2, g3⟩ | ⟨rfl, rfl⟩
    · exact O.ne i j e f hij h1 g1
    · show e.w ≠ H.length; omega
    · show H.length ≠ f.w; omega
    · omega
def resLn (xs : List PI) (s : SV) (h' : List SB) : Prop := ∃ es : List PE, s = .c (.sl 0 0 es.length (es.length + 2)) ∧ h' = optB true (rowL (numF 1 es)) :: winsC es ∧ (∀ e ∈ es, e.sp = [71, 72] ∧ e.o = true) ∧ es.map PE.pi = xs
theorem resLn_noRo {x : List PI} {t : SV} {h' : List SB} (h : resLn x t h') : t.noRo = true ∧ (h'.all fun b => b.cells.all SC.noRo) = true := by
  obtain ⟨es, rfl, rfl, _⟩ := h
  refine ⟨rfl, ?_⟩
  rw [List.all_cons, Bool.and_eq_true]
  refine ⟨?_, ?_⟩
  · show (rowC _ _ ++ marksO).all _ = true
    rw [List.all_append, noRo_row]; rfl
  · rw [List.all_map, List.all_eq_true]
    intro e _
    exact noRo_bsC _
theorem resLn_of {P : Program} {f : FuncId} {args : List SV} {x : List PI} (s : Spec P f args [] fun s h' => ∃ iO es, s = .c (.sl iO 0 es.length (es.length + 2)) ∧ LentO h' iO es ∧ es.map PE.pi = x) : Spec P f args [] (resLn x) :=
  s.wk fun t h' h => by
    obtain ⟨iO, es, rfl, O, hp⟩ := h
    have hpi : (some iO :: es.map fun e => some e.w) = (iO :: es.map PE.w).map some := by simp
    have hnd : (iO :: es.map PE.w).Nodup := by
      rw [List.nodup_cons]
      constructor
      · intro h
        simp only [List.mem_map] at h
        obtain ⟨e, he, hw⟩ := h
        obtain ⟨i, hi⟩ := List.mem_iff_getElem?.1 he
        exact O.neR hi hw
      · rw [List.Nodup, List.pairwise_iff_getElem]
        intro i j hi hj hij
        rw [List.length_map] at hi hj
        rw [List.getElem_map, List.getElem_map]
        exact O.ne i j _ _ (by omega) (List.getElem?_eq_getElem hi) (List.getElem?_eq_getElem hj)
    refine ⟨.c (.sl 0 0 es.length (es.length + 2)), optB true (rowL (numF 1 es)) :: winsC es, some iO :: es.map fun e => some e.w, ?_, ⟨?_, wkHp_wins O.at_⟩, .inl ⟨rfl, rfl⟩, es, rfl, rfl, O.sp, hp⟩
    · rw [hpi]; exact piBase_all _ _ hnd
    · rw [O.row]
      refine ⟨.inl ⟨?_, ?_⟩, fun h => ⟨h, rfl⟩⟩
      · show (rowC _ _ ++ marksO).all _ = true
        rw [List.all_append, row_ids _ _ _ _ fun i hi => ?_]; rfl
        unfold isW
        rw [Nat.add_comm, List.getElem?_cons_succ, List.getElem?_map, List.getElem?_eq_getElem hi]; rfl
      · show rowC _ _ ++ marksO = (rowC _ _ ++ marksO).map _
        rw [List.map_append, row_ren _ _ _ _ fun i e he => ?_]; rfl
        unfold srcW
        rw [Nat.add_comm, List.getElem?_cons_succ, List.getElem?_map, he]; rfl
/-- A call that lends a row. -/
theorem call_lentO {P : Program} {xn : XN} {f : FuncId} {args : List SV} (args0 : List SV) {dst : Option Tmp} {k : List KI} {nm : NB} {tm : List (Nat × SV)} {hp : List SB} {Q : XE → St → Prop} {x : List PI}
    (s : Spec P f args0 [] (resLn x)) (ha : frA true (fun _ => true) (renF [] hp.length) 0 hp args args0)
    (hk : ∀ (t : List SB) (es : List PE), LentO (hp ++ t) hp.length es → (∀ e ∈ es, hp.length < e.w) → es.map PE.pi = x →
      xn k ⟨nm, put dst (.c (.sl hp.length 0 es.length (es.length + 2))) tm, hp ++ t⟩ Q) : CallGoal P xn f args dst k ⟨nm, tm, hp⟩ Q := by
  refine call_fz args0 s (fun t h' => resLn_noRo) ha ?_
  rintro _ _ ⟨es, rfl, rfl, h2, h3⟩
  have e1 : renF [] hp.length 0 = hp.length := rfl
  have e2 : (rowL (numF 1 es)).map (SC.ren (renF [] hp.length)) = rowL (numF (hp.length + 1) es) := by
    have a1 := row_ren (renF [] hp.length) 0 1 (es := numF (hp.length + 1) es) ?_
    · have : numF 1 (numF (hp.length + 1) es) = numF 1 es := by
        have g : ∀ (k m : Nat) (es : List PE), numF k (numF m es) = numF k es := by
          intro k m es
          induction es generalizing k m with
          | nil => rfl
          | cons e es ih => simp only [numF, ih]
        exact g _ _ _
      rw [this] at a1
      rw [rowL, List.map_append, a1]; rfl
    · intro i e he
      obtain ⟨f, hf, rfl⟩ := numF_at he
      show hp.length + (1 + i - 0) = hp.length + 1 + i
      omega
  have e3 : (winsC es).map (SB.ren (renF [] hp.length)) = winsC es := by
    rw [List.map_map]
    refine List.map_congr_left fun e he => ?_
    show SB.mk _ _ (List.map _ (bsC _)) = _
    rw [ren_bsC]
  have := hk (optB true (rowL (numF (hp.length + 1) es)) :: winsC es) (numF (hp.length + 1) es) ⟨?_, fun i e he => ?_, fun i j e f hij he hf => ?_, fun e he => ?_⟩ (fun e he => ?_) (by rw [numF_pi, h3])
  · rw [numF_len] at this
    simp only [List.map_cons, e3]
    show xn k ⟨nm, put dst (.c (SC.sl (renF [] hp.length 0) 0 es.length (es.length + 2))) tm, hp ++ (⟨true, _, (rowL (numF 1 es)).map (SC.ren (renF [] hp.length))⟩ :: winsC es)⟩ Q
    rw [e2, e1]
    exact this
  · rw [List.getElem?_append_right (Nat.le_refl _), Nat.sub_self]; rfl
  · obtain ⟨f, hf, rfl⟩ := numF_at he
    refine ⟨?_, fun _ => (h2 f (List.mem_of_getElem? hf)).2⟩
    show (hp ++ _)[hp.length + 1 + i]? = _
    rw [List.getElem?_append_right (by omega), show hp.length + 1 + i - hp.length = i + 1 by omega, List.getElem?_cons_succ, List.getElem?_map, hf]; rfl
  · obtain ⟨f1, hf1, rfl⟩ := numF_at he
    obtain ⟨f2, hf2, rfl⟩ := numF_at hf
    show hp.length + 1 + i ≠ hp.length + 1 + j
    omega
  · obtain ⟨i, hi⟩ := List.mem_iff_getElem?.1 he
    obtain ⟨f, hf, rfl⟩ := numF_at hi
    exact h2 f (List.mem_of_getElem? hf)
  · obtain ⟨i, hi⟩ := List.mem_iff_getElem?.1 he
    obtain ⟨f, hf, rfl⟩ := numF_at hi
    show hp.length < hp.length + 1 + i
    omega
theorem rowL_of {es : List PE} {n : Nat} (h : es.length = n) : ((rowC es 2).take (n * 2) ++ i64 (-71) :: nilS :: (rowC es 2).drop (n * 2 + 2)).take ((n + 1) * 2) ++ i64 (-72) :: nilS :: ((rowC es 2).take (n * 2) ++ i64 (-71) :: nilS :: (rowC es 2).drop (n * 2 + 2)).drop ((n + 1) * 2 + 2) = rowL es := by
  subst h
  rw [row_pre, row_post (r := 1)]
  have lA := flatc_len es
  simp only [rowL, rowC, List.append_assoc]
  generalize (es.map PE.c).flatten = A at lA ⊢
  rw [List.take_append, List.drop_append, List.take_of_length_le (by omega), List.drop_of_length_le (by omega), lA, show (es.length + 1) * 2 - es.length * 2 = 2 by omega, show (es.length + 1) * 2 + 2 - es.length * 2 = 4 by omega, List.nil_append, List.append_assoc]
  rfl
theorem lentO_spec (xs sp : List OI) (c : Nat) (hok : ∀ x ∈ xs, x.ok) (hn : xs.length ≤ 4398046511104) : Spec cx.P 15 [.c (roO xs sp c)] [] (resLn (piL xs)) := by
  refine resLn_of ?_
  have e1 : IntKind.i64.wrap ((xs.length : Int) + 2) = ((xs.length + 2 : Nat) : Int) := by rw [w64] <;> omega
  have e2 : (((xs.length + 2 : Nat) : Int)).toNat = xs.length + 2 := by omega
  refine spec_of_X cx_ok Try.func15 rfl (by kernel_rfl) (by kernel_rfl) (Nat.le_of_ble_eq_true rfl) 400 7 ?_
  simp (maxSteps := 4000000) only [Try.results15, XX, Nat.reduceBEq, Nat.reduceLT, Nat.reduceAdd, Nat.reduceMul, Nat.reduceSub, Nat.reduceLeDiff, Nat.reduceEqDiff, Int.reduceToNat, Int.reduceLT, Int.reduceLE, Int.reduceAdd, Int.reduceSub, Int.reduceEq, reduceIte, Nat.reduceBNe, Int.reducePow, Nat.reducePow, Int.reduceMul, Int.reduceNeg, isB_i, isB_b, isB_y, isBv_i, isBv_b, eqCells_t, TT]
  simp (maxSteps := 4000000) only [Try.results15, e1, e2, XX, Nat.reduceBEq, Nat.reduceLT, Nat.reduceAdd, Nat.reduceMul, Nat.reduceSub, Nat.reduceLeDiff, Nat.reduceEqDiff, Int.reduceToNat, Int.reduceLT, Int.reduceLE, Int.reduceAdd, Int.reduceSub, Int.reduceEq, reduceIte, Nat.reduceBNe, Int.reducePow, Nat.reducePow, Int.reduceMul, Int.reduceNeg, isB_i, isB_b, isB_y, isBv_i, isBv_b, eqCells_t, TT]
  refine ⟨by omega, ?_⟩
  refine loop_any cx_ok 400 (fun μ σ => ∃ (i : Nat) (H : List SB) (es : List PE), μ = xs.length - i ∧ i ≤ xs.length ∧ es.length = i ∧ Opts H 0 true es (xs.length + 2 - i) ∧ es.map PE.pi = piL (xs.take i) ∧ (∀ e ∈ es, e.sp = [71, 72] ∧ e.o = true) ∧
      σ = ⟨⟨7, 0⟩, [(0, .c (roO xs sp c)), (3, .c (i64 xs.length)), (4, .c (.sl 0 0 (xs.length + 2) (xs.length + 2))), (5, .c (i64 i))], H⟩) xs.length
    ⟨⟨7, 0⟩, [(0, .c (roO xs sp c)), (3, .c (i64 xs.length)), (4, .c (.sl 0 0 (xs.length + 2) (xs.length + 2))), (5, .c (i64 (0 : Nat)))], [optB true (rowC [] (xs.length + 2))]⟩ ⟨0, _, [], rfl, Nat.zero_le _, rfl, ⟨rfl, fun _ => rfl, fun i e h => by simp at h, fun i j e f _ h => by simp at h⟩, rfl, (fun e h => nomatch h), rfl⟩ (.inl ⟨rfl, rfl, rfl, rfl, rfl, rfl, trivial⟩) ?_
  rintro μ σ ⟨i, H, es, rfl, hi, hel, O, hpi, hsp, rfl⟩
  have hrow := O.row
  have lrow := lt_of hrow
  have lr := rowC_len es (xs.length + 2 - i)
  by_cases hlt : i < xs.length
  · have hd : decide ((i : Int) < (xs.length : Int)) = true := by simp only [decide_eq_true_eq]; omega
    have e3 : IntKind.i64.wrap ((i : Int) + 1) = ((i + 1 : Nat) : Int) := by rw [w64] <;> omega
    obtain ⟨x, hx⟩ : ∃ x, xs[i]? = some x := ⟨_, List.getElem?_eq_getElem hlt⟩
    obtain ⟨R, hR⟩ := osR_at (sp := sp) hx
    obtain ⟨ox1, ox2, ox3⟩ := hok x (List.mem_of_getElem? hx)
    simp (maxSteps := 4000000) only [Try.results15, hd, hrow, lrow, hR, XX, Nat.reduceBEq, Nat.reduceLT, Nat.reduceAdd, Nat.reduceMul, Nat.reduceSub, Nat.reduceLeDiff, Nat.reduceEqDiff, Int.reduceToNat, Int.reduceLT, Int.reduceLE, Int.reduceAdd, Int.reduceSub, Int.reduceEq, reduceIte, Nat.reduceBNe, Int.reducePow, Nat.reducePow, Int.reduceMul, Int.reduceNeg, isB_i, isB_b, isB_y, isBv_i, isBv_b, eqCells_t, TT]
    refine ⟨by omega, by omega, ?_⟩
    refine call_fz [.c (roB x.d x.sp x.c)] (lent_spec x.d x.sp x.c (by omega)) (fun t h' h => by obtain ⟨rfl, rfl⟩ := h; exact ⟨rfl, by simp only [XX, Nat.reduceBEq, Nat.reduceLT, Nat.reduceAdd, Nat.reduceMul, Nat.reduceSub, Nat.reduceLeDiff, Nat.reduceEqDiff, Int.reduceToNat, Int.reduceLT, Int.reduceLE, Int.reduceAdd, Int.reduceSub, Int.reduceEq, reduceIte, Nat.reduceBNe, Int.reducePow, Nat.reducePow, Int.reduceMul, Int.reduceNeg, isB_i, isB_b, isB_y, isBv_i, isBv_b, eqCells_t, TT, ids_bsC, ren_bsC, noRo_bsC, plain_bsC, lt_bsC, ids_byte, ren_byte, noRo_byte, plain_byte, lt_byte]⟩) ⟨.inl ⟨rfl, rfl⟩, trivial⟩ ?_
    rintro _ _ ⟨rfl, rfl⟩
    obtain ⟨m, hm⟩ : ∃ m, xs.length + 2 - i = m + 1 := ⟨xs.length + 1 - i, by omega⟩
    rw [hm] at O hrow lr
    subst hel
    have hput := rowC_put (es := es) (e := ⟨x.k, x.d, H.length, [71, 72], true⟩) (m := m)
    have On := opts_put (k := x.k) (d := x.d) (sp := [71, 72]) O hput
    simp (maxSteps := 4000000) only [Try.results15, hR, hrow, lrow, maskL_nil, unL_nil, e3, ids_bsC, ren_bsC, noRo_bsC, plain_bsC, lt_bsC, ids_byte, ren_byte, noRo_byte, plain_byte, lt_byte, List.append_assoc, List.getElem?_append_left, List.getElem?_append_right, List.length_append, List.length_set, List.set_append_left, gset, List.getElem?_set_ne, Nat.add_sub_cancel_left, Nat.sub_self, Nat.le_refl, Nat.le_add_right, List.replicate_one, List.flatten_cons, List.flatten_nil, rep_flat, XX, Nat.reduceBEq, Nat.reduceLT, Nat.reduceAdd, Nat.reduceMul, Nat.reduceSub, Nat.reduceLeDiff, Nat.reduceEqDiff, Int.reduceToNat, Int.reduceLT, Int.reduceLE, Int.reduceAdd, Int.reduceSub, Int.reduceEq, reduceIte, Nat.reduceBNe, Int.reducePow, Nat.reducePow, Int.reduceMul, Int.reduceNeg, isB_i, isB_b, isB_y, isBv_i, isBv_b, eqCells_t, TT]
    refine ⟨by omega, by omega, by omega, by rw [flatc_len, rep_len (sz := 2) rfl]; omega, xs.length - (es.length + 1), by omega, _, ⟨es.length + 1, _, es ++ [⟨x.k, x.d, H.length, [71, 72], true⟩], rfl, by omega, by simp, by rw [show xs.length + 2 - (es.length + 1) = m by omega]; exact On, ?_, ?_, rfl⟩, .inl ⟨rfl, rfl, rfl, rfl, rfl, rfl, trivial⟩⟩
    · rw [List.map_append, hpi, take_nextO hx]
      simp only [piL, List.map_append, List.map_cons, List.map_nil]
    · intro e he
      rcases List.mem_append.1 he with he | he
      · exact hsp e he
      · obtain rfl := List.mem_singleton.1 he
        exact ⟨rfl, rfl⟩
  obtain rfl : i = xs.length := by omega
  have hd : decide ((xs.length : Int) < (xs.length : Int)) = false := by simp
  have e3 : IntKind.i64.wrap ((xs.length : Int) + 1) = ((xs.length + 1 : Nat) : Int) := by rw [w64] <;> omega
  have e4 : (((xs.length + 1 : Nat) : Int)).toNat = xs.length + 1 := by omega
  rw [show xs.length + 2 - xs.length = 2 by omega] at O hrow lr
  have hml := rowL_of hel
  simp (maxSteps := 4000000) only [Try.results15, hd, hrow, lrow, e3, e4, List.set_set, List.append_assoc, List.getElem?_append_left, List.getElem?_append_right, List.length_append, List.length_set, List.set_append_left, gset, List.getElem?_set_ne, Nat.add_sub_cancel_left, Nat.sub_self, Nat.le_refl, Nat.le_add_right, List.replicate_one, List.flatten_cons, List.flatten_nil, rep_flat, XX, Nat.reduceBEq, Nat.reduceLT, Nat.reduceAdd, Nat.reduceMul, Nat.reduceSub, Nat.reduceLeDiff, Nat.reduceEqDiff, Int.reduceToNat, Int.reduceLT, Int.reduceLE, Int.reduceAdd, Int.reduceSub, Int.reduceEq, reduceIte, Nat.reduceBNe, Int.reducePow, Nat.reducePow, Int.reduceMul, Int.reduceNeg, isB_i, isB_b, isB_y, isBv_i, isBv_b, eqCells_t, TT]
  have lA := flatc_len es
  refine ⟨by omega, by rw [lA, rep_len (sz := 2) rfl]; omega, by omega, ?_, by omega, 0, es, by rw [hel], ⟨?_, fun i e he => ?_, O.ne, hsp⟩, by rw [hpi, List.take_length]⟩
  · rw [List.length_take, List.length_drop, lr]; omega
  · rw [List.getElem?_set_self lrow]
    congr 2
  · rw [List.getElem?_set_ne (O.neR he).symm]
    exact O.at_ i e he
end Go.Proofs.Ytgegddefcgfhgaa.Sx
namespace Go.Proofs.Ytgegddefcgfhgaa.Sx
open Go
set_option linter.unusedSimpArgs false
set_option linter.unusedVariables false
set_option maxRecDepth 10000
set_option maxHeartbeats 2000000
theorem rowL_drop {es : List PE} : (rowL es).drop (es.length * 2) = marksO := by
  have lA := flatc_len es
  simp only [rowL, rowC, List.append_assoc]
  generalize (es.map PE.c).flatten = A at lA ⊢
  rw [List.drop_append, List.drop_of_length_le (by omega), lA, Nat.sub_self, List.nil_append]; rfl
theorem rowL_len (es : List PE) : (rowL es).length = (es.length + 2) * 2 := by
  rw [List.length_append, rowC_len]; show _ + 4 = _; omega
theorem rowL_m (es : List PE) : (rowL es).getD (es.length * 2) .any = i64 (-71) ∧ (rowL es).getD (es.length * 2 + 1) .any = nilS ∧ (rowL es).getD ((es.length + 1) * 2) .any = i64 (-72) ∧ (rowL es).getD ((es.length + 1) * 2 + 1) .any = nilS := by
  have h : ∀ j, (rowL es).getD (es.length * 2 + j) .any = marksO.getD j .any := fun j => by
    rw [List.getD_eq_getElem?_getD, ← List.getElem?_drop, rowL_drop, List.getD_eq_getElem?_getD]
  refine ⟨h 0, h 1, ?_, ?_⟩
  · rw [show (es.length + 1) * 2 = es.length * 2 + 2 by omega]; exact h 2
  · rw [show (es.length + 1) * 2 + 1 = es.length * 2 + 3 by omega]; exact h 3
theorem rowL_get {es : List PE} {i : Nat} {e : PE} (h : es[i]? = some e) : (rowL es).getD (i * 2) .any = i64 e.k ∧ (rowL es).getD (i * 2 + 1) .any = slB e.w e.d e.sp := by
  obtain ⟨h1, h2⟩ := row_get (r := 0) h
  have hi := (List.getElem?_eq_some_iff.1 h).1
  have lr := rowC_len es 0
  rw [List.getD_eq_getElem?_getD] at h1 h2
  constructor
  · rw [List.getD_eq_getElem?_getD, List.getElem?_append_left (by omega)]; exact h1
  · rw [List.getD_eq_getElem?_getD, List.getElem?_append_left (by omega)]; exact h2
theorem asLentO_spec (H : List SB) (iO : Nat) (es : List PE) (O : LentO H iO es) (xs sp : List OI) (c : Nat) (hxs : es.map PE.pi = piL xs) (hok : ∀ x ∈ xs, x.ok) (hn : xs.length ≤ 4398046511104) :
    Spec cx.P 18 [.c (.sl iO 0 es.length (es.length + 2)), .c (roO xs sp c)] H fun s h' => s = .c (bC true) ∧ h'.length = H.length ∧ ∀ k, k ≠ iO → (∀ e ∈ es, k ≠ e.w) → h'[k]? = H[k]? := by
  have hlen : es.length = xs.length := by have := congrArg List.length hxs; simpa using this
  have dl : decide ((es.length : Int) = (xs.length : Int)) = true := by simp only [decide_eq_true_eq]; omega
  have e1 : IntKind.i64.wrap ((xs.length : Int) + 2) = ((xs.length + 2 : Nat) : Int) := by rw [w64] <;> omega
  have e2 : IntKind.i64.wrap ((xs.length : Int) + 1) = ((xs.length + 1 : Nat) : Int) := by rw [w64] <;> omega
  have e4 : (((xs.length + 1 : Nat) : Int)).toNat = xs.length + 1 := by omega
  have hrow := O.row
  have lrow := lt_of hrow
  have lr := rowL_len es
  obtain ⟨m1, m2, m3, m4⟩ := rowL_m es
  rw [hlen] at m1 m2 m3 m4
  have gget := fun (i : Nat) (e : PE) (h : es[i]? = some e) => rowL_get h
  obtain ⟨RL, hRL⟩ : ∃ RL, RL = rowL es := ⟨_, rfl⟩
  rw [← hRL] at hrow lr m1 m2 m3 m4
  simp only [← hRL] at gget
  refine spec_of_X cx_ok Try.func18 rfl (by kernel_rfl) (by kernel_rfl) (Nat.le_of_ble_eq_true rfl) 400 11 ?_
  simp (maxSteps := 4000000) only [Try.results18, XX, Nat.reduceBEq, Nat.reduceLT, Nat.reduceAdd, Nat.reduceMul, Nat.reduceSub, Nat.reduceLeDiff, Nat.reduceEqDiff, Int.reduceToNat, Int.reduceLT, Int.reduceLE, Int.reduceAdd, Int.reduceSub, Int.reduceEq, reduceIte, Nat.reduceBNe, Int.reducePow, Nat.reducePow, Int.reduceMul, Int.reduceNeg, isB_i, isB_b, isB_y, isBv_i, isBv_b, eqCells_t, TT]
  simp (maxSteps := 4000000) only [Try.results18, dl, e1, e2, e4, hrow, lrow, m1, m2, m3, m4, XX, Nat.reduceBEq, Nat.reduceLT, Nat.reduceAdd, Nat.reduceMul, Nat.reduceSub, Nat.reduceLeDiff, Nat.reduceEqDiff, Int.reduceToNat, Int.reduceLT, Int.reduceLE, Int.reduceAdd, Int.reduceSub, Int.reduceEq, reduceIte, Nat.reduceBNe, Int.reducePow, Nat.reducePow, Int.reduceMul, Int.reduceNeg, isB_i, isB_b, isB_y, isBv_i, isBv_b, eqCells_t, TT]
  refine ⟨by omega, by omega, by omega, by omega, by omega, by omega, by omega, by omega, by omega, ?_⟩
  refine loop_any cx_ok 400 (fun μ σ => ∃ (i : Nat) (H1 : List SB), μ = xs.length - i ∧ i ≤ xs.length ∧ H1.length = H.length ∧ (∀ k, (∀ (j : Nat) (e : PE), j < i → es[j]? = some e → k ≠ e.w) → H1[k]? = H[k]?) ∧
      σ = ⟨⟨11, H.length⟩, [(1, .c (roO xs sp c)), (5, .c (i64 xs.length)), (6, .c (.sl iO 0 (xs.length + 2) (es.length + 2))), (7, .c (bC true)), (8, .c (i64 i))], H1⟩) xs.length
    ⟨⟨11, H.length⟩, [(1, .c (roO xs sp c)), (5, .c (i64 xs.length)), (6, .c (.sl iO 0 (xs.length + 2) (es.length + 2))), (7, .c (bC true)), (8, .c (i64 (0 : Nat)))], H⟩ ⟨0, H, rfl, Nat.zero_le _, rfl, fun _ _ => rfl, rfl⟩ (.inl ⟨rfl, rfl, rfl, rfl, rfl, rfl, rfl, trivial⟩) ?_
  rintro μ σ ⟨i, H1, rfl, hi, hl1, hk1, rfl⟩
  have hrow1 : H1[iO]? = some (optB true RL) := (hk1 iO fun j e _ he => (O.neR he).symm).trans hrow
  have lrow1 := lt_of hrow1
  by_cases hlt : i < xs.length
  · have hd : decide ((i : Int) < (xs.length : Int)) = true := by simp only [decide_eq_true_eq]; omega
    have e3 : IntKind.i64.wrap ((i : Int) + 1) = ((i + 1 : Nat) : Int) := by rw [w64] <;> omega
    obtain ⟨x, hx⟩ : ∃ x, xs[i]? = some x := ⟨_, List.getElem?_eq_getElem hlt⟩
    obtain ⟨e, he⟩ : ∃ e, es[i]? = some e := ⟨_, List.getElem?_eq_getElem (by omega)⟩
    have hxe : e.k = x.k ∧ e.d = x.d := by
      have h1 : (es.map PE.pi)[i]? = (piL xs)[i]? := by rw [hxs]
      rw [List.getElem?_map, List.getElem?_map, he, hx] at h1
      simpa using h1
    obtain ⟨R, hR⟩ := osR_at (sp := sp) hx
    obtain ⟨ox1, ox2, ox3⟩ := hok x (List.mem_of_getElem? hx)
    obtain ⟨g1, g2⟩ := gget i e he
    obtain ⟨s1, s2⟩ := O.sp e (List.mem_of_getElem? he)
    have hw1 : H1[e.w]? = some (wB true (x.d ++ [71, 72])) := by
      rw [hk1 e.w fun j f hj hf => O.ne i j e f (by omega) he hf, (O.at_ i e he).1, s1, s2, hxe.2]
    have lw1 := lt_of hw1
    have ds : decide (e.k = x.k) = true := by simpa using hxe.1
    rw [s1, hxe.2] at g2
    rw [hxe.1] at g1
    simp (maxSteps := 4000000) only [Try.results18, hd, XX, Nat.reduceBEq, Nat.reduceLT, Nat.reduceAdd, Nat.reduceMul, Nat.reduceSub, Nat.reduceLeDiff, Nat.reduceEqDiff, Int.reduceToNat, Int.reduceLT, Int.reduceLE, Int.reduceAdd, Int.reduceSub, Int.reduceEq, reduceIte, Nat.reduceBNe, Int.reducePow, Nat.reducePow, Int.reduceMul, Int.reduceNeg, isB_i, isB_b, isB_y, isBv_i, isBv_b, eqCells_t, TT]
    refine draw_of cx_ok (by kernel_rfl) 400 [] [(0, true), (1, true), (2, true), (3, true), (5, true), (6, true), (7, true), (8, true), (9, true), (4, false), (10, false), (11, true)] (by kernel_rfl) (by first | exact hok | simp [*]) ?_
    simp (maxSteps := 4000000) only [Try.results18, hR, hrow1, lrow1, g2, maskL_nil, unL_nil, List.append_assoc, List.getElem?_append_left, List.getElem?_append_right, List.length_append, List.length_set, List.set_append_left, gset, List.getElem?_set_ne, Nat.add_sub_cancel_left, Nat.sub_self, Nat.le_refl, Nat.le_add_right, List.replicate_one, List.flatten_cons, List.flatten_nil, rep_flat, XX, Nat.reduceBEq, Nat.reduceLT, Nat.reduceAdd, Nat.reduceMul, Nat.reduceSub, Nat.reduceLeDiff, Nat.reduceEqDiff, Int.reduceToNat, Int.reduceLT, Int.reduceLE, Int.reduceAdd, Int.reduceSub, Int.reduceEq, reduceIte, Nat.reduceBNe, Int.reducePow, Nat.reducePow, Int.reduceMul, Int.reduceNeg, isB_i, isB_b, isB_y, isBv_i, isBv_b, eqCells_t, TT]
    refine ⟨by omega, by omega, by omega, by omega, ?_⟩
    refine call_frame (asLent_spec x.d x.sp x.c (by omega)) [e.w] rfl rfl ?_ rfl ?_ ?_
    · simp only [XX, Nat.reduceBEq, Nat.reduceLT, Nat.reduceAdd, Nat.reduceMul, Nat.reduceSub, Nat.reduceLeDiff, Nat.reduceEqDiff, Int.reduceToNat, Int.reduceLT, Int.reduceLE, Int.reduceAdd, Int.reduceSub, Int.reduceEq, reduceIte, Nat.reduceBNe, Int.reducePow, Nat.reducePow, Int.reduceMul, Int.reduceNeg, isB_i, isB_b, isB_y, isBv_i, isBv_b, eqCells_t, TT, preOk, hw1, ids_bsC, ren_bsC, noRo_bsC, plain_bsC, lt_bsC, ids_byte, ren_byte, noRo_byte, plain_byte, lt_byte]
    · simp only [XX, Nat.reduceBEq, Nat.reduceLT, Nat.reduceAdd, Nat.reduceMul, Nat.reduceSub, Nat.reduceLeDiff, Nat.reduceEqDiff, Int.reduceToNat, Int.reduceLT, Int.reduceLE, Int.reduceAdd, Int.reduceSub, Int.reduceEq, reduceIte, Nat.reduceBNe, Int.reducePow, Nat.reducePow, Int.reduceMul, Int.reduceNeg, isB_i, isB_b, isB_y, isBv_i, isBv_b, eqCells_t, TT, ids_bsC, ren_bsC, noRo_bsC, plain_bsC, lt_bsC, ids_byte, ren_byte, noRo_byte, plain_byte, lt_byte]
    rintro _ _ ⟨rfl, rfl⟩
    simp (maxSteps := 4000000) only [Try.results18, hw1, lw1, ids_bsC, ren_bsC, noRo_bsC, plain_bsC, lt_bsC, ids_byte, ren_byte, noRo_byte, plain_byte, lt_byte, maskL_nil, unL_nil, XX, Nat.reduceBEq, Nat.reduceLT, Nat.reduceAdd, Nat.reduceMul, Nat.reduceSub, Nat.reduceLeDiff, Nat.reduceEqDiff, Int.reduceToNat, Int.reduceLT, Int.reduceLE, Int.reduceAdd, Int.reduceSub, Int.reduceEq, reduceIte, Nat.reduceBNe, Int.reducePow, Nat.reducePow, Int.reduceMul, Int.reduceNeg, isB_i, isB_b, isB_y, isBv_i, isBv_b, eqCells_t, TT]
    have ne1 : e.w ≠ iO := O.neR he
    have hrow2 : (H1.set e.w ⟨true, 5, bsC (List.replicate (x.d.length + 2) 83)⟩)[iO]? = some (optB true RL) := by rw [List.getElem?_set_ne ne1]; exact hrow1
    have hl2 : (H1.set e.w ⟨true, 5, bsC (List.replicate (x.d.length + 2) 83)⟩).length = H.length := by rw [List.length_set]; exact hl1
    have hk2 : ∀ k, (∀ (j : Nat) (f : PE), j < i + 1 → es[j]? = some f → k ≠ f.w) → (H1.set e.w ⟨true, 5, bsC (List.replicate (x.d.length + 2) 83)⟩)[k]? = H[k]? := fun k hk => by
      rw [List.getElem?_set_ne (Ne.symm (hk i e (by omega) he))]
      exact hk1 k fun j f hj hf => hk j f (by omega) hf
    generalize H1.set e.w ⟨true, 5, bsC (List.replicate (x.d.length + 2) 83)⟩ = H2 at hrow2 hl2 hk2 ⊢
    have lrow2 := lt_of hrow2
    have dk : decide (x.k = x.k) = true := by simp
    refine draw_of cx_ok (by kernel_rfl) 400 [] [(0, true), (1, true), (2, true), (3, true), (4, true), (5, true), (6, true), (7, true), (8, true), (10, true), (11, true), (12, true), (13, true), (14, true), (9, false), (15, true), (16, true), (17, true)] (by kernel_rfl) (by first | exact hok | simp [*]) ?_
    simp (maxSteps := 4000000) only [Try.results18, hR, hrow2, lrow2, g1, dk, e3, maskL_nil, unL_nil, List.append_assoc, List.getElem?_append_left, List.getElem?_append_right, List.length_append, List.length_set, List.set_append_left, gset, List.getElem?_set_ne, Nat.add_sub_cancel_left, Nat.sub_self, Nat.le_refl, Nat.le_add_right, List.replicate_one, List.flatten_cons, List.flatten_nil, rep_flat, XX, Nat.reduceBEq, Nat.reduceLT, Nat.reduceAdd, Nat.reduceMul, Nat.reduceSub, Nat.reduceLeDiff, Nat.reduceEqDiff, Int.reduceToNat, Int.reduceLT, Int.reduceLE, Int.reduceAdd, Int.reduceSub, Int.reduceEq, reduceIte, Nat.reduceBNe, Int.reducePow, Nat.reducePow, Int.reduceMul, Int.reduceNeg, isB_i, isB_b, isB_y, isBv_i, isBv_b, eqCells_t, TT]
    exact ⟨by omega, by omega, by omega, by omega, xs.length - (i + 1), by omega, _, ⟨i + 1, H2, rfl, by omega, hl2, hk2, rfl⟩, .inl ⟨rfl, rfl, rfl, rfl, rfl, rfl, rfl, trivial⟩⟩
  obtain rfl : i = xs.length := by omega
  have hd : decide ((xs.length : Int) < (xs.length : Int)) = false := by simp
  simp (maxSteps := 4000000) only [Try.results18, hd, XX, Nat.reduceBEq, Nat.reduceLT, Nat.reduceAdd, Nat.reduceMul, Nat.reduceSub, Nat.reduceLeDiff, Nat.reduceEqDiff, Int.reduceToNat, Int.reduceLT, Int.reduceLE, Int.reduceAdd, Int.reduceSub, Int.reduceEq, reduceIte, Nat.reduceBNe, Int.reducePow, Nat.reducePow, Int.reduceMul, Int.reduceNeg, isB_i, isB_b, isB_y, isBv_i, isBv_b, eqCells_t, TT]
  refine loop_any cx_ok 400 (fun μ σ => ∃ (m : Nat) (H2 : List SB) (cells : List SC), μ = xs.length + 2 - m ∧ m ≤ xs.length + 2 ∧ H2.length = H.length ∧ H2[iO]? = some (optB true cells) ∧ cells.length = (xs.length + 2) * 2 ∧ (∀ k, k ≠ iO → H2[k]? = H1[k]?) ∧
      σ = ⟨⟨11, H.length⟩, [(6, .c (.sl iO 0 (xs.length + 2) (es.length + 2))), (7, .c (bC true)), (10, .c (i64 m))], H2⟩) (xs.length + 2)
    ⟨⟨11, H.length⟩, [(6, .c (.sl iO 0 (xs.length + 2) (es.length + 2))), (7, .c (bC true)), (10, .c (i64 (0 : Nat)))], H1⟩ ⟨0, H1, RL, rfl, Nat.zero_le _, hl1, hrow1, by rw [lr, hlen], fun _ _ => rfl, rfl⟩ (.inl ⟨rfl, rfl, rfl, rfl, rfl, trivial⟩) ?_
  rintro μ σ ⟨m, H2, cells, rfl, hm, hl2, hrow2, hc2, hk2, rfl⟩
  have lrow2 := lt_of hrow2
  by_cases hlt : m < xs.length + 2
  · have hd : decide ((m : Int) < ((xs.length + 2 : Nat) : Int)) = true := by simp only [decide_eq_true_eq]; omega
    have e3 : IntKind.i64.wrap ((m : Int) + 1) = ((m + 1 : Nat) : Int) := by rw [w64] <;> omega
    simp (maxSteps := 4000000) only [Try.results18, hd, hrow2, lrow2, e3, List.append_assoc, List.getElem?_append_left, List.getElem?_append_right, List.length_append, List.length_set, List.set_append_left, gset, List.getElem?_set_ne, Nat.add_sub_cancel_left, Nat.sub_self, Nat.le_refl, Nat.le_add_right, List.replicate_one, List.flatten_cons, List.flatten_nil, rep_flat, XX, Nat.reduceBEq, Nat.reduceLT, Nat.reduceAdd, Nat.reduceMul, Nat.reduceSub, Nat.reduceLeDiff, Nat.reduceEqDiff, Int.reduceToNat, Int.reduceLT, Int.reduceLE, Int.reduceAdd, Int.reduceSub, Int.reduceEq, reduceIte, Nat.reduceBNe, Int.reducePow, Nat.reducePow, Int.reduceMul, Int.reduceNeg, isB_i, isB_b, isB_y, isBv_i, isBv_b, eqCells_t, TT]
    exact ⟨by omega, by omega, xs.length + 2 - (m + 1), by omega, _, ⟨m + 1, _, _, rfl, by omega, by rw [List.length_set]; exact hl2, by rw [List.getElem?_set_self lrow2], by simp only [List.length_append, List.length_cons, List.length_take, List.length_drop]; omega, fun k hk => by rw [List.getElem?_set_ne (Ne.symm hk)]; exact hk2 k hk, rfl⟩, .inl ⟨rfl, rfl, rfl, rfl, rfl, trivial⟩⟩
  obtain rfl : m = xs.length + 2 := by omega
  have hd : decide (((xs.length + 2 : Nat) : Int) < ((xs.length + 2 : Nat) : Int)) = false := by simp
  simp (maxSteps := 4000000) only [Try.results18, hd, XX, Nat.reduceBEq, Nat.reduceLT, Nat.reduceAdd, Nat.reduceMul, Nat.reduceSub, Nat.reduceLeDiff, Nat.reduceEqDiff, Int.reduceToNat, Int.reduceLT, Int.reduceLE, Int.reduceAdd, Int.reduceSub, Int.reduceEq, reduceIte, Nat.reduceBNe, Int.reducePow, Nat.reducePow, Int.reduceMul, Int.reduceNeg, isB_i, isB_b, isB_y, isBv_i, isBv_b, eqCells_t, TT]
  exact ⟨hl2, fun k h1 h2 => (hk2 k h1).trans (hk1 k fun j e _ he => h2 e (List.mem_of_getElem? he))⟩
end Go.Proofs.Ytgegddefcgfhgaa.Sx
namespace Go.Proofs.Ytgegddefcgfhgaa.Sx
open Go
set_option linter.unusedSimpArgs false
set_option linter.unusedVariables false
set_option maxRecDepth 10000
set_option maxHeartbeats 2000000
theorem RTy_opts {n : Nat} {x : List RC} (h : RTy T reachBytes (n + 5) 27 x) : ∃ (xs sp : List OI) (c : Nat), x = [.sl (osR (xs ++ sp)) xs.length c] ∧ (∀ x ∈ xs, x.ok) ∧ xs.length ≤ 4398046511104 := by
  obtain ⟨items, len, rfl, h1, h2, h3, h4⟩ := RTy_slice T_27 T_74 h
  obtain ⟨ys, rfl, hys⟩ := all_form fun x hx => OI.form (n := n) (h4 x hx)
  simp only [List.length_map] at h1 h2 h3 ⊢
  have h3' : ys.length * 32 ≤ 140737488351232 := h3
  refine ⟨ys.take len, ys.drop len, ys.length, ?_, fun x hx => hys x (List.mem_of_mem_take hx), by rw [List.length_take]; omega⟩
  rw [List.take_append_drop, List.length_take, Nat.min_eq_left h1]
theorem owns2 {h h1 h2 : List SB} {ib iL1 iW1 v1 v2 : Nat} {x1 x2 y1 y2 : List UInt8} {c1 c2 : Bool} (hb : ib < h.length) (b1 : But h h1 (· = ib)) (l1 : h.length ≤ iL1) (w1 : h.length ≤ iW1) (b2 : But h1 h2 (fun k => k = ib ∨ k = iL1 ∨ k = iW1))
    (a1 : h[v1]? = some (wB c1 (x1 ++ y1))) (a2 : h[v2]? = some (wB c2 (x2 ++ y2))) (n1 : v1 ≠ ib) (n2 : v2 ≠ ib) (o1 : 0 < x1.length + y1.length → c1 = true) (o2 : 0 < x2.length + y2.length → c2 = true)
    (s1 : x1.length < 140737488351233) (s2 : x2.length < 140737488351233) (d12 : v1 ≠ v2) : Owns h2 [⟨v1, x1, y1, c1⟩, ⟨v2, x2, y2, c2⟩] := by
  have key : ∀ {v : Nat} {b : SB}, h[v]? = some b → v ≠ ib → h2[v]? = some b := by
    intro v b a n
    have lt := lt_of a
    have q1 := b1.2 v lt n
    have q2 := b2.2 v (by have := b1.1; omega) (by rintro (h | h | h) <;> omega)
    rw [q2, q1, a]
  have m : ∀ {i : Nat} {e e1 e2 : OE} {p : Nat → OE → Prop}, p 0 e1 → p 1 e2 → [e1, e2][i]? = some e → p i e := by
    intro i e e1 e2 p h1 h2 h
    match i, h with
    | 0, h => cases h; exact h1
    | 1, h => cases h; exact h2
  exact ⟨fun i e => m (p := fun _ e => h2[e.w]? = some (wB e.o (e.l ++ e.p))) (key a1 n1) (key a2 n2),
    fun i e => m (p := fun _ e => 0 < e.l.length + e.p.length → e.o = true) o1 o2,
    fun i e => m (p := fun _ e => e.l.length < 140737488351233) s1 s2,
    fun i j e f hij he hf => by
      match i, j, he, hf with
      | 0, 0, _, _ => omega
      | 1, 1, _, _ => omega
      | 0, 1, he, hf => cases he; cases hf; exact d12
      | 1, 0, he, hf => cases he; cases hf; exact d12.symm⟩
theorem lent_ok {es : List PE} {xs : List OI} (hpi : es.map PE.pi = piL xs) (hok : ∀ x ∈ xs, x.ok) : (∀ x ∈ es.map PE.oi, x.ok) ∧ piL (es.map PE.oi) = piL xs ∧ es.length = xs.length := by
  refine ⟨fun x hx => ?_, by rw [← hpi, piL, List.map_map]; rfl, by have := congrArg List.length hpi; simpa using this⟩
  simp only [List.mem_map] at hx
  obtain ⟨e, he, rfl⟩ := hx
  have : e.pi ∈ piL xs := by rw [← hpi]; exact List.mem_map_of_mem he
  simp only [piL, List.mem_map] at this
  obtain ⟨y, hy, hye⟩ := this
  simp only [OI.pi, PE.pi, Prod.mk.injEq] at hye
  obtain ⟨q1, q2, q3⟩ := hok y hy
  exact ⟨Nat.le_add_right _ _, by show e.d.length ≤ _; rw [← hye.2]; exact q2, by show _ ≤ e.k ∧ e.k < _; rw [← hye.1]; exact q3⟩
theorem LentO.keep {H H' : List SB} {iO : Nat} {es : List PE} (L : LentO H iO es) (h0 : H'[iO]? = H[iO]?) (h1 : ∀ e ∈ es, H'[e.w]? = H[e.w]?) : LentO H' iO es :=
  ⟨h0.trans L.row, fun i e he => ⟨(h1 e (List.mem_of_getElem? he)).trans (L.at_ i e he).1, (L.at_ i e he).2⟩, L.ne, L.sp⟩
theorem RTy_txt {t : TypeId} {a b : Nat} {z : List Value} {n : Nat} {x : List RC} (ht : T t = some ⟨.str, a, b, z⟩) (h : RTy T reachBytes (n + 1) t x) : ∃ l : List UInt8, x = [.v (.string ⟨l.toArray⟩)] ∧ l.length ≤ 140737488355328 := by
  obtain ⟨s, rfl, hs⟩ := RTy_str ht h
  refine ⟨s.data.toList, by simp, ?_⟩
  have : s.data.toList.length = s.size := by show s.data.toList.length = s.data.size; exact Array.length_toList
  rw [this]; have h4 : s.size ≤ 140737488351232 := hs; omega
theorem RTy_u32 {t : TypeId} {a b : Nat} {z : List Value} {n : Nat} {x : List RC} (ht : T t = some ⟨.int .u32, a, b, z⟩) (h : RTy T reachBytes (n + 1) t x) : ∃ k : Nat, x = [.v (.int .u32 (k : Int))] ∧ k < 4294967296 := by
  obtain ⟨z, rfl, h1, h2⟩ := RTy_int ht h
  simp [IntKind.min, IntKind.max, IntKind.bits, IntKind.signed] at h1 h2
  exact ⟨z.toNat, by rw [Int.toNat_of_nonneg h1], by omega⟩
theorem RTy_i64 {t : TypeId} {a b : Nat} {z : List Value} {n : Nat} {x : List RC} (ht : T t = some ⟨.int .i64, a, b, z⟩) (h : RTy T reachBytes (n + 1) t x) : ∃ k : Int, x = [.v (.int .i64 k)] ∧ -9223372036854775808 ≤ k ∧ k < 9223372036854775808 := by
  obtain ⟨z, rfl, h1, h2⟩ := RTy_int ht h
  simp [IntKind.min, IntKind.max, IntKind.bits, IntKind.signed] at h1 h2
  exact ⟨z, rfl, h1, by omega⟩
theorem RTy_bootp {n : Nat} {x : List RC} (h : RTy T reachBytes (n + 6) 29 x) : ∃ (m : BM) (xs sp : List OI) (c : Nat), svOf T 29 x = .agg (boC m (roO xs sp c)) ∧ m.ok ∧ (∀ x ∈ xs, x.ok) ∧ xs.length ≤ 4398046511104 := by
  obtain ⟨parts, rfl, g⟩ := RTy_struct T_29 h
  obtain ⟨x1, xs1, rfl, h1, g1⟩ := RTyL_cons g
  obtain ⟨x2, xs2, rfl, h2, g2⟩ := RTyL_cons g1
  obtain ⟨x3, xs3, rfl, h3, g3⟩ := RTyL_cons g2
  obtain ⟨x4, xs4, rfl, h4, g4⟩ := RTyL_cons g3
  obtain ⟨x5, xs5, rfl, h5, g5⟩ := RTyL_cons g4
  obtain ⟨x6, xs6, rfl, h6, g6⟩ := RTyL_cons g5
  obtain ⟨x7, xs7, rfl, h7, g7⟩ := RTyL_cons g6
  obtain ⟨x8, xs8, rfl, h8, g8⟩ := RTyL_cons g7
  obtain ⟨x9, xs9, rfl, h9, g9⟩ := RTyL_cons g8
  obtain ⟨x10, xs10, rfl, h10, g10⟩ := RTyL_cons g9
  obtain ⟨x11, xs11, rfl, h11, g11⟩ := RTyL_cons g10
  obtain ⟨x12, xs12, rfl, h12, g12⟩ := RTyL_cons g11
  obtain ⟨x13, xs13, rfl, h13, g13⟩ := RTyL_cons g12
  obtain rfl := RTyL_nil g13
  obtain ⟨op, rfl, hop⟩ := RTy_i64 T_3 h1
  obtain ⟨hops, rfl, hhops⟩ := RTy_i64 T_3 h2
  obtain ⟨xid, rfl, hxid⟩ := RTy_u32 T_24 h3
  obtain ⟨secs, rfl, hsecs⟩ := RTy_i64 T_3 h4
  obtain ⟨al, rfl⟩ := RTy_bool T_4 h5
  obtain ⟨ci, rfl, hci⟩ := RTy_u32 T_24 h6
  obtain ⟨yi, rfl, hyi⟩ := RTy_u32 T_24 h7
  obtain ⟨si, rfl, hsi⟩ := RTy_u32 T_24 h8
  obtain ⟨gi, rfl, hgi⟩ := RTy_u32 T_24 h9
  obtain ⟨mac, rfl⟩ := RTy_mac h10
  obtain ⟨sname, rfl, hsn⟩ := RTy_txt T_9 h11
  obtain ⟨file, rfl, hfi⟩ := RTy_txt T_9 h12
  obtain ⟨xs, sp, c, rfl, hok, hn⟩ := RTy_opts (n := n) h13
  exact ⟨⟨op, hops, xid, secs, al, ci, yi, si, gi, mac, sname, file⟩, xs, sp, c, rfl, ⟨hop, hhops, hsecs, hxid, hci, hyi, hsi, hgi, hsn, hfi⟩, hok, hn⟩
theorem tot_at {xs : List OI} {i : Nat} {x : OI} (h : xs[i]? = some x) : totO (xs.take (i + 1)) = totO (xs.take i) + (x.d.length + 1) := by
  rw [take_nextO h, totO_app]; simp [totO]
theorem tot_take_le (xs : List OI) (i : Nat) : totO (xs.take i) ≤ totO xs := by
  have h := totO_app (xs.take i) (xs.drop i)
  rw [List.take_append_drop] at h
  omega
/-- How many bytes a message has: it ends early. -/
theorem beyond16_spec (xs sp : List OI) (c : Nat) (hok : ∀ x ∈ xs, x.ok) (hn : xs.length ≤ 4398046511104) : Spec cx.P 14 [.c (roO xs sp c)] [] fun s _ => s.plain = true ∧ s = .c (bC (decide (2147483647 < totO xs))) := by
  refine spec_of_X cx_ok Try.func14 rfl (by kernel_rfl) (by kernel_rfl) (Nat.le_of_ble_eq_true rfl) 400 5 ?_
  simp (maxSteps := 4000000) only [Try.results14, XX, Nat.reduceBEq, Nat.reduceLT, Nat.reduceAdd, Nat.reduceMul, Nat.reduceSub, Nat.reduceLeDiff, Nat.reduceEqDiff, Int.reduceToNat, Int.reduceLT, Int.reduceLE, Int.reduceAdd, Int.reduceSub, Int.reduceEq, reduceIte, Nat.reduceBNe, Int.reducePow, Nat.reducePow, Int.reduceMul, Int.reduceNeg, isB_i, isB_b, isB_y, isBv_i, isBv_b, eqCells_t, TT]
  refine loop_any cx_ok 400 (fun μ σ => ∃ i : Nat, μ = xs.length - i ∧ i ≤ xs.length ∧ totO (xs.take i) ≤ 2147483647 + 140737488355328 + 1 ∧ σ = ⟨⟨5, 0⟩, [(0, .c (roO xs sp c)), (3, .c (i64 (totO (xs.take i) : Nat))), (4, .c (i64 i))], []⟩) xs.length
    ⟨⟨5, 0⟩, [(0, .c (roO xs sp c)), (3, .c (i64 (totO (xs.take 0) : Nat))), (4, .c (i64 (0 : Nat)))], []⟩ ⟨0, rfl, Nat.zero_le _, by rw [List.take_zero]; exact Nat.zero_le _, rfl⟩ (.inl ⟨rfl, rfl, rfl, rfl, rfl, trivial⟩) ?_
  rintro μ σ ⟨i, rfl, hi, hp2, rfl⟩
  by_cases hlt : i < xs.length
  · have hd : decide ((i : Int) < (xs.length : Int)) = true := by simp only [decide_eq_true_eq]; omega
    obtain ⟨x, hx⟩ : ∃ x, xs[i]? = some x := ⟨_, List.getElem?_eq_getElem hlt⟩
    obtain ⟨R, hR⟩ := osR_at (sp := sp) hx
    obtain ⟨q1, q2, q3⟩ := hok x (List.mem_of_getElem? hx)
    have hs := tot_at hx
    by_cases hb : totO (xs.take i) ≤ 2147483647
    · have d1 : decide (((totO (xs.take i) : Nat) : Int) ≤ 2147483647) = true := by simp only [decide_eq_true_eq]; omega
      have e1 : IntKind.i64.wrap (((totO (xs.take i) : Nat) : Int) + 1) = ((totO (xs.take i) + 1 : Nat) : Int) := by rw [w64] <;> omega
      have e2 : IntKind.i64.wrap (((totO (xs.take i) + 1 : Nat) : Int) + (x.d.length : Int)) = ((totO (xs.take (i + 1)) : Nat) : Int) := by rw [w64] <;> omega
      have e3 : IntKind.i64.wrap ((i : Int) + 1) = ((i + 1 : Nat) : Int) := by rw [w64] <;> omega
      simp (maxSteps := 4000000) only [Try.results14, hd, d1, hR, e1, e2, e3, XX, Nat.reduceBEq, Nat.reduceLT, Nat.reduceAdd, Nat.reduceMul, Nat.reduceSub, Nat.reduceLeDiff, Nat.reduceEqDiff, Int.reduceToNat, Int.reduceLT, Int.reduceLE, Int.reduceAdd, Int.reduceSub, Int.reduceEq, reduceIte, Nat.reduceBNe, Int.reducePow, Nat.reducePow, Int.reduceMul, Int.reduceNeg, isB_i, isB_b, isB_y, isBv_i, isBv_b, eqCells_t, TT]
      exact ⟨by omega, by omega, xs.length - (i + 1), by omega, _, ⟨i + 1, rfl, by omega, by omega, rfl⟩, .inl ⟨rfl, rfl, rfl, rfl, rfl, trivial⟩⟩
    · have d1 : decide (((totO (xs.take i) : Nat) : Int) ≤ 2147483647) = false := by simp only [decide_eq_false_iff_not]; omega
      have d2 : decide ((2147483647 : Int) < ((totO (xs.take i) : Nat) : Int)) = true := by simp only [decide_eq_true_eq]; omega
      have hle' := tot_take_le xs i
      have d3 : decide (2147483647 < totO xs) = true := by simp only [decide_eq_true_eq]; omega
      rw [d3]
      simp (maxSteps := 4000000) only [Try.results14, hd, d1, d2, XX, Nat.reduceBEq, Nat.reduceLT, Nat.reduceAdd, Nat.reduceMul, Nat.reduceSub, Nat.reduceLeDiff, Nat.reduceEqDiff, Int.reduceToNat, Int.reduceLT, Int.reduceLE, Int.reduceAdd, Int.reduceSub, Int.reduceEq, reduceIte, Nat.reduceBNe, Int.reducePow, Nat.reducePow, Int.reduceMul, Int.reduceNeg, isB_i, isB_b, isB_y, isBv_i, isBv_b, eqCells_t, TT]
  · obtain rfl : i = xs.length := by omega
    have hd : decide ((xs.length : Int) < (xs.length : Int)) = false := by simp
    rw [List.take_length]
    have d2 : decide ((2147483647 : Int) < ((totO xs : Nat) : Int)) = decide (2147483647 < totO xs) := by
      by_cases h : 2147483647 < totO xs
      · rw [decide_eq_true h, decide_eq_true (by omega)]
      · rw [decide_eq_false h, decide_eq_false (by omega)]
    simp (maxSteps := 4000000) only [Try.results14, hd, d2, XX, Nat.reduceBEq, Nat.reduceLT, Nat.reduceAdd, Nat.reduceMul, Nat.reduceSub, Nat.reduceLeDiff, Nat.reduceEqDiff, Int.reduceToNat, Int.reduceLT, Int.reduceLE, Int.reduceAdd, Int.reduceSub, Int.reduceEq, reduceIte, Nat.reduceBNe, Int.reducePow, Nat.reducePow, Int.reduceMul, Int.reduceNeg, isB_i, isB_b, isB_y, isBv_i, isBv_b, eqCells_t, TT]
end Go.Proofs.Ytgegddefcgfhgaa.Sx
namespace Go.Proofs.Ytgegddefcgfhgaa.Sx
open Go
set_option linter.unusedSimpArgs false
set_option linter.unusedVariables false
set_option maxRecDepth 10000
set_option maxHeartbeats 4000000
abbrev bpB (m : BM) (x : SC) : SB := ⟨true, 29, boC m x⟩
theorem refF_pi {xs ys : List OI} (m : BM) (h : piL xs = piL ys) : refF m xs = refF m ys := by
  have g : ∀ l : List OI, overB l = (piL l).any fun p => decide (p.1 = 52) := fun l => by
    unfold overB piL
    rw [List.any_map]; rfl
  unfold refF
  rw [g xs, g ys, h]
theorem encF_pi {xs ys : List OI} (m : BM) (h : piL xs = piL ys) : encF m xs = encF m ys := by
  unfold encF
  rw [refF_pi m h, packF_pi h]
theorem encF_le (m : BM) (hm : m.ok) (xs : List OI) : (encF m xs).1.length ≤ 140737488351232 := by
  unfold encF
  split
  · rename_i h0
    split
    · have := packF_le' (xs := xs) 1232 (by decide)
      obtain ⟨h1, h2, h3, h4⟩ := refF_zero h0
      unfold longB at h3
      simp only [Bool.or_eq_false_iff, decide_eq_false_iff_not] at h3
      simp only [encB, flagB, be4, be2, List.length_append, List.length_cons, List.length_nil, List.length_replicate]
      split <;> simp only [List.length_cons, List.length_nil] <;> omega
    · simp
  · simp
theorem bootpEncodes_walk : ∀ css, RTyL (RTy T reachBytes DEPTH) [29] css → Spec Try.prog 6 (svs T [29] css) [] fun r _ => r = .c (.v (.bool true)) := by
  intro css h
  obtain ⟨x1, xs1, rfl, h1, g1⟩ := RTyL_cons h
  obtain rfl := RTyL_nil g1
  obtain ⟨m, xs, sp, c, e1, hm, hok, hn⟩ := RTy_bootp (n := 2) h1
  simp only [svs, e1]
  clear h1 g1 h e1
  have by16 := beyond16_spec xs sp c hok hn
  have le := lentO_spec xs sp c hok hn
  by_cases hb : 2147483647 < totO xs
  · rw [decide_eq_true hb] at by16
    refine spec_of_X cx_ok Try.func6 rfl (by kernel_rfl) (by kernel_rfl) (Nat.le_of_ble_eq_true rfl) 400 17 ?_
    simp (maxSteps := 4000000) only [Try.results6, XX, Nat.reduceBEq, Nat.reduceLT, Nat.reduceAdd, Nat.reduceMul, Nat.reduceSub, Nat.reduceLeDiff, Nat.reduceEqDiff, Int.reduceToNat, Int.reduceLT, Int.reduceLE, Int.reduceAdd, Int.reduceSub, Int.reduceEq, reduceIte, Nat.reduceBNe, Int.reducePow, Nat.reducePow, Int.reduceMul, Int.reduceNeg, isB_i, isB_b, isB_y, isBv_i, isBv_b, eqCells_t, TT]
    refine call_pureF [.c (roO xs sp c)] by16 ⟨.inl ⟨rfl, rfl⟩, trivial⟩ ?_
    rintro _ rfl
    simp (maxSteps := 4000000) only [Try.results6, XX, Nat.reduceBEq, Nat.reduceLT, Nat.reduceAdd, Nat.reduceMul, Nat.reduceSub, Nat.reduceLeDiff, Nat.reduceEqDiff, Int.reduceToNat, Int.reduceLT, Int.reduceLE, Int.reduceAdd, Int.reduceSub, Int.reduceEq, reduceIte, Nat.reduceBNe, Int.reducePow, Nat.reducePow, Int.reduceMul, Int.reduceNeg, isB_i, isB_b, isB_y, isBv_i, isBv_b, eqCells_t, TT]
  rw [decide_eq_false hb] at by16
  have hl : live_spec = live_spec := rfl
  have re := rencode_spec m hm xs sp c hok hn (by omega)
  have pe := encode_spec m hm xs sp c hok hn (by omega)
  refine spec_of_X cx_ok Try.func6 rfl (by kernel_rfl) (by kernel_rfl) (Nat.le_of_ble_eq_true rfl) 400 17 ?_
  simp (maxSteps := 4000000) only [Try.results6, XX, Nat.reduceBEq, Nat.reduceLT, Nat.reduceAdd, Nat.reduceMul, Nat.reduceSub, Nat.reduceLeDiff, Nat.reduceEqDiff, Int.reduceToNat, Int.reduceLT, Int.reduceLE, Int.reduceAdd, Int.reduceSub, Int.reduceEq, reduceIte, Nat.reduceBNe, Int.reducePow, Nat.reducePow, Int.reduceMul, Int.reduceNeg, isB_i, isB_b, isB_y, isBv_i, isBv_b, eqCells_t, TT]
  refine call_pureF [.c (roO xs sp c)] by16 ⟨.inl ⟨rfl, rfl⟩, trivial⟩ ?_
  rintro _ rfl
  simp (maxSteps := 4000000) only [Try.results6, XX, Nat.reduceBEq, Nat.reduceLT, Nat.reduceAdd, Nat.reduceMul, Nat.reduceSub, Nat.reduceLeDiff, Nat.reduceEqDiff, Int.reduceToNat, Int.reduceLT, Int.reduceLE, Int.reduceAdd, Int.reduceSub, Int.reduceEq, reduceIte, Nat.reduceBNe, Int.reducePow, Nat.reducePow, Int.reduceMul, Int.reduceNeg, isB_i, isB_b, isB_y, isBv_i, isBv_b, eqCells_t, TT]
  refine call_pureF [] (K := fun s => s = .c (bC true)) live_spec trivial ?_
  rintro _ rfl
  simp (maxSteps := 4000000) only [Try.results6, XX, Nat.reduceBEq, Nat.reduceLT, Nat.reduceAdd, Nat.reduceMul, Nat.reduceSub, Nat.reduceLeDiff, Nat.reduceEqDiff, Int.reduceToNat, Int.reduceLT, Int.reduceLE, Int.reduceAdd, Int.reduceSub, Int.reduceEq, reduceIte, Nat.reduceBNe, Int.reducePow, Nat.reducePow, Int.reduceMul, Int.reduceNeg, isB_i, isB_b, isB_y, isBv_i, isBv_b, eqCells_t, TT]
  refine call_fz [.agg (boC m (roO xs sp c))] re (fun t h' h => resB_noRo h) ⟨.inl ⟨rfl, rfl⟩, trivial⟩ ?_
  rintro _ _ ⟨z0, o0, rfl, rfl, ho0⟩
  simp (maxSteps := 4000000) only [Try.results6, ids_bsC, ren_bsC, noRo_bsC, plain_bsC, lt_bsC, ids_byte, ren_byte, noRo_byte, plain_byte, lt_byte, XX, Nat.reduceBEq, Nat.reduceLT, Nat.reduceAdd, Nat.reduceMul, Nat.reduceSub, Nat.reduceLeDiff, Nat.reduceEqDiff, Int.reduceToNat, Int.reduceLT, Int.reduceLE, Int.reduceAdd, Int.reduceSub, Int.reduceEq, reduceIte, Nat.reduceBNe, Int.reducePow, Nat.reducePow, Int.reduceMul, Int.reduceNeg, isB_i, isB_b, isB_y, isBv_i, isBv_b, eqCells_t, TT]
  refine call_lentO [.c (roO xs sp c)] le ⟨.inl ⟨rfl, rfl⟩, trivial⟩ ?_
  rintro t es L hw hpi
  obtain ⟨hoe, hpe, hle⟩ := lent_ok hpi hok
  have p1 := encode_spec m hm (es.map PE.oi) [] (es.length + 2) hoe (by rw [List.length_map]; omega) (by rw [totO_pi hpe]; omega)
  rw [encF_pi m hpe] at p1
  have ew0 := hw
  refine gen_hp (fun H => H[0]? = some (bpB m (roO xs sp c)) ∧ H[1]? = some (wB o0 ((encF m xs).1 ++ z0)) ∧ H[2]? = some (bpB m (roO xs sp c)) ∧ LentO H 3 es ∧ 3 < H.length) ⟨rfl, rfl, rfl, L, lt_of L.row⟩ ?_
  clear L
  rintro H ⟨w0, w1, w2, LH, lH⟩
  have l2 := lt_of w2
  have hA1 := encF_le m hm xs
  obtain ⟨A, hA⟩ : ∃ A, A = encF m xs := ⟨_, rfl⟩
  rw [← hA] at p1 re pe w1 ho0 hA1 ⊢
  obtain ⟨A, ea⟩ := A
  clear hA
  dsimp only at p1 re pe w1 ho0 hA1 ⊢
  simp only [List.length_cons, List.length_nil, Nat.reduceAdd] at hw ⊢
  simp (maxSteps := 4000000) only [Try.results6, w0, w2, l2, lH, set_end, List.append_assoc, List.getElem?_append_left, List.getElem?_append_right, List.length_append, List.length_set, List.set_append_left, gset, List.getElem?_set_ne, Nat.add_sub_cancel_left, Nat.sub_self, Nat.le_refl, Nat.le_add_right, List.replicate_one, List.flatten_cons, List.flatten_nil, rep_flat, XX, Nat.reduceBEq, Nat.reduceLT, Nat.reduceAdd, Nat.reduceMul, Nat.reduceSub, Nat.reduceLeDiff, Nat.reduceEqDiff, Int.reduceToNat, Int.reduceLT, Int.reduceLE, Int.reduceAdd, Int.reduceSub, Int.reduceEq, reduceIte, Nat.reduceBNe, Int.reducePow, Nat.reducePow, Int.reduceMul, Int.reduceNeg, isB_i, isB_b, isB_y, isBv_i, isBv_b, eqCells_t, TT]
  refine gen_call16 (fun G => G[0]? = some (bpB m (roO xs sp c)) ∧ G[1]? = some (wB o0 (A ++ z0)) ∧ G[2]? = some (bpB m (.sl 3 0 es.length (es.length + 2))) ∧ LentO G 3 es ∧ 3 < G.length) ⟨by rw [List.getElem?_set_ne (by omega)]; exact w0, by rw [List.getElem?_set_ne (by omega)]; exact w1, by rw [List.getElem?_set_self l2], LH.keep (by rw [List.getElem?_set_ne (by omega)]) (fun e he => by rw [List.getElem?_set_ne (by have := hw e he; omega)]), by rw [List.length_set]; exact lH⟩ ?_
  clear w0 w1 w2 LH lH l2
  rintro G ⟨w0, w1, w2, LH, lH⟩
  refine call_fz [.agg (boC m (roO (es.map PE.oi) [] (es.length + 2)))] p1 (fun t h' h => resB_noRo h) ⟨bo_fz LH.frc, trivial⟩ ?_
  rintro _ _ ⟨z1, o1, rfl, rfl, ho1⟩
  have l2 := lt_of w2
  simp (maxSteps := 4000000) only [Try.results6, w2, l2, set_end, ids_bsC, ren_bsC, noRo_bsC, plain_bsC, lt_bsC, ids_byte, ren_byte, noRo_byte, plain_byte, lt_byte, List.append_assoc, List.getElem?_append_left, List.getElem?_append_right, List.length_append, List.length_set, List.set_append_left, gset, List.getElem?_set_ne, Nat.add_sub_cancel_left, Nat.sub_self, Nat.le_refl, Nat.le_add_right, List.replicate_one, List.flatten_cons, List.flatten_nil, rep_flat, XX, Nat.reduceBEq, Nat.reduceLT, Nat.reduceAdd, Nat.reduceMul, Nat.reduceSub, Nat.reduceLeDiff, Nat.reduceEqDiff, Int.reduceToNat, Int.reduceLT, Int.reduceLE, Int.reduceAdd, Int.reduceSub, Int.reduceEq, reduceIte, Nat.reduceBNe, Int.reducePow, Nat.reducePow, Int.reduceMul, Int.reduceNeg, isB_i, isB_b, isB_y, isBv_i, isBv_b, eqCells_t, TT]
  refine call_fz [.agg (boC m (roO (es.map PE.oi) [] (es.length + 2)))] p1 (fun t h' h => resB_noRo h) ⟨bo_fz (LH.app _).frc, trivial⟩ ?_
  rintro _ _ ⟨z2, o2, rfl, rfl, ho2⟩
  have l0 := lt_of w0
  obtain ⟨n, hn'⟩ : ∃ n, n = G.length := ⟨_, rfl⟩
  rw [← hn'] at lH
  refine gen_hp (fun K => K[0]? = some (bpB m (roO xs sp c)) ∧ K[1]? = some (wB o0 (A ++ z0)) ∧ K[2]? = some (bpB m (.sl 3 0 es.length (es.length + 2))) ∧ LentO K 3 es ∧ K[n]? = some (wB o1 (A ++ z1)) ∧ K[n + 1]? = some (wB o2 (A ++ z2)) ∧ ∀ e ∈ es, e.w < n) ⟨?_, ?_, ?_, ?_, ?_, ?_, ?_⟩ ?_
  · rw [List.append_assoc, List.getElem?_append_left l0]; exact w0
  · rw [List.append_assoc, List.getElem?_append_left (lt_of w1)]; exact w1
  · rw [List.append_assoc, List.getElem?_append_left l2]; exact w2
  · exact (LH.app _).app _
  · subst hn'
    rw [List.append_assoc, List.getElem?_append_right (Nat.le_refl _), Nat.sub_self]; rfl
  · subst hn'
    rw [List.append_assoc, List.getElem?_append_right (by omega), Nat.add_sub_cancel_left]
    show some (SB.mk _ _ (List.map _ (bsC _))) = _
    rw [ren_bsC]
  · subst hn'
    exact fun e he => LH.lt he
  have e1 : (G ++ [({ own := o1, ty := 5, cells := bsC (A ++ z1) } : SB)]).length = n + 1 := by rw [List.length_append, hn']; rfl
  rw [e1, ← hn']
  clear w0 w1 w2 LH l0 l2 e1 hn'
  rintro K ⟨w0, w1, w2, LH, w3, w4, hes⟩
  have l0 := lt_of w0
  have l1 := lt_of w1
  have l2 := lt_of w2
  have l3 := lt_of w3
  have l4 := lt_of w4
  simp (maxSteps := 4000000) only [Try.results6, w0, w2, l0, l2, set_end, ids_bsC, ren_bsC, noRo_bsC, plain_bsC, lt_bsC, ids_byte, ren_byte, noRo_byte, plain_byte, lt_byte, List.append_assoc, List.getElem?_append_left, List.getElem?_append_right, List.length_append, List.length_set, List.set_append_left, gset, List.getElem?_set_ne, Nat.add_sub_cancel_left, Nat.sub_self, Nat.le_refl, Nat.le_add_right, List.replicate_one, List.flatten_cons, List.flatten_nil, rep_flat, XX, Nat.reduceBEq, Nat.reduceLT, Nat.reduceAdd, Nat.reduceMul, Nat.reduceSub, Nat.reduceLeDiff, Nat.reduceEqDiff, Int.reduceToNat, Int.reduceLT, Int.reduceLE, Int.reduceAdd, Int.reduceSub, Int.reduceEq, reduceIte, Nat.reduceBNe, Int.reducePow, Nat.reducePow, Int.reduceMul, Int.reduceNeg, isB_i, isB_b, isB_y, isBv_i, isBv_b, eqCells_t, TT]
  refine call_is (asLentO_spec K 3 es LH xs sp c hpi hok hn) ?_
  rintro _ K2 ⟨rfl, hl2, hk2⟩
  have v0 : K2[0]? = some (bpB m (roO xs sp c)) := (hk2 0 (by omega) fun e he => by have := hw e he; omega).trans w0
  have v1 : K2[1]? = some (wB o0 (A ++ z0)) := (hk2 1 (by omega) fun e he => by have := hw e he; omega).trans w1
  have v3 : K2[n]? = some (wB o1 (A ++ z1)) := (hk2 n (by omega) fun e he => by have := hes e he; omega).trans w3
  have v4 : K2[n + 1]? = some (wB o2 (A ++ z2)) := (hk2 (n + 1) (by omega) fun e he => by have := hes e he; omega).trans w4
  have m0 := lt_of v0
  have m1 := lt_of v1
  have m3 := lt_of v3
  have m4 := lt_of v4
  have tk : ∀ a b : List UInt8, (bsC (a ++ b)).take a.length = bsC a := fun a b => by rw [bs_take, List.take_left' rfl]
  have q : ∀ a b : List UInt8, a.length ≤ (bsC (a ++ b)).length ∧ ∀ c ∈ bsC a, isByte c = true := fun a b => ⟨by simp, isByte_bsC a⟩
  have da : decide (ea = ea) = true := by simp
  clear w0 w1 w2 LH w3 w4 l0 l1 l2 l3 l4 hk2
  simp (maxSteps := 4000000) only [Try.results6, ids_bsC, ren_bsC, noRo_bsC, plain_bsC, lt_bsC, ids_byte, ren_byte, noRo_byte, plain_byte, lt_byte, v0, v1, v3, v4, m0, m1, m3, m4, tk, strOf_bsC, str_eq, da, XX, Nat.reduceBEq, Nat.reduceLT, Nat.reduceAdd, Nat.reduceMul, Nat.reduceSub, Nat.reduceLeDiff, Nat.reduceEqDiff, Int.reduceToNat, Int.reduceLT, Int.reduceLE, Int.reduceAdd, Int.reduceSub, Int.reduceEq, reduceIte, Nat.reduceBNe, Int.reducePow, Nat.reducePow, Int.reduceMul, Int.reduceNeg, isB_i, isB_b, isB_y, isBv_i, isBv_b, eqCells_t, TT]
  have wb : (K2 ++ [bookB nilC nilC])[K2.length]? = some (bookB nilC nilC) := by rw [List.getElem?_append_right (Nat.le_refl _), Nat.sub_self]; rfl
  have u0 : (K2 ++ [bookB nilC nilC])[0]? = some (bpB m (roO xs sp c)) := by rw [List.getElem?_append_left m0]; exact v0
  have u1 : (K2 ++ [bookB nilC nilC])[1]? = some (wB o0 (A ++ z0)) := by rw [List.getElem?_append_left m1]; exact v1
  have u3 : (K2 ++ [bookB nilC nilC])[n]? = some (wB o1 (A ++ z1)) := by rw [List.getElem?_append_left m3]; exact v3
  have u4 : (K2 ++ [bookB nilC nilC])[n + 1]? = some (wB o2 (A ++ z2)) := by rw [List.getElem?_append_left m4]; exact v4
  have lb := lt_of wb
  refine ⟨q _ _, q _ _, q _ _, q _ _, ?_⟩
  refine call_is (take0_spec _ K2.length n A z1 o1 _ (by omega) wb u3) ?_
  rintro _ h1 ⟨rfl, iL, cL, iW, cW, B1, b1, ll1, lw1⟩
  simp (maxSteps := 4000000) only [Try.results6, XX, Nat.reduceBEq, Nat.reduceLT, Nat.reduceAdd, Nat.reduceMul, Nat.reduceSub, Nat.reduceLeDiff, Nat.reduceEqDiff, Int.reduceToNat, Int.reduceLT, Int.reduceLE, Int.reduceAdd, Int.reduceSub, Int.reduceEq, reduceIte, Nat.reduceBNe, Int.reducePow, Nat.reducePow, Int.reduceMul, Int.reduceNeg, isB_i, isB_b, isB_y, isBv_i, isBv_b, eqCells_t, TT]
  refine call_is (take_spec h1 K2.length (n + 1) _ _ _ _ _ _ A z2 o2 _ (by omega) B1 (by simp) ((b1.2 (n + 1) (lt_of u4) (by omega)).trans u4)) ?_
  rintro _ h2 ⟨rfl, iL2, cL2, iW2, cW2, B2, b2, ll2, lw2⟩
  have k2 : ∀ k, k < K2.length → h2[k]? = (K2 ++ [bookB nilC nilC])[k]? := fun k hk => by
    have q0 : k < (K2 ++ [bookB nilC nilC]).length := by rw [List.length_append]; omega
    have q1 := Nat.lt_of_lt_of_le q0 ll1
    have q2 := Nat.lt_of_lt_of_le q0 lw1
    exact (b2.2 k (Nat.lt_of_lt_of_le q0 b1.1) (by rintro (h | h | h) <;> omega)).trans (b1.2 k q0 (by omega))
  have y0 := (k2 0 m0).trans u0
  have y1 := (k2 1 m1).trans u1
  simp (maxSteps := 4000000) only [Try.results6, XX, Nat.reduceBEq, Nat.reduceLT, Nat.reduceAdd, Nat.reduceMul, Nat.reduceSub, Nat.reduceLeDiff, Nat.reduceEqDiff, Int.reduceToNat, Int.reduceLT, Int.reduceLE, Int.reduceAdd, Int.reduceSub, Int.reduceEq, reduceIte, Nat.reduceBNe, Int.reducePow, Nat.reducePow, Int.reduceMul, Int.reduceNeg, isB_i, isB_b, isB_y, isBv_i, isBv_b, eqCells_t, TT]
  refine call_is (ownedF_spec (es := [⟨n, A, z1, o1⟩, ⟨n + 1, A, z2, o2⟩]) B2 (owns2 lb b1 ll1 lw1 b2 u3 u4 (by omega) (by omega) ho1 ho2 (by omega) (by omega) (by omega)) (by simp)) ?_
  rintro _ h3 ⟨rfl, hl3, hk3⟩
  have x0 : h3[0]? = some (bpB m (roO xs sp c)) := hk3 0 _ y0 (by omega) (ty_ne y0 B2.L (by decide : (29 : Nat) ≠ 22)) (ty_ne y0 B2.W (by decide : (29 : Nat) ≠ 9)) (by intro e he; simp only [List.mem_cons, List.not_mem_nil, or_false] at he; rcases he with rfl | rfl <;> (dsimp only; omega))
  have x1 : h3[1]? = some (wB o0 (A ++ z0)) := hk3 1 _ y1 (by omega) (ty_ne y1 B2.L (by decide : (5 : Nat) ≠ 22)) (ty_ne y1 B2.W (by decide : (5 : Nat) ≠ 9)) (by intro e he; simp only [List.mem_cons, List.not_mem_nil, or_false] at he; rcases he with rfl | rfl <;> (dsimp only; omega))
  have e0 := lt_of x0
  have e1 := lt_of x1
  simp (maxSteps := 4000000) only [Try.results6, x0, e0, XX, Nat.reduceBEq, Nat.reduceLT, Nat.reduceAdd, Nat.reduceMul, Nat.reduceSub, Nat.reduceLeDiff, Nat.reduceEqDiff, Int.reduceToNat, Int.reduceLT, Int.reduceLE, Int.reduceAdd, Int.reduceSub, Int.reduceEq, reduceIte, Nat.reduceBNe, Int.reducePow, Nat.reducePow, Int.reduceMul, Int.reduceNeg, isB_i, isB_b, isB_y, isBv_i, isBv_b, eqCells_t, TT]
  refine call_fz [.agg (boC m (roO xs sp c))] pe (fun t h' h => resB_noRo h) ⟨.inl ⟨rfl, rfl⟩, trivial⟩ ?_
  rintro _ _ ⟨z5, o5, rfl, rfl, ho5⟩
  have e5 : ∀ x : SB, (h3 ++ [x])[h3.length]? = some x := fun x => by rw [List.getElem?_append_right (Nat.le_refl _), Nat.sub_self]; rfl
  simp (maxSteps := 4000000) only [Try.results6, ids_bsC, ren_bsC, noRo_bsC, plain_bsC, lt_bsC, ids_byte, ren_byte, noRo_byte, plain_byte, lt_byte, x0, x1, e0, e1, e5, tk, strOf_bsC, str_eq, da, List.append_assoc, List.getElem?_append_left, List.getElem?_append_right, List.length_append, List.length_set, List.set_append_left, gset, List.getElem?_set_ne, Nat.add_sub_cancel_left, Nat.sub_self, Nat.le_refl, Nat.le_add_right, List.replicate_one, List.flatten_cons, List.flatten_nil, rep_flat, XX, Nat.reduceBEq, Nat.reduceLT, Nat.reduceAdd, Nat.reduceMul, Nat.reduceSub, Nat.reduceLeDiff, Nat.reduceEqDiff, Int.reduceToNat, Int.reduceLT, Int.reduceLE, Int.reduceAdd, Int.reduceSub, Int.reduceEq, reduceIte, Nat.reduceBNe, Int.reducePow, Nat.reducePow, Int.reduceMul, Int.reduceNeg, isB_i, isB_b, isB_y, isBv_i, isBv_b, eqCells_t, TT]
  exact ⟨q _ _, q _ _⟩
end Go.Proofs.Ytgegddefcgfhgaa.Sx
namespace Go.Proofs.Ytgegddefcgfhgaa.Sx
open Go
set_option linter.unusedSimpArgs false
set_option linter.unusedVariables false
set_option maxRecDepth 10000
set_option maxHeartbeats 4000000
theorem Opts.keep {H H' : List SB} {iO : Nat} {o : Bool} {es : List PE} {r : Nat} (O : Opts H iO o es r) (h0 : H'[iO]? = H[iO]?) (h1 : ∀ e ∈ es, H'[e.w]? = H[e.w]?) : Opts H' iO o es r :=
  ⟨h0.trans O.row, O.own, fun i e he => ⟨(h1 e (List.mem_of_getElem? he)).trans (O.at_ i e he).1, (O.at_ i e he).2⟩, O.ne⟩
end Go.Proofs.Ytgegddefcgfhgaa.Sx
