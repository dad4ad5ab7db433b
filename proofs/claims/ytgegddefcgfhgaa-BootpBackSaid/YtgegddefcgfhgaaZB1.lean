/- The symbolic executor, at work: what the laws lean on, part 1. No condition. -/
import Derived.Test.YtgegddefcgfhgaaZ3
namespace Go.Proofs.Ytgegddefcgfhgaa.Sx
open Go
set_option linter.unusedSimpArgs false
set_option linter.unusedVariables false
theorem RTy_byte {B n : Nat} {x : List RC} (h : RTy T B (n + 1) 5 x) : ∃ b : UInt8, x = [byteR b] := by
  obtain ⟨z, rfl, h1, h2⟩ := RTy_int T_5 h
  simp [IntKind.min, IntKind.max, IntKind.bits, IntKind.signed] at h1 h2
  refine ⟨UInt8.ofNat z.toNat, ?_⟩
  simp only [byteR]
  congr 3
  simp
  omega
theorem bsR_flat : ∀ ys : List UInt8, (ys.map fun b : UInt8 => [byteR b]).flatten = bsR ys
  | [] => rfl
  | y :: ys => by simp only [List.map_cons, List.flatten_cons, bsR_flat ys]; rfl
theorem RTy_bytes {B n : Nat} {x : List RC} (h : RTy T B (n + 2) 22 x) : ∃ (l sp : List UInt8) (c : Nat), x = [.sl (bsR (l ++ sp)) l.length c] ∧ l.length ≤ c ∧ c = l.length + sp.length ∧ c ≤ maxLen ∧ c ≤ B := by
  obtain ⟨items, len, rfl, h1, h2, h3, h4⟩ := RTy_slice T_22 T_5 h
  obtain ⟨ys, rfl, _⟩ := all_form (p := fun _ => True) (f := fun b : UInt8 => [byteR b]) fun x hx => by
    obtain ⟨b, rfl⟩ := RTy_byte (h4 x hx)
    exact ⟨b, rfl, trivial⟩
  simp only [List.length_map, Nat.mul_one] at h1 h2 h3 ⊢
  refine ⟨ys.take len, ys.drop len, ys.length, ?_, ?_, ?_, h2, h3⟩
  · rw [bsR_flat, List.take_append_drop, List.length_take, Nat.min_eq_left h1]
  · rw [List.length_take]; omega
  · rw [List.length_take, List.length_drop]; omega
end Go.Proofs.Ytgegddefcgfhgaa.Sx
namespace Go.Proofs.Ytgegddefcgfhgaa.Sx
open Go
set_option linter.unusedSimpArgs false
set_option linter.unusedVariables false
set_option maxRecDepth 10000
set_option maxHeartbeats 1000000
theorem RTy_mac {B n : Nat} {x : List RC} (h : RTy T B (n + 2) 26 x) : ∃ m : M6, x = bsR m.l := by
  obtain ⟨parts, h1, rfl, h2⟩ := RTy_array T_26 h
  obtain ⟨ys, rfl, _⟩ := all_form (p := fun _ => True) (f := fun b : UInt8 => [byteR b]) fun x hx => by
    obtain ⟨b, rfl⟩ := RTy_byte (h2 x hx)
    exact ⟨b, rfl, trivial⟩
  rw [List.length_map] at h1
  match ys, h1 with
  | [a, b, c, d, e, f], _ => exact ⟨⟨a, b, c, d, e, f⟩, rfl⟩
end Go.Proofs.Ytgegddefcgfhgaa.Sx
namespace Go.Proofs.Ytgegddefcgfhgaa.Sx
open Go
set_option linter.unusedSimpArgs false
set_option linter.unusedVariables false
set_option maxRecDepth 10000
set_option maxHeartbeats 2000000
theorem OI.form {n : Nat} {x : List RC} (h : RTy T reachBytes (n + 4) 74 x) : ∃ o : OI, x = o.rc ∧ o.ok := by
  obtain ⟨parts, rfl, h1⟩ := RTy_struct T_74 h
  simp only [List.map_cons, List.map_nil] at h1
  obtain ⟨p1, r1, rfl, q1, h2⟩ := RTyL_cons h1
  obtain ⟨p2, r2, rfl, q2, h3⟩ := RTyL_cons h2
  obtain rfl := RTyL_nil h3
  obtain ⟨a, rfl, ha⟩ := RTy_int T_3 q1
  obtain ⟨l, sp, c, rfl, hc1, hc2, hc3, hc4⟩ := RTy_bytes (n := n + 1) q2
  simp [IntKind.min, IntKind.max, IntKind.bits, IntKind.signed] at ha
  exact ⟨⟨a, l, sp, c⟩, rfl, hc1, (by show l.length ≤ _; have h4 : c ≤ 140737488351232 := hc4; omega), ha.1, by have := ha.2; show a < _; omega⟩
section
variable (xs sp : List OI) (c : Nat) (hok : ∀ x ∈ xs, x.ok) (hn : xs.length ≤ 140737488355328) (k : Int)
include hok hn
end
end Go.Proofs.Ytgegddefcgfhgaa.Sx
namespace Go.Proofs.Ytgegddefcgfhgaa.Sx
open Go
set_option linter.unusedSimpArgs false
set_option linter.unusedVariables false
set_option maxRecDepth 10000
set_option maxHeartbeats 2000000
theorem totO_app (a b : List OI) : totO (a ++ b) = totO a + totO b := by simp [totO]
end Go.Proofs.Ytgegddefcgfhgaa.Sx
namespace Go.Proofs.Ytgegddefcgfhgaa.Sx
open Go
set_option linter.unusedSimpArgs false
set_option linter.unusedVariables false
set_option maxRecDepth 10000
set_option maxHeartbeats 2000000
theorem RTy_opts {n : Nat} {x : List RC} (h : RTy T reachBytes (n + 5) 27 x) : ∃ (xs sp : List OI) (c : Nat), x = [.sl (osR (xs ++ sp)) xs.length c] ∧ (∀ x ∈ xs, x.ok) ∧ xs.length ≤ 4398046511104 := by
  obtain ⟨items, len, rfl, h1, h2, h3, h4⟩ := RTy_slice T_27 T_74 h
  obtain ⟨ys, rfl, hys⟩ := all_form fun x hx => OI.form (n := n) (h4 x hx)
  simp only [List.length_map] at h1 h2 h3 ⊢
  have h3' : ys.length * 32 ≤ 140737488351232 := h3
  refine ⟨ys.take len, ys.drop len, ys.length, ?_, fun x hx => hys x (List.mem_of_mem_take hx), by rw [List.length_take]; omega⟩
  rw [List.take_append_drop, List.length_take, Nat.min_eq_left h1]
theorem lent_ok {es : List PE} {xs : List OI} (hpi : es.map PE.pi = piL xs) (hok : ∀ x ∈ xs, x.ok) : (∀ x ∈ es.map PE.oi, x.ok) ∧ piL (es.map PE.oi) = piL xs ∧ es.length = xs.length := by
  refine ⟨fun x hx => ?_, by rw [← hpi, piL, List.map_map]; rfl, by have := congrArg List.length hpi; simpa using this⟩
  simp only [List.mem_map] at hx
  obtain ⟨e, he, rfl⟩ := hx
  have : e.pi ∈ piL xs := by rw [← hpi]; exact List.mem_map_of_mem he
  simp only [piL, List.mem_map] at this
  obtain ⟨y, hy, hye⟩ := this
  simp only [OI.pi, PE.pi, Prod.mk.injEq] at hye
  obtain ⟨q1, q2, q3⟩ := hok y hy
  exact ⟨Nat.le_add_right _ _, by show e.d.length ≤ _; rw [← hye.2]; exact q2, by show _ ≤ e.k ∧ e.k < _; rw [← hye.1]; exact q3⟩
theorem LentO.keep {H H' : List SB} {iO : Nat} {es : List PE} (L : LentO H iO es) (h0 : H'[iO]? = H[iO]?) (h1 : ∀ e ∈ es, H'[e.w]? = H[e.w]?) : LentO H' iO es :=
  ⟨h0.trans L.row, fun i e he => ⟨(h1 e (List.mem_of_getElem? he)).trans (L.at_ i e he).1, (L.at_ i e he).2⟩, L.ne, L.sp⟩
theorem RTy_txt {t : TypeId} {a b : Nat} {z : List Value} {n : Nat} {x : List RC} (ht : T t = some ⟨.str, a, b, z⟩) (h : RTy T reachBytes (n + 1) t x) : ∃ l : List UInt8, x = [.v (.string ⟨l.toArray⟩)] ∧ l.length ≤ 140737488355328 := by
  obtain ⟨s, rfl, hs⟩ := RTy_str ht h
  refine ⟨s.data.toList, by simp, ?_⟩
  have : s.data.toList.length = s.size := by show s.data.toList.length = s.data.size; exact Array.length_toList
  rw [this]; have h4 : s.size ≤ 140737488351232 := hs; omega
theorem RTy_u32 {t : TypeId} {a b : Nat} {z : List Value} {n : Nat} {x : List RC} (ht : T t = some ⟨.int .u32, a, b, z⟩) (h : RTy T reachBytes (n + 1) t x) : ∃ k : Nat, x = [.v (.int .u32 (k : Int))] ∧ k < 4294967296 := by
  obtain ⟨z, rfl, h1, h2⟩ := RTy_int ht h
  simp [IntKind.min, IntKind.max, IntKind.bits, IntKind.signed] at h1 h2
  exact ⟨z.toNat, by rw [Int.toNat_of_nonneg h1], by omega⟩
theorem RTy_i64 {t : TypeId} {a b : Nat} {z : List Value} {n : Nat} {x : List RC} (ht : T t = some ⟨.int .i64, a, b, z⟩) (h : RTy T reachBytes (n + 1) t x) : ∃ k : Int, x = [.v (.int .i64 k)] ∧ -9223372036854775808 ≤ k ∧ k < 9223372036854775808 := by
  obtain ⟨z, rfl, h1, h2⟩ := RTy_int ht h
  simp [IntKind.min, IntKind.max, IntKind.bits, IntKind.signed] at h1 h2
  exact ⟨z, rfl, h1, by omega⟩
theorem RTy_bootp {n : Nat} {x : List RC} (h : RTy T reachBytes (n + 6) 29 x) : ∃ (m : BM) (xs sp : List OI) (c : Nat), svOf T 29 x = .agg (boC m (roO xs sp c)) ∧ m.ok ∧ (∀ x ∈ xs, x.ok) ∧ xs.length ≤ 4398046511104 := by
  obtain ⟨parts, rfl, g⟩ := RTy_struct T_29 h
  obtain ⟨x1, xs1, rfl, h1, g1⟩ := RTyL_cons g
  obtain ⟨x2, xs2, rfl, h2, g2⟩ := RTyL_cons g1
  obtain ⟨x3, xs3, rfl, h3, g3⟩ := RTyL_cons g2
  obtain ⟨x4, xs4, rfl, h4, g4⟩ := RTyL_cons g3
  obtain ⟨x5, xs5, rfl, h5, g5⟩ := RTyL_cons g4
  obtain ⟨x6, xs6, rfl, h6, g6⟩ := RTyL_cons g5
  obtain ⟨x7, xs7, rfl, h7, g7⟩ := RTyL_cons g6
  obtain ⟨x8, xs8, rfl, h8, g8⟩ := RTyL_cons g7
  obtain ⟨x9, xs9, rfl, h9, g9⟩ := RTyL_cons g8
  obtain ⟨x10, xs10, rfl, h10, g10⟩ := RTyL_cons g9
  obtain ⟨x11, xs11, rfl, h11, g11⟩ := RTyL_cons g10
  obtain ⟨x12, xs12, rfl, h12, g12⟩ := RTyL_cons g11
  obtain ⟨x13, xs13, rfl, h13, g13⟩ := RTyL_cons g12
  obtain rfl := RTyL_nil g13
  obtain ⟨op, rfl, hop⟩ := RTy_i64 T_3 h1
  obtain ⟨hops, rfl, hhops⟩ := RTy_i64 T_3 h2
  obtain ⟨xid, rfl, hxid⟩ := RTy_u32 T_24 h3
  obtain ⟨secs, rfl, hsecs⟩ := RTy_i64 T_3 h4
  obtain ⟨al, rfl⟩ := RTy_bool T_4 h5
  obtain ⟨ci, rfl, hci⟩ := RTy_u32 T_24 h6
  obtain ⟨yi, rfl, hyi⟩ := RTy_u32 T_24 h7
  obtain ⟨si, rfl, hsi⟩ := RTy_u32 T_24 h8
  obtain ⟨gi, rfl, hgi⟩ := RTy_u32 T_24 h9
  obtain ⟨mac, rfl⟩ := RTy_mac h10
  obtain ⟨sname, rfl, hsn⟩ := RTy_txt T_9 h11
  obtain ⟨file, rfl, hfi⟩ := RTy_txt T_9 h12
  obtain ⟨xs, sp, c, rfl, hok, hn⟩ := RTy_opts (n := n) h13
  exact ⟨⟨op, hops, xid, secs, al, ci, yi, si, gi, mac, sname, file⟩, xs, sp, c, rfl, ⟨hop, hhops, hsecs, hxid, hci, hyi, hsi, hgi, hsn, hfi⟩, hok, hn⟩
theorem tot_at {xs : List OI} {i : Nat} {x : OI} (h : xs[i]? = some x) : totO (xs.take (i + 1)) = totO (xs.take i) + (x.d.length + 1) := by
  rw [take_nextO h, totO_app]; simp [totO]
theorem tot_take_le (xs : List OI) (i : Nat) : totO (xs.take i) ≤ totO xs := by
  have h := totO_app (xs.take i) (xs.drop i)
  rw [List.take_append_drop] at h
  omega
/-- How many bytes a message has: it ends early. -/
theorem beyond16_spec (xs sp : List OI) (c : Nat) (hok : ∀ x ∈ xs, x.ok) (hn : xs.length ≤ 4398046511104) : Spec cx.P 14 [.c (roO xs sp c)] [] fun s _ => s.plain = true ∧ s = .c (bC (decide (2147483647 < totO xs))) := by
  refine spec_of_X cx_ok Try.func14 rfl (by kernel_rfl) (by kernel_rfl) (Nat.le_of_ble_eq_true rfl) 400 5 ?_
  simp (maxSteps := 4000000) only [Try.results14, XX, Nat.reduceBEq, Nat.reduceLT, Nat.reduceAdd, Nat.reduceMul, Nat.reduceSub, Nat.reduceLeDiff, Nat.reduceEqDiff, Int.reduceToNat, Int.reduceLT, Int.reduceLE, Int.reduceAdd, Int.reduceSub, Int.reduceEq, reduceIte, Nat.reduceBNe, Int.reducePow, Nat.reducePow, Int.reduceMul, Int.reduceNeg, isB_i, isB_b, isB_y, isBv_i, isBv_b, eqCells_t, TT]
  refine loop_any cx_ok 400 (fun μ σ => ∃ i : Nat, μ = xs.length - i ∧ i ≤ xs.length ∧ totO (xs.take i) ≤ 2147483647 + 140737488355328 + 1 ∧ σ = ⟨⟨5, 0⟩, [(0, .c (roO xs sp c)), (3, .c (i64 (totO (xs.take i) : Nat))), (4, .c (i64 i))], []⟩) xs.length
    ⟨⟨5, 0⟩, [(0, .c (roO xs sp c)), (3, .c (i64 (totO (xs.take 0) : Nat))), (4, .c (i64 (0 : Nat)))], []⟩ ⟨0, rfl, Nat.zero_le _, by rw [List.take_zero]; exact Nat.zero_le _, rfl⟩ (.inl ⟨rfl, rfl, rfl, rfl, rfl, trivial⟩) ?_
  rintro μ σ ⟨i, rfl, hi, hp2, rfl⟩
  by_cases hlt : i < xs.length
  · have hd : decide ((i : Int) < (xs.length : Int)) = true := by simp only [decide_eq_true_eq]; omega
    obtain ⟨x, hx⟩ : ∃ x, xs[i]? = some x := ⟨_, List.getElem?_eq_getElem hlt⟩
    obtain ⟨R, hR⟩ := osR_at (sp := sp) hx
    obtain ⟨q1, q2, q3⟩ := hok x (List.mem_of_getElem? hx)
    have hs := tot_at hx
    by_cases hb : totO (xs.take i) ≤ 2147483647
    · have d1 : decide (((totO (xs.take i) : Nat) : Int) ≤ 2147483647) = true := by simp only [decide_eq_true_eq]; omega
      have e1 : IntKind.i64.wrap (((totO (xs.take i) : Nat) : Int) + 1) = ((totO (xs.take i) + 1 : Nat) : Int) := by rw [w64] <;> omega
      have e2 : IntKind.i64.wrap (((totO (xs.take i) + 1 : Nat) : Int) + (x.d.length : Int)) = ((totO (xs.take (i + 1)) : Nat) : Int) := by rw [w64] <;> omega
      have e3 : IntKind.i64.wrap ((i : Int) + 1) = ((i + 1 : Nat) : Int) := by rw [w64] <;> omega
      simp (maxSteps := 4000000) only [Try.results14, hd, d1, hR, e1, e2, e3, XX, Nat.reduceBEq, Nat.reduceLT, Nat.reduceAdd, Nat.reduceMul, Nat.reduceSub, Nat.reduceLeDiff, Nat.reduceEqDiff, Int.reduceToNat, Int.reduceLT, Int.reduceLE, Int.reduceAdd, Int.reduceSub, Int.reduceEq, reduceIte, Nat.reduceBNe, Int.reducePow, Nat.reducePow, Int.reduceMul, Int.reduceNeg, isB_i, isB_b, isB_y, isBv_i, isBv_b, eqCells_t, TT]
      exact ⟨by omega, by omega, xs.length - (i + 1), by omega, _, ⟨i + 1, rfl, by omega, by omega, rfl⟩, .inl ⟨rfl, rfl, rfl, rfl, rfl, trivial⟩⟩
    · have d1 : decide (((totO (xs.take i) : Nat) : Int) ≤ 2147483647) = false := by simp only [decide_eq_false_iff_not]; omega
      have d2 : decide ((2147483647 : Int) < ((totO (xs.take i) : Nat) : Int)) = true := by simp only [decide_eq_true_eq]; omega
      have hle' := tot_take_le xs i
      have d3 : decide (2147483647 < totO xs) = true := by simp only [decide_eq_true_eq]; omega
      rw [d3]
      simp (maxSteps := 4000000) only [Try.results14, hd, d1, d2, XX, Nat.reduceBEq, Nat.reduceLT, Nat.reduceAdd, Nat.reduceMul, Nat.reduceSub, Nat.reduceLeDiff, Nat.reduceEqDiff, Int.reduceToNat, Int.reduceLT, Int.reduceLE, Int.reduceAdd, Int.reduceSub, Int.reduceEq, reduceIte, Nat.reduceBNe, Int.reducePow, Nat.reducePow, Int.reduceMul, Int.reduceNeg, isB_i, isB_b, isB_y, isBv_i, isBv_b, eqCells_t, TT]
  · obtain rfl : i = xs.length := by omega
    have hd : decide ((xs.length : Int) < (xs.length : Int)) = false := by simp
    rw [List.take_length]
    have d2 : decide ((2147483647 : Int) < ((totO xs : Nat) : Int)) = decide (2147483647 < totO xs) := by
      by_cases h : 2147483647 < totO xs
      · rw [decide_eq_true h, decide_eq_true (by omega)]
      · rw [decide_eq_false h, decide_eq_false (by omega)]
    simp (maxSteps := 4000000) only [Try.results14, hd, d2, XX, Nat.reduceBEq, Nat.reduceLT, Nat.reduceAdd, Nat.reduceMul, Nat.reduceSub, Nat.reduceLeDiff, Nat.reduceEqDiff, Int.reduceToNat, Int.reduceLT, Int.reduceLE, Int.reduceAdd, Int.reduceSub, Int.reduceEq, reduceIte, Nat.reduceBNe, Int.reducePow, Nat.reducePow, Int.reduceMul, Int.reduceNeg, isB_i, isB_b, isB_y, isBv_i, isBv_b, eqCells_t, TT]
end Go.Proofs.Ytgegddefcgfhgaa.Sx
namespace Go.Proofs.Ytgegddefcgfhgaa.Sx
open Go
set_option linter.unusedSimpArgs false
set_option linter.unusedVariables false
set_option maxRecDepth 10000
set_option maxHeartbeats 4000000
abbrev bpB (m : BM) (x : SC) : SB := ⟨true, 29, boC m x⟩
end Go.Proofs.Ytgegddefcgfhgaa.Sx
namespace Go.Proofs.Ytgegddefcgfhgaa.Sx
open Go
set_option linter.unusedSimpArgs false
set_option linter.unusedVariables false
set_option maxRecDepth 10000
set_option maxHeartbeats 4000000
theorem Opts.keep {H H' : List SB} {iO : Nat} {o : Bool} {es : List PE} {r : Nat} (O : Opts H iO o es r) (h0 : H'[iO]? = H[iO]?) (h1 : ∀ e ∈ es, H'[e.w]? = H[e.w]?) : Opts H' iO o es r :=
  ⟨h0.trans O.row, O.own, fun i e he => ⟨(h1 e (List.mem_of_getElem? he)).trans (O.at_ i e he).1, (O.at_ i e he).2⟩, O.ne⟩
theorem encF_err {m : BM} {xs : List OI} (h : (encF m xs).2 ≠ 0) : (encF m xs).1 = [] := by
  unfold encF at h ⊢
  split
  · split
    · rename_i h1 h2
      rw [if_pos h1, if_pos h2] at h
      exact absurd rfl h
    · rfl
  · rfl
theorem packF_zero {xs : List OI} {room : Int} (h : (packF xs room).2 = 0) : ¬ Bad xs ∧ xs.length ≤ 64 ∧ packF xs room = (encAll xs ++ [255], 0) := by
  by_cases h1 : Bad xs
  · rw [packF_bad h1] at h; cases h
  by_cases h2 : 64 < xs.length
  · rw [packF_many h1 h2] at h; cases h
  by_cases h3 : room < 1 + (szO xs : Int)
  · rw [packF_long h1 h2 h3] at h; cases h
  exact ⟨h1, by omega, packF_ok h1 h2 h3⟩
theorem encF_ok {m : BM} {xs : List OI} (h : (encF m xs).2 = 0) : refF m xs = 0 ∧ ¬ Bad xs ∧ xs.length ≤ 64 ∧ encF m xs = (encB m (encAll xs ++ [255]), 0) ∧ 300 ≤ (encB m (encAll xs ++ [255])).length ∧ (encB m (encAll xs ++ [255])).length ≤ 1472 := by
  by_cases h0 : refF m xs = 0
  · by_cases h1 : (packF xs 1232).2 = 0
    · obtain ⟨g1, g2, g3⟩ := packF_zero h1
      have hl := packF_le' (xs := xs) 1232 (by decide)
      rw [g3] at hl
      obtain ⟨r1, r2, r3, r4⟩ := refF_zero h0
      unfold longB at r3
      simp only [Bool.or_eq_false_iff, decide_eq_false_iff_not] at r3
      have len : (encB m (encAll xs ++ [255])).length = 240 + max 60 (encAll xs ++ [255]).length := by
        simp only [encB, flagB, be4, be2, List.length_append, List.length_cons, List.length_nil, List.length_replicate]
        split <;> simp only [List.length_cons, List.length_nil] <;> omega
      dsimp only at hl
      refine ⟨h0, g1, g2, ?_, by omega, by omega⟩
      unfold encF
      rw [if_pos h0, if_pos h1, g3]
    · unfold encF at h
      rw [if_pos h0, if_neg h1] at h
      exact absurd h h1
  · unfold encF at h
    rw [if_neg h0] at h
    exact absurd h h0
theorem bootpBack_walk : ∀ css, RTyL (RTy T reachBytes DEPTH) [29, 22] css → Spec Try.prog 8 (svs T [29, 22] css) [] fun r _ => r = .c (.v (.bool true)) := by
  intro css h
  obtain ⟨x1, xs1, rfl, h1, g1⟩ := RTyL_cons h
  obtain ⟨x2, xs2, rfl, h2, g2⟩ := RTyL_cons g1
  obtain rfl := RTyL_nil g2
  obtain ⟨m, xs, sp, c, e1, hm, hok, hn⟩ := RTy_bootp (n := 2) h1
  obtain ⟨bh, bp, bc, rfl, hb1, hb2, hb3, hb4⟩ := RTy_bytes h2
  have e2 : svOf T 22 [.sl (bsR (bh ++ bp)) bh.length bc] = .c (roB bh bp bc) := rfl
  simp only [svs, e1, e2]
  clear h1 h2 g1 g2 h e1 e2
  have by16 := beyond16_spec xs sp c hok hn
  by_cases hb : 2147483647 < totO xs
  · rw [decide_eq_true hb] at by16
    refine spec_of_X cx_ok Try.func8 rfl (by kernel_rfl) (by kernel_rfl) (Nat.le_of_ble_eq_true rfl) 400 16 ?_
    simp (maxSteps := 4000000) only [Try.results8, XX, Nat.reduceBEq, Nat.reduceLT, Nat.reduceAdd, Nat.reduceMul, Nat.reduceSub, Nat.reduceLeDiff, Nat.reduceEqDiff, Int.reduceToNat, Int.reduceLT, Int.reduceLE, Int.reduceAdd, Int.reduceSub, Int.reduceEq, reduceIte, Nat.reduceBNe, Int.reducePow, Nat.reducePow, Int.reduceMul, Int.reduceNeg, isB_i, isB_b, isB_y, isBv_i, isBv_b, eqCells_t, TT]
    refine call_pureF [.c (roO xs sp c)] by16 ⟨.inl ⟨rfl, rfl⟩, trivial⟩ ?_
    rintro _ rfl
    simp (maxSteps := 4000000) only [Try.results8, XX, Nat.reduceBEq, Nat.reduceLT, Nat.reduceAdd, Nat.reduceMul, Nat.reduceSub, Nat.reduceLeDiff, Nat.reduceEqDiff, Int.reduceToNat, Int.reduceLT, Int.reduceLE, Int.reduceAdd, Int.reduceSub, Int.reduceEq, reduceIte, Nat.reduceBNe, Int.reducePow, Nat.reducePow, Int.reduceMul, Int.reduceNeg, isB_i, isB_b, isB_y, isBv_i, isBv_b, eqCells_t, TT]
  rw [decide_eq_false hb] at by16
  have pe := encode_spec m hm xs sp c hok hn (by omega)
  by_cases hz : (encF m xs).2 = 0
  · obtain ⟨h0, nb, nl, hE, len1, len2⟩ := encF_ok hz
    have D1 := dec_enc m hm xs [] h0 nb nl
    have D2 := dec_enc m hm xs bh h0 nb nl
    rw [List.append_nil] at D1
    rw [hE] at pe
    dsimp only at pe
    clear hz hE
    generalize encB m (encAll xs ++ [255]) = B at *
    refine spec_of_X cx_ok Try.func8 rfl (by kernel_rfl) (by kernel_rfl) (Nat.le_of_ble_eq_true rfl) 400 16 ?_
    simp (maxSteps := 4000000) only [Try.results8, XX, Nat.reduceBEq, Nat.reduceLT, Nat.reduceAdd, Nat.reduceMul, Nat.reduceSub, Nat.reduceLeDiff, Nat.reduceEqDiff, Int.reduceToNat, Int.reduceLT, Int.reduceLE, Int.reduceAdd, Int.reduceSub, Int.reduceEq, reduceIte, Nat.reduceBNe, Int.reducePow, Nat.reducePow, Int.reduceMul, Int.reduceNeg, isB_i, isB_b, isB_y, isBv_i, isBv_b, eqCells_t, TT]
    refine call_pureF [.c (roO xs sp c)] by16 ⟨.inl ⟨rfl, rfl⟩, trivial⟩ ?_
    rintro _ rfl
    simp (maxSteps := 4000000) only [Try.results8, XX, Nat.reduceBEq, Nat.reduceLT, Nat.reduceAdd, Nat.reduceMul, Nat.reduceSub, Nat.reduceLeDiff, Nat.reduceEqDiff, Int.reduceToNat, Int.reduceLT, Int.reduceLE, Int.reduceAdd, Int.reduceSub, Int.reduceEq, reduceIte, Nat.reduceBNe, Int.reducePow, Nat.reducePow, Int.reduceMul, Int.reduceNeg, isB_i, isB_b, isB_y, isBv_i, isBv_b, eqCells_t, TT]
    refine call_pureF [] (K := fun s => s = .c (bC true)) live_spec trivial ?_
    rintro _ rfl
    simp (maxSteps := 4000000) only [Try.results8, XX, Nat.reduceBEq, Nat.reduceLT, Nat.reduceAdd, Nat.reduceMul, Nat.reduceSub, Nat.reduceLeDiff, Nat.reduceEqDiff, Int.reduceToNat, Int.reduceLT, Int.reduceLE, Int.reduceAdd, Int.reduceSub, Int.reduceEq, reduceIte, Nat.reduceBNe, Int.reducePow, Nat.reducePow, Int.reduceMul, Int.reduceNeg, isB_i, isB_b, isB_y, isBv_i, isBv_b, eqCells_t, TT]
    refine call_fz [.agg (boC m (roO xs sp c))] pe (fun t h' h => resB_noRo h) ⟨.inl ⟨rfl, rfl⟩, trivial⟩ ?_
    rintro _ _ ⟨z0, o0, rfl, rfl, ho0⟩
    obtain rfl : o0 = true := ho0 (by omega)
    simp (maxSteps := 4000000) only [Try.results8, ids_bsC, ren_bsC, noRo_bsC, plain_bsC, lt_bsC, ids_byte, ren_byte, noRo_byte, plain_byte, lt_byte, XX, Nat.reduceBEq, Nat.reduceLT, Nat.reduceAdd, Nat.reduceMul, Nat.reduceSub, Nat.reduceLeDiff, Nat.reduceEqDiff, Int.reduceToNat, Int.reduceLT, Int.reduceLE, Int.reduceAdd, Int.reduceSub, Int.reduceEq, reduceIte, Nat.reduceBNe, Int.reducePow, Nat.reducePow, Int.reduceMul, Int.reduceNeg, isB_i, isB_b, isB_y, isBv_i, isBv_b, eqCells_t, TT]
    have q2 := decode_spec B z0 (B.length + z0.length) (by omega) (by omega)
    rw [D1] at q2
    refine call_dec [.c (roB B z0 (B.length + z0.length))] q2 ⟨.inr (.inl ⟨_, _, rfl, rfl, fz_sl rfl rfl rfl⟩), trivial⟩ ?_
    rintro t o2 es2 r2 O2 hw2 hpi2
    refine gen_hp (fun H => H[0]? = some (bpB m (roO xs sp c)) ∧ H[1]? = some (wB true (B ++ z0)) ∧ Opts H 2 o2 es2 r2) ⟨rfl, rfl, O2⟩ ?_
    clear O2
    rintro H ⟨w0, w1, O2⟩
    have l0 := lt_of w0
    have l1 := lt_of w1
    have tk : ∀ a b : List UInt8, (bsC (a ++ b)).take a.length = bsC a := fun a b => by rw [bs_take, List.take_left' rfl]
    simp (maxSteps := 4000000) only [Try.results8, set_end, w0, w1, l0, l1, tk, strOf_bsC, List.length_cons, List.length_nil, Nat.reduceAdd, List.append_assoc, List.getElem?_append_left, List.getElem?_append_right, List.length_append, List.length_set, List.set_append_left, gset, List.getElem?_set_ne, Nat.add_sub_cancel_left, Nat.sub_self, Nat.le_refl, Nat.le_add_right, List.replicate_one, List.flatten_cons, List.flatten_nil, rep_flat, XX, Nat.reduceBEq, Nat.reduceLT, Nat.reduceAdd, Nat.reduceMul, Nat.reduceSub, Nat.reduceLeDiff, Nat.reduceEqDiff, Int.reduceToNat, Int.reduceLT, Int.reduceLE, Int.reduceAdd, Int.reduceSub, Int.reduceEq, reduceIte, Nat.reduceBNe, Int.reducePow, Nat.reducePow, Int.reduceMul, Int.reduceNeg, isB_i, isB_b, isB_y, isBv_i, isBv_b, eqCells_t, TT]
    refine ⟨⟨by simp, isByte_bsC B⟩, by rw [str_size]; unfold maxLen; omega, ?_⟩
    intro cc hcc _
    rw [str_size] at hcc ⊢
    obtain ⟨ix, hix⟩ : ∃ ix, ix = H.length := ⟨_, rfl⟩
    have l2 := lt_of O2.row
    refine gen_hp (fun K => K[0]? = some (bpB m (roO xs sp c)) ∧ K[1]? = some (wB true (B ++ z0)) ∧ Opts K 2 o2 es2 r2 ∧ K[ix]? = some (bpB m (.sl 2 0 es2.length (es2.length + r2))) ∧ Buf K (ix + 1) true B (List.replicate (cc - B.length) 0) ∧ ix + 2 = K.length ∧ 2 < ix ∧ ∀ e ∈ es2, e.w < ix) ⟨?_, ?_, ?_, ?_, ⟨?_, fun _ => rfl⟩, ?_, by omega, fun e he => by rw [hix]; exact O2.lt he⟩ ?_
    · rw [List.getElem?_append_left l0]; exact w0
    · rw [List.getElem?_append_left l1]; exact w1
    · exact O2.app _
    · rw [hix, List.getElem?_append_right (Nat.le_refl _), Nat.sub_self]; rfl
    · rw [hix, List.getElem?_append_right (by omega), Nat.add_sub_cancel_left]
      show some (SB.mk _ _ _) = some (SB.mk _ _ _)
      rw [bsC_zeros, bs_app]
    · rw [hix, List.length_append]; rfl
    rw [← hix]
    clear w0 w1 O2 l0 l1 l2
    rintro K ⟨w0, w1, O2, w2, Bf, hKl, hix2, hew⟩
    have l0 := lt_of w0
    have l1 := lt_of w1
    have l2 := lt_of w2
    have w3 := Bf.at_
    have l3 := lt_of w3
    obtain ⟨z3, hz3⟩ : ∃ z3 : List UInt8, z3 = List.replicate (cc - B.length) 0 := ⟨_, rfl⟩
    have hcl : cc = B.length + z3.length := by rw [hz3, List.length_replicate]; omega
    rw [← hz3] at Bf w3
    have tkb : ((bsR (bh ++ bp)).take bh.length).map RC.toSC = bsC bh := by rw [rs_take, bsR_toSC, List.take_left]
    simp (maxSteps := 4000000) only [Try.results8, w0, w1, w2, w3, l0, l1, l2, l3, tk, tkb, strOf_bsC, List.append_assoc, List.getElem?_append_left, List.getElem?_append_right, List.length_append, List.length_set, List.set_append_left, gset, List.getElem?_set_ne, Nat.add_sub_cancel_left, Nat.sub_self, Nat.le_refl, Nat.le_add_right, List.replicate_one, List.flatten_cons, List.flatten_nil, rep_flat, XX, Nat.reduceBEq, Nat.reduceLT, Nat.reduceAdd, Nat.reduceMul, Nat.reduceSub, Nat.reduceLeDiff, Nat.reduceEqDiff, Int.reduceToNat, Int.reduceLT, Int.reduceLE, Int.reduceAdd, Int.reduceSub, Int.reduceEq, reduceIte, Nat.reduceBNe, Int.reducePow, Nat.reducePow, Int.reduceMul, Int.reduceNeg, isB_i, isB_b, isB_y, isBv_i, isBv_b, eqCells_t, TT]
    have hb5 : bc ≤ 140737488351232 := hb4
    refine ⟨⟨⟨by omega, by unfold maxLen; omega, by simp, fun hh => by rw [List.length_map, List.length_append]; omega⟩, by simp⟩, ?_⟩
    refine xapp_P (P := fun s h => ∃ w z, s = .c (slB w (B ++ bh) z) ∧ h[w]? = some (wB true ((B ++ bh) ++ z)) ∧ K.length ≤ h.length ∧ ∀ i, i < K.length → i ≠ ix + 1 → h[i]? = K[i]?) (fun hr => ?_) (fun hg c' hc' _ => ?_) ?_
    · refine ⟨ix + 1, z3.drop bh.length, ?_, ?_, by rw [List.length_set]; exact Nat.le_refl _, fun i hi hne => by rw [List.getElem?_set_ne (Ne.symm hne)]⟩
      · dsimp only
        rw [slB, List.length_append, List.length_drop]
        congr 3; omega
      · dsimp only
        rw [List.getElem?_set_self l3, bsC_len, bs_drop, bs_app, bs_app, List.drop_append, List.drop_of_length_le (by omega), List.nil_append, show B.length + bh.length - B.length = bh.length by omega, List.append_assoc]
    · refine ⟨K.length, List.replicate (c' - (B.length + bh.length)) 0, ?_, ?_, by rw [List.length_append]; omega, fun i hi _ => by rw [List.getElem?_append_left hi]⟩
      · dsimp only
        rw [slB, List.length_append, List.length_replicate]
        congr 3; omega
      · dsimp only
        rw [List.getElem?_append_right (Nat.le_refl _), Nat.sub_self, bsC_zeros, bs_app, bs_app, List.append_assoc]; rfl
    rintro s G ⟨w, z, rfl, v3, hGl, hk⟩
    have v0 := (hk 0 l0 (by omega)).trans w0
    have v1 := (hk 1 l1 (by omega)).trans w1
    have v2 := (hk ix l2 (by omega)).trans w2
    have O3 : Opts G 2 o2 es2 r2 := O2.keep (hk 2 (by omega) (by omega)) fun e he => hk e.w (by have := hew e he; omega) (by have := hew e he; omega)
    have q3 := decode_spec (B ++ bh) z ((B ++ bh).length + z.length) (by rw [List.length_append]; have h4 : bc ≤ 140737488351232 := hb4; omega) (by omega)
    rw [D2] at q3
    simp (maxSteps := 4000000) only [Try.results8, XX, Nat.reduceBEq, Nat.reduceLT, Nat.reduceAdd, Nat.reduceMul, Nat.reduceSub, Nat.reduceLeDiff, Nat.reduceEqDiff, Int.reduceToNat, Int.reduceLT, Int.reduceLE, Int.reduceAdd, Int.reduceSub, Int.reduceEq, reduceIte, Nat.reduceBNe, Int.reducePow, Nat.reducePow, Int.reduceMul, Int.reduceNeg, isB_i, isB_b, isB_y, isBv_i, isBv_b, eqCells_t, TT]
    refine call_dec [.c (roB (B ++ bh) z ((B ++ bh).length + z.length))] q3 ⟨.inr (.inl ⟨_, _, rfl, rfl, fz_sl v3 rfl rfl⟩), trivial⟩ ?_
    rintro t4 o4 es4 r4 O4 hw4 hpi4
    have m0 := lt_of v0
    have m1 := lt_of v1
    have m2 := lt_of v2
    obtain ⟨iy, hiy⟩ : ∃ iy, iy = G.length := ⟨_, rfl⟩
    rw [← hiy] at O4 ⊢
    refine gen_hp (fun F => F[0]? = some (bpB m (roO xs sp c)) ∧ F[ix]? = some (bpB m (.sl 2 0 es2.length (es2.length + r2))) ∧ Opts F 2 o2 es2 r2 ∧ Opts F iy o4 es4 r4) ⟨(List.getElem?_append_left m0).trans v0, (List.getElem?_append_left m2).trans v2, O3.app _, O4⟩ ?_
    clear v0 v1 v2 v3 O2 O3 O4 w0 w1 w2 w3 Bf hk m0 m1 m2 l0 l1 l2 l3 q2 q3
    rintro F ⟨v0, v2, O3, O4⟩
    have m0 := lt_of v0
    have m2 := lt_of v2
    simp (maxSteps := 4000000) only [Try.results8, set_end, v0, v2, m0, m2, List.append_assoc, List.getElem?_append_left, List.getElem?_append_right, List.length_append, List.length_set, List.set_append_left, gset, List.getElem?_set_ne, Nat.add_sub_cancel_left, Nat.sub_self, Nat.le_refl, Nat.le_add_right, List.replicate_one, List.flatten_cons, List.flatten_nil, rep_flat, XX, Nat.reduceBEq, Nat.reduceLT, Nat.reduceAdd, Nat.reduceMul, Nat.reduceSub, Nat.reduceLeDiff, Nat.reduceEqDiff, Int.reduceToNat, Int.reduceLT, Int.reduceLE, Int.reduceAdd, Int.reduceSub, Int.reduceEq, reduceIte, Nat.reduceBNe, Int.reducePow, Nat.reducePow, Int.reduceMul, Int.reduceNeg, isB_i, isB_b, isB_y, isBv_i, isBv_b, eqCells_t, TT]
    obtain ⟨ho2, hp2, hl2⟩ := lent_ok (show es2.map PE.pi = piL xs from hpi2) hok
    obtain ⟨ho4, hp4, hl4⟩ := lent_ok (show es4.map PE.pi = piL xs from hpi4) hok
    refine call_pureF [.agg (boC m (roO (es2.map PE.oi) [] (es2.length + r2))), .agg (boC m (roO xs sp c))] (same16_spec m _ [] _ sp _ c hp2 ho2 hok (by rw [List.length_map]; omega) (by omega)) ⟨bo_fz (O3.app _).frc, .inl ⟨rfl, rfl⟩, trivial⟩ ?_
    rintro _ rfl
    have y0 : ∀ x : SB, (F ++ [x])[0]? = some (bpB m (roO xs sp c)) := fun x => (List.getElem?_append_left m0).trans v0
    have y4 : ∀ x : SB, (F ++ [x])[F.length]? = some x := fun x => by rw [List.getElem?_append_right (Nat.le_refl _), Nat.sub_self]; rfl
    simp (maxSteps := 4000000) only [Try.results8, y0, y4, m0, List.length_append, List.length_cons, List.length_nil, XX, Nat.reduceBEq, Nat.reduceLT, Nat.reduceAdd, Nat.reduceMul, Nat.reduceSub, Nat.reduceLeDiff, Nat.reduceEqDiff, Int.reduceToNat, Int.reduceLT, Int.reduceLE, Int.reduceAdd, Int.reduceSub, Int.reduceEq, reduceIte, Nat.reduceBNe, Int.reducePow, Nat.reducePow, Int.reduceMul, Int.reduceNeg, isB_i, isB_b, isB_y, isBv_i, isBv_b, eqCells_t, TT]
    refine call_pureF [.agg (boC m (roO (es4.map PE.oi) [] (es4.length + r4))), .agg (boC m (roO xs sp c))] (same16_spec m _ [] _ sp _ c hp4 ho4 hok (by rw [List.length_map]; omega) (by omega)) ⟨bo_fz (O4.app _).frc, .inl ⟨rfl, rfl⟩, trivial⟩ ?_
    rintro _ rfl
    have dl1 : decide ((300 : Int) ≤ (B.length : Int)) = true := by simp only [decide_eq_true_eq]; omega
    have dl2 : decide ((B.length : Int) ≤ 1472) = true := by simp only [decide_eq_true_eq]; omega
    simp (maxSteps := 4000000) only [Try.results8, dl1, dl2, XX, Nat.reduceBEq, Nat.reduceLT, Nat.reduceAdd, Nat.reduceMul, Nat.reduceSub, Nat.reduceLeDiff, Nat.reduceEqDiff, Int.reduceToNat, Int.reduceLT, Int.reduceLE, Int.reduceAdd, Int.reduceSub, Int.reduceEq, reduceIte, Nat.reduceBNe, Int.reducePow, Nat.reducePow, Int.reduceMul, Int.reduceNeg, isB_i, isB_b, isB_y, isBv_i, isBv_b, eqCells_t, TT]
  · have hA := encF_err hz
    rw [hA] at pe
    have dz : decide ((encF m xs).2 = 0) = false := by simpa using hz
    generalize (encF m xs).2 = ea at *
    refine spec_of_X cx_ok Try.func8 rfl (by kernel_rfl) (by kernel_rfl) (Nat.le_of_ble_eq_true rfl) 400 16 ?_
    simp (maxSteps := 4000000) only [Try.results8, XX, Nat.reduceBEq, Nat.reduceLT, Nat.reduceAdd, Nat.reduceMul, Nat.reduceSub, Nat.reduceLeDiff, Nat.reduceEqDiff, Int.reduceToNat, Int.reduceLT, Int.reduceLE, Int.reduceAdd, Int.reduceSub, Int.reduceEq, reduceIte, Nat.reduceBNe, Int.reducePow, Nat.reducePow, Int.reduceMul, Int.reduceNeg, isB_i, isB_b, isB_y, isBv_i, isBv_b, eqCells_t, TT]
    refine call_pureF [.c (roO xs sp c)] by16 ⟨.inl ⟨rfl, rfl⟩, trivial⟩ ?_
    rintro _ rfl
    simp (maxSteps := 4000000) only [Try.results8, XX, Nat.reduceBEq, Nat.reduceLT, Nat.reduceAdd, Nat.reduceMul, Nat.reduceSub, Nat.reduceLeDiff, Nat.reduceEqDiff, Int.reduceToNat, Int.reduceLT, Int.reduceLE, Int.reduceAdd, Int.reduceSub, Int.reduceEq, reduceIte, Nat.reduceBNe, Int.reducePow, Nat.reducePow, Int.reduceMul, Int.reduceNeg, isB_i, isB_b, isB_y, isBv_i, isBv_b, eqCells_t, TT]
    refine call_pureF [] (K := fun s => s = .c (bC true)) live_spec trivial ?_
    rintro _ rfl
    simp (maxSteps := 4000000) only [Try.results8, XX, Nat.reduceBEq, Nat.reduceLT, Nat.reduceAdd, Nat.reduceMul, Nat.reduceSub, Nat.reduceLeDiff, Nat.reduceEqDiff, Int.reduceToNat, Int.reduceLT, Int.reduceLE, Int.reduceAdd, Int.reduceSub, Int.reduceEq, reduceIte, Nat.reduceBNe, Int.reducePow, Nat.reducePow, Int.reduceMul, Int.reduceNeg, isB_i, isB_b, isB_y, isBv_i, isBv_b, eqCells_t, TT]
    refine call_fz [.agg (boC m (roO xs sp c))] pe (fun t h' h => resB_noRo h) ⟨.inl ⟨rfl, rfl⟩, trivial⟩ ?_
    rintro _ _ ⟨z0, o0, rfl, rfl, ho0⟩
    simp (maxSteps := 4000000) only [Try.results8, dz, ids_bsC, ren_bsC, noRo_bsC, plain_bsC, lt_bsC, ids_byte, ren_byte, noRo_byte, plain_byte, lt_byte, XX, Nat.reduceBEq, Nat.reduceLT, Nat.reduceAdd, Nat.reduceMul, Nat.reduceSub, Nat.reduceLeDiff, Nat.reduceEqDiff, Int.reduceToNat, Int.reduceLT, Int.reduceLE, Int.reduceAdd, Int.reduceSub, Int.reduceEq, reduceIte, Nat.reduceBNe, Int.reducePow, Nat.reducePow, Int.reduceMul, Int.reduceNeg, isB_i, isB_b, isB_y, isBv_i, isBv_b, eqCells_t, TT]
end Go.Proofs.Ytgegddefcgfhgaa.Sx
