/- The symbolic executor, at work: what the laws lean on, part 2. No condition. -/
import Derived.Test.YtgegddefcgfhgaaZ1
namespace Go.Proofs.Ytgegddefcgfhgaa.Sx
open Go
set_option linter.unusedSimpArgs false
set_option linter.unusedVariables false
set_option maxRecDepth 10000
set_option maxHeartbeats 8000000
theorem put1_spec (n : Nat) (hn : n < 18446744073709551616) : Spec cx.P 40 [.c (u64 n), .c (i64 1)] [] fun s h' => s = .c (.sl 0 0 1 1) ∧ h' = [wB true [UInt8.ofNat n]] := by
  have key : Spec cx.P 40 [.c (u64 n), .c (i64 1)] [] fun s h' => s = .c (.sl 0 0 1 1) ∧ ∃ a, h' = [wB true [UInt8.ofNat n], a] := by
    refine spec_of_X cx_ok Try.func40 rfl (by kernel_rfl) (by kernel_rfl) (Nat.le_of_ble_eq_true rfl) 400 7 ?_
    simp (maxSteps := 4000000) only [Try.results40, XX, Nat.reduceBEq, Nat.reduceLT, Nat.reduceAdd, Nat.reduceMul, Nat.reduceSub, Nat.reduceLeDiff, Nat.reduceEqDiff, Int.reduceToNat, Int.reduceLT, Int.reduceLE, Int.reduceAdd, Int.reduceSub, Int.reduceEq, reduceIte, Nat.reduceBNe, Int.reducePow, Nat.reducePow, Int.reduceMul, Int.reduceNeg, isB_i, isB_b, isB_y, isBv_i, isBv_b, eqCells_t, TT]
    refine loop_rounds cx_ok 400 3 ?_
    simp (maxSteps := 4000000) only [Try.results40, w64, List.replicate_succ, List.replicate_zero, List.flatten_cons, List.flatten_nil, Int.reduceDiv, Int.reduceMod, Int.reduceToNat, XX, Nat.reduceBEq, Nat.reduceLT, Nat.reduceAdd, Nat.reduceMul, Nat.reduceSub, Nat.reduceLeDiff, Nat.reduceEqDiff, Int.reduceToNat, Int.reduceLT, Int.reduceLE, Int.reduceAdd, Int.reduceSub, Int.reduceEq, reduceIte, Nat.reduceBNe, Int.reducePow, Nat.reducePow, Int.reduceMul, Int.reduceNeg, isB_i, isB_b, isB_y, isBv_i, isBv_b, eqCells_t, TT]
    refine ⟨by unfold maxLen; omega, xapp_room (by omega) ?_⟩
    simp (maxSteps := 4000000) only [Try.results40, w64, shr0, shr8, byteC_n, List.replicate_succ, List.replicate_zero, List.flatten_cons, List.flatten_nil, Int.reduceDiv, Int.reduceMod, Int.reduceToNat, XX, Nat.reduceBEq, Nat.reduceLT, Nat.reduceAdd, Nat.reduceMul, Nat.reduceSub, Nat.reduceLeDiff, Nat.reduceEqDiff, Int.reduceToNat, Int.reduceLT, Int.reduceLE, Int.reduceAdd, Int.reduceSub, Int.reduceEq, reduceIte, Nat.reduceBNe, Int.reducePow, Nat.reducePow, Int.reduceMul, Int.reduceNeg, isB_i, isB_b, isB_y, isBv_i, isBv_b, eqCells_t, TT]
    exact ⟨_, rfl⟩
  exact key.wk fun t h' ⟨h1, a, h2⟩ => ⟨t, [wB true [UInt8.ofNat n]], [some 0], rfl, by subst h2; simp only [XX, Nat.reduceBEq, Nat.reduceLT, Nat.reduceAdd, Nat.reduceMul, Nat.reduceSub, Nat.reduceLeDiff, Nat.reduceEqDiff, Int.reduceToNat, Int.reduceLT, Int.reduceLE, Int.reduceAdd, Int.reduceSub, Int.reduceEq, reduceIte, Nat.reduceBNe, Int.reducePow, Nat.reducePow, Int.reduceMul, Int.reduceNeg, isB_i, isB_b, isB_y, isBv_i, isBv_b, eqCells_t, TT, ids_bsC, ren_bsC, noRo_bsC, plain_bsC, lt_bsC, ids_byte, ren_byte, noRo_byte, plain_byte, lt_byte], by subst h1; simp only [XX, Nat.reduceBEq, Nat.reduceLT, Nat.reduceAdd, Nat.reduceMul, Nat.reduceSub, Nat.reduceLeDiff, Nat.reduceEqDiff, Int.reduceToNat, Int.reduceLT, Int.reduceLE, Int.reduceAdd, Int.reduceSub, Int.reduceEq, reduceIte, Nat.reduceBNe, Int.reducePow, Nat.reducePow, Int.reduceMul, Int.reduceNeg, isB_i, isB_b, isB_y, isBv_i, isBv_b, eqCells_t, TT, ids_bsC, ren_bsC, noRo_bsC, plain_bsC, lt_bsC, ids_byte, ren_byte, noRo_byte, plain_byte, lt_byte], h1, rfl⟩
structure EncS (H : List SB) (bb ow : SB) (A : List UInt8) (N : Nat) : Prop where
  c0 : H[0]? = some bb
  c1 : H[1]? = some ow
  c2 : H[2]? = some (wB true (A ++ List.replicate (N - A.length) 0))
  bx : ∀ (j : Nat) (x : SB), boxesL[j]? = some x → H[3 + j]? = some x
  row : H[11]? = some (rowF 3)
theorem EncS.app {H : List SB} {bb ow : SB} {A : List UInt8} {N : Nat} (E : EncS H bb ow A N) (t : List SB) : EncS (H ++ t) bb ow A N :=
  ⟨(List.getElem?_append_left (lt_of E.c0)).trans E.c0, (List.getElem?_append_left (lt_of E.c1)).trans E.c1, (List.getElem?_append_left (lt_of E.c2)).trans E.c2, fun j x hx => (List.getElem?_append_left (lt_of (E.bx j x hx))).trans (E.bx j x hx), (List.getElem?_append_left (lt_of E.row)).trans E.row⟩
theorem maskL_off {L : List Nat} {h : List SB} {i : Nat} (hi : L.contains i = false) : (maskL L 0 h)[i]? = h[i]? := by
  rw [maskL_get]
  cases h[i]? with
  | none => rfl
  | some b => simp only [Option.map_some, Nat.zero_add, hi]; rfl
theorem stepZ {A X : List UInt8} {N a : Nat} (h1 : A.length ≤ a) (h2 : a + X.length ≤ N) : (A ++ List.replicate (N - A.length) 0).take a ++ X ++ (A ++ List.replicate (N - A.length) 0).drop (a + X.length) = (A ++ List.replicate (a - A.length) 0 ++ X) ++ List.replicate (N - (A ++ List.replicate (a - A.length) (0 : UInt8) ++ X).length) 0 := by
  rw [List.take_append, List.take_of_length_le h1, List.take_replicate, List.drop_append, List.drop_of_length_le (by omega), List.nil_append, List.drop_replicate, Nat.min_eq_left (by omega)]
  simp only [List.length_append, List.length_replicate, List.append_assoc]
  congr 4
  omega
theorem stepA {A M : List UInt8} {N : Nat} (h : 3 ≤ N) (h1 : M.length = 1) (h2 : A.length = 3) : M ++ (A ++ List.replicate (N - A.length) 0).drop 1 = (M ++ A.drop 1) ++ List.replicate (N - (M ++ A.drop 1).length) 0 := by
  rw [List.drop_append_of_le_length (by omega), List.append_assoc]
  simp only [List.length_append, List.length_drop, h1, h2]
theorem unL_off {L : List Nat} {H h' : List SB} {x : Nat} (h : L.contains x = false) : (unL L 0 H h')[x]? = h'[x]? := by
  rw [unL_get]
  cases h'[x]? with
  | none => rfl
  | some b => cases H[x]? with
    | none => rfl
    | some b0 => simp only [Nat.zero_add, h]; rfl
theorem EncS.next {F : List SB} {bb ow : SB} {A A' : List UInt8} {N wf : Nat} (E : EncS F bb ow A N) (hwf : 11 < wf) {t : List SB} {cells : List SC} (hc : cells = bsC (A' ++ List.replicate (N - A'.length) 0)) : EncS (unL [wf] 0 F ((maskL [wf] 0 F).set 2 ⟨true, 5, cells⟩ ++ t)) bb ow A' N := by
  have mo : ∀ k, k ≤ 11 → (maskL [wf] 0 F)[k]? = F[k]? := fun k hk => maskL_off (by simp; omega)
  have key : ∀ k b, k ≤ 11 → k ≠ 2 → F[k]? = some b → (unL [wf] 0 F ((maskL [wf] 0 F).set 2 ⟨true, 5, cells⟩ ++ t))[k]? = some b := fun k b hk hk2 hb => by
    have h1 := (mo k hk).trans hb
    rw [unL_off (by simp; omega), List.getElem?_append_left (by rw [List.length_set]; exact lt_of h1), List.getElem?_set_ne (Ne.symm hk2)]; exact h1
  refine ⟨key 0 _ (by omega) (by omega) E.c0, key 1 _ (by omega) (by omega) E.c1, ?_, fun j x hx => key (3 + j) x ?_ (by omega) (E.bx j x hx), key 11 _ (by omega) (by omega) E.row⟩
  · have h1 := (mo 2 (by omega)).trans E.c2
    have h2 := lt_of h1
    rw [unL_off (by simp; omega), List.getElem?_append_left (by rw [List.length_set]; exact h2), List.getElem?_set_self h2, hc]
  · have := (List.getElem?_eq_some_iff.1 hx).1
    simp at this; omega
theorem ofInt_nat {n : Int} (h : 0 ≤ n) : UInt8.ofNat n.toNat = UInt8.ofInt n := by
  obtain ⟨k, rfl⟩ := Int.eq_ofNat_of_zero_le h
  apply UInt8.toNat_inj.1
  simp [UInt8.ofInt]
  omega
theorem EncS.set {F : List SB} {bb ow : SB} {A A' : List UInt8} {N : Nat} (E : EncS F bb ow A N) {cells : List SC} (hc : cells = bsC (A' ++ List.replicate (N - A'.length) 0)) : EncS (F.set 2 ⟨true, 5, cells⟩) bb ow A' N :=
  ⟨by rw [List.getElem?_set_ne (by omega)]; exact E.c0, by rw [List.getElem?_set_ne (by omega)]; exact E.c1, by rw [List.getElem?_set_self (lt_of E.c2), hc], fun j x hx => by rw [List.getElem?_set_ne (by omega)]; exact E.bx j x hx, by rw [List.getElem?_set_ne (by omega)]; exact E.row⟩
/-- What stands at the front after so many fields. -/
def AP (m : BM) : Nat → List UInt8
  | 0 => [0, 1, 6]
  | 1 => [UInt8.ofInt m.op, 1, 6]
  | 2 => [UInt8.ofInt m.op, 1, 6, UInt8.ofInt m.hops]
  | 3 => [UInt8.ofInt m.op, 1, 6, UInt8.ofInt m.hops] ++ be4 m.xid
  | 4 => [UInt8.ofInt m.op, 1, 6, UInt8.ofInt m.hops] ++ be4 m.xid ++ be2 m.secs.toNat
  | 5 => [UInt8.ofInt m.op, 1, 6, UInt8.ofInt m.hops] ++ be4 m.xid ++ be2 m.secs.toNat ++ [if m.all then 128 else 0]
  | 6 => [UInt8.ofInt m.op, 1, 6, UInt8.ofInt m.hops] ++ be4 m.xid ++ be2 m.secs.toNat ++ flagB m ++ be4 m.ci
  | 7 => [UInt8.ofInt m.op, 1, 6, UInt8.ofInt m.hops] ++ be4 m.xid ++ be2 m.secs.toNat ++ flagB m ++ be4 m.ci ++ be4 m.yi
  | 8 => [UInt8.ofInt m.op, 1, 6, UInt8.ofInt m.hops] ++ be4 m.xid ++ be2 m.secs.toNat ++ flagB m ++ be4 m.ci ++ be4 m.yi ++ be4 m.si
  | _ => [UInt8.ofInt m.op, 1, 6, UInt8.ofInt m.hops] ++ be4 m.xid ++ be2 m.secs.toNat ++ flagB m ++ be4 m.ci ++ be4 m.yi ++ be4 m.si ++ be4 m.gi
theorem flagB_len (m : BM) : (flagB m).length = 2 := by unfold flagB; split <;> rfl
theorem AP_len0 (m : BM) : (AP m 0).length = 3 := by simp only [AP, List.length_append, flagB_len]; rfl
theorem AP_len1 (m : BM) : (AP m 1).length = 3 := by simp only [AP, List.length_append, flagB_len]; rfl
theorem AP_len2 (m : BM) : (AP m 2).length = 4 := by simp only [AP, List.length_append, flagB_len]; rfl
theorem AP_len3 (m : BM) : (AP m 3).length = 8 := by simp only [AP, List.length_append, flagB_len]; rfl
theorem AP_len4 (m : BM) : (AP m 4).length = 10 := by simp only [AP, List.length_append, flagB_len]; rfl
theorem AP_len5 (m : BM) : (AP m 5).length = 11 := by simp only [AP, List.length_append, flagB_len]; rfl
theorem AP_len6 (m : BM) : (AP m 6).length = 16 := by simp only [AP, List.length_append, flagB_len]; rfl
theorem AP_len7 (m : BM) : (AP m 7).length = 20 := by simp only [AP, List.length_append, flagB_len]; rfl
theorem AP_len8 (m : BM) : (AP m 8).length = 24 := by simp only [AP, List.length_append, flagB_len]; rfl
theorem AP_len9 (m : BM) : (AP m 9).length = 28 := by simp only [AP, List.length_append, flagB_len]; rfl
theorem encode_big (m : BM) (hm : m.ok) (xs sp : List OI) (c0 : Nat) (hok : ∀ x ∈ xs, x.ok) (hn : xs.length ≤ 4398046511104) (hT : totO xs ≤ 281474976776192) : Spec cx.P 12 [.agg (boC m (roO xs sp c0))] [] (resB (encF m xs).1 (encF m xs).2) := by
  have r1 := refused_spec m hm xs sp c0 hok hn
  have r2 := pack_big xs sp c0 hok 1232 (.inr ⟨hT, by decide⟩)
  by_cases h0 : refF m xs = 0
  · by_cases h1 : (packF xs 1232).2 = 0
    · have he : encF m xs = (encB m (packF xs 1232).1, 0) := by unfold encF; rw [if_pos h0, if_pos h1]
      rw [he]
      rw [h0] at r1
      rw [h1] at r2
      have lo := packF_le' (xs := xs) 1232 (by decide)
      have lz := szO_le xs
      generalize (packF xs 1232).1 = o at *
      have hb : badB m = false ∧ zeroB m = false ∧ longB m = false := by
        unfold refF at h0
        cases h3 : badB m || zeroB m with
        | true => rw [h3] at h0; exact absurd h0 (by simp)
        | false =>
          rw [h3] at h0
          cases h4 : longB m with
          | true => rw [h4] at h0; exact absurd h0 (by simp)
          | false => exact ⟨(Bool.or_eq_false_iff.1 h3).1, (Bool.or_eq_false_iff.1 h3).2, rfl⟩
      obtain ⟨hb1, hb2, hb3⟩ := hb
      have hs : 0 ≤ m.secs ∧ m.secs ≤ 65535 := by
        unfold badB at hb1
        simp at hb1
        omega
      have hl : m.sname.length ≤ 63 ∧ m.file.length ≤ 127 := by
        unfold longB at hb3
        simp at hb3
        omega
      refine resB_of ?_
      refine spec_of_X cx_ok Try.func12 rfl (by kernel_rfl) (by kernel_rfl) (Nat.le_of_ble_eq_true rfl) 400 36 ?_
      simp (maxSteps := 4000000) only [Try.results12, XX, Nat.reduceBEq, Nat.reduceLT, Nat.reduceAdd, Nat.reduceMul, Nat.reduceSub, Nat.reduceLeDiff, Nat.reduceEqDiff, Int.reduceToNat, Int.reduceLT, Int.reduceLE, Int.reduceAdd, Int.reduceSub, Int.reduceEq, reduceIte, Nat.reduceBNe, Int.reducePow, Nat.reducePow, Int.reduceMul, Int.reduceNeg, isB_i, isB_b, isB_y, isBv_i, isBv_b, eqCells_t, TT]
      refine call_pureF [.agg (boC m (roO xs sp c0))] r1 ⟨.inl ⟨rfl, rfl⟩, trivial⟩ ?_
      rintro _ rfl
      simp (maxSteps := 4000000) only [Try.results12, XX, Nat.reduceBEq, Nat.reduceLT, Nat.reduceAdd, Nat.reduceMul, Nat.reduceSub, Nat.reduceLeDiff, Nat.reduceEqDiff, Int.reduceToNat, Int.reduceLT, Int.reduceLE, Int.reduceAdd, Int.reduceSub, Int.reduceEq, reduceIte, Nat.reduceBNe, Int.reducePow, Nat.reducePow, Int.reduceMul, Int.reduceNeg, isB_i, isB_b, isB_y, isBv_i, isBv_b, eqCells_t, TT]
      refine call_fz [.c (roO xs sp c0), .c (i64 1232)] r2 (fun t h' h => resB_noRo h) ⟨.inl ⟨rfl, rfl⟩, .inl ⟨rfl, rfl⟩, trivial⟩ ?_
      rintro _ _ ⟨zp, op, rfl, rfl, hop⟩
      have eL : IntKind.i64.wrap (240 + (o.length : Int)) = ((240 + o.length : Nat) : Int) := by rw [w64] <;> omega
      obtain ⟨N, hN⟩ : ∃ N : Nat, N = 240 + (o.length + (60 - o.length)) := ⟨_, rfl⟩
      have eM : (if ((240 + o.length : Nat) : Int) > 300 then ((240 + o.length : Nat) : Int) else 300) = ((N : Nat) : Int) := by split <;> omega
      have eN : ((N : Nat) : Int).toNat = N := by omega
      have z0 : SC.v (.int .u8 0) = byteC 0 := rfl
      simp (maxSteps := 4000000) only [Try.results12, ids_bsC, ren_bsC, noRo_bsC, plain_bsC, lt_bsC, ids_byte, ren_byte, noRo_byte, plain_byte, lt_byte, eL, eM, eN, rep_flat, XX, Nat.reduceBEq, Nat.reduceLT, Nat.reduceAdd, Nat.reduceMul, Nat.reduceSub, Nat.reduceLeDiff, Nat.reduceEqDiff, Int.reduceToNat, Int.reduceLT, Int.reduceLE, Int.reduceAdd, Int.reduceSub, Int.reduceEq, reduceIte, Nat.reduceBNe, Int.reducePow, Nat.reducePow, Int.reduceMul, Int.reduceNeg, isB_i, isB_b, isB_y, isBv_i, isBv_b, eqCells_t, TT]
      refine ⟨by omega, by omega, by rw [List.length_replicate]; omega, by omega, by simp; omega, ?_⟩
      have hz : (List.take 2 (List.take 1 (List.replicate N (SC.v (.int .u8 0))) ++ [SC.v (.int .u8 1)] ++ List.drop 2 (List.replicate N (SC.v (.int .u8 0)))) ++ [SC.v (.int .u8 6)] ++ List.drop 3 (List.take 1 (List.replicate N (SC.v (.int .u8 0))) ++ [SC.v (.int .u8 1)] ++ List.drop 2 (List.replicate N (SC.v (.int .u8 0))))) = bsC ([0, 1, 6] ++ List.replicate (N - 3) 0) := by
        obtain ⟨n, rfl⟩ : ∃ n, N = n + 3 := ⟨N - 3, by omega⟩
        rw [Nat.add_sub_cancel, ← bs_app, bsC_zeros]
        simp only [List.replicate_succ, List.take_succ_cons, List.take_zero, List.drop_succ_cons, List.drop_zero, List.cons_append, List.nil_append]
        rfl
      refine gen_call16 (fun H => H[0]? = some ⟨true, 29, boC m (roO xs sp c0)⟩ ∧ H[1]? = some (wB op (o ++ zp)) ∧ H[2]? = some (wB true ([0, 1, 6] ++ List.replicate (N - 3) 0)) ∧ H.length = 3) ⟨rfl, rfl, congrArg (fun l => some (SB.mk true 5 l)) hz, rfl⟩ ?_
      rintro H ⟨g0, g1, g2, g3⟩
      refine call_fz [] fields_spec (fun t h' h => by obtain ⟨rfl, rfl⟩ := h; exact ⟨rfl, rfl⟩) trivial ?_
      rintro _ _ ⟨rfl, rfl⟩
      rw [g3]
      have E0 : EncS (H ++ (boxesL ++ [rowF 0]).map (SB.ren (renF [] 3))) ⟨true, 29, boC m (roO xs sp c0)⟩ (wB op (o ++ zp)) [0, 1, 6] N := by
        refine ⟨(List.getElem?_append_left (by omega)).trans g0, (List.getElem?_append_left (by omega)).trans g1, (List.getElem?_append_left (by omega)).trans g2, fun j x hx => ?_, ?_⟩
        · rw [List.getElem?_append_right (by omega), g3, Nat.add_sub_cancel_left]
          match j, hx with
          | 0, hx => cases hx; rfl
          | 1, hx => cases hx; rfl
          | 2, hx => cases hx; rfl
          | 3, hx => cases hx; rfl
          | 4, hx => cases hx; rfl
          | 5, hx => cases hx; rfl
          | 6, hx => cases hx; rfl
          | 7, hx => cases hx; rfl
        · rw [List.getElem?_append_right (by omega), g3]; rfl
      refine gen_hp (fun G => EncS G ⟨true, 29, boC m (roO xs sp c0)⟩ (wB op (o ++ zp)) [0, 1, 6] N) E0 ?_
      clear E0 g0 g1 g2 g3
      rintro G E0
      simp (maxSteps := 4000000) only [Try.results12, ids_bsC, ren_bsC, noRo_bsC, plain_bsC, lt_bsC, ids_byte, ren_byte, noRo_byte, plain_byte, lt_byte, XX, Nat.reduceBEq, Nat.reduceLT, Nat.reduceAdd, Nat.reduceMul, Nat.reduceSub, Nat.reduceLeDiff, Nat.reduceEqDiff, Int.reduceToNat, Int.reduceLT, Int.reduceLE, Int.reduceAdd, Int.reduceSub, Int.reduceEq, reduceIte, Nat.reduceBNe, Int.reducePow, Nat.reducePow, Int.reduceMul, Int.reduceNeg, isB_i, isB_b, isB_y, isBv_i, isBv_b, eqCells_t, TT]
      have hops : 0 ≤ m.hops ∧ m.hops ≤ 255 ∧ (m.op = 1 ∨ m.op = 2) := by
        unfold badB at hb1
        simp at hb1
        omega
      have exid : IntKind.u64.wrap (m.xid : Int) = (m.xid : Int) := by have := hm.xid; rw [wu64] <;> omega
      have eci : IntKind.u64.wrap (m.ci : Int) = (m.ci : Int) := by have := hm.ci; rw [wu64] <;> omega
      have eyi : IntKind.u64.wrap (m.yi : Int) = (m.yi : Int) := by have := hm.yi; rw [wu64] <;> omega
      have esi : IntKind.u64.wrap (m.si : Int) = (m.si : Int) := by have := hm.si; rw [wu64] <;> omega
      have egi : IntKind.u64.wrap (m.gi : Int) = (m.gi : Int) := by have := hm.gi; rw [wu64] <;> omega
      have esecs : IntKind.u64.wrap m.secs = ((m.secs.toNat : Nat) : Int) := by rw [wu64] <;> omega
      have gxid := hm.xid
      have gci := hm.ci
      have gyi := hm.yi
      have gsi := hm.si
      have ggi := hm.gi
      have eop : IntKind.u64.wrap m.op = ((m.op.toNat : Nat) : Int) := by rw [wu64] <;> omega
      have ehops : IntKind.u64.wrap m.hops = ((m.hops.toNat : Nat) : Int) := by rw [wu64] <;> omega
      refine loop_any cx_ok 400 (fun μ σ => ∃ (i : Nat) (G : List SB), μ = 9 - i ∧ i ≤ 9 ∧ EncS G ⟨true, 29, boC m (roO xs sp c0)⟩ (wB op (o ++ zp)) (AP m i) N ∧ σ = ⟨⟨36, 0⟩, [(1, .c (.ptr 0 0)), (5, .c (.sl 1 0 o.length (o.length + zp.length))), (7, .c (.sl 2 0 N N)), (33, .c (.sl 11 0 9 9)), (34, .c (i64 9)), (35, .c (i64 i))], G⟩) 9
        ⟨⟨36, 0⟩, [(1, .c (.ptr 0 0)), (5, .c (.sl 1 0 o.length (o.length + zp.length))), (7, .c (.sl 2 0 N N)), (33, .c (.sl 11 0 9 9)), (34, .c (i64 9)), (35, .c (i64 (0 : Nat)))], G⟩ ⟨0, G, rfl, by omega, E0, rfl⟩ (.inl ⟨rfl, rfl, rfl, rfl, rfl, rfl, rfl, rfl, trivial⟩) ?_
      clear E0
      rintro μ σ ⟨i, G, rfl, hi, E, rfl⟩
      by_cases hlt : i < 9
      · obtain ⟨cc0, cc1, cc2, cbx, crow⟩ := E
        have lc0 := lt_of cc0
        have lc2 := lt_of cc2
        have lcr := lt_of crow
        simp only [rowF, fieldsR, fI, fU, List.cons_append, List.nil_append] at crow
        rcases (by omega : i = 0 ∨ i = 1 ∨ i = 2 ∨ i = 3 ∨ i = 4 ∨ i = 5 ∨ i = 6 ∨ i = 7 ∨ i = 8) with rfl | rfl | rfl | rfl | rfl | rfl | rfl | rfl | rfl
        · simp (maxSteps := 4000000) only [Try.results12, crow, lcr, set_end, List.append_assoc, List.getElem?_append_left, List.getElem?_append_right, List.length_append, List.length_set, List.set_append_left, gset, List.getElem?_set_ne, Nat.add_sub_cancel_left, Nat.sub_self, Nat.le_refl, Nat.le_add_right, List.replicate_one, List.flatten_cons, List.flatten_nil, rep_flat, Int.cast_ofNat_Int, XX, Nat.reduceBEq, Nat.reduceLT, Nat.reduceAdd, Nat.reduceMul, Nat.reduceSub, Nat.reduceLeDiff, Nat.reduceEqDiff, Int.reduceToNat, Int.reduceLT, Int.reduceLE, Int.reduceAdd, Int.reduceSub, Int.reduceEq, reduceIte, Nat.reduceBNe, Int.reducePow, Nat.reducePow, Int.reduceMul, Int.reduceNeg, isB_i, isB_b, isB_y, isBv_i, isBv_b, eqCells_t, TT]
          have uf : (G ++ [⟨true, 66, fI 3 0 1⟩])[G.length]? = some ⟨true, 66, fI 3 0 1⟩ := by rw [List.getElem?_append_right (Nat.le_refl _), Nat.sub_self]; rfl
          have E1 : EncS (G ++ [⟨true, 66, fI 3 0 1⟩]) ⟨true, 29, boC m (roO xs sp c0)⟩ (wB op (o ++ zp)) (AP m 0) N := EncS.app ⟨cc0, cc1, cc2, cbx, crow⟩ _
          generalize G ++ [(⟨true, 66, fI 3 0 1⟩ : SB)] = F at *
          generalize G.length = wf at *
          have hwf : 11 < wf := by omega
          obtain ⟨oF, mf⟩ : ∃ o, (maskL [wf] 0 F)[wf]? = some ⟨o, 66, fI 3 0 1⟩ := maskL_at uf
          have mo : ∀ k, k ≤ 11 → (maskL [wf] 0 F)[k]? = F[k]? := fun k hk => maskL_off (by simp; omega)
          have m0 := (mo 0 (by omega)).trans E1.c0
          have m2 := (mo 2 (by omega)).trans E1.c2
          have m3 := (mo 3 (by omega)).trans (E1.bx 0 _ rfl)
          have lm2 := lt_of m2
          have hok := kept_cons uf rfl kept_nil
          refine draw_of cx_ok (by kernel_rfl) 400 [wf] [(0, true), (1, true), (2, true), (3, true), (4, true), (5, true), (7, true), (8, true), (6, false), (9, false), (10, false)] (by kernel_rfl) (by first | exact hok | simp [*]) ?_
          simp (maxSteps := 4000000) only [Try.results12, mf, m0, m2, m3, maskL_nil, unL_nil, List.append_assoc, List.getElem?_append_left, List.getElem?_append_right, List.length_append, List.length_set, List.set_append_left, gset, List.getElem?_set_ne, Nat.add_sub_cancel_left, Nat.sub_self, Nat.le_refl, Nat.le_add_right, List.replicate_one, List.flatten_cons, List.flatten_nil, rep_flat, XX, Nat.reduceBEq, Nat.reduceLT, Nat.reduceAdd, Nat.reduceMul, Nat.reduceSub, Nat.reduceLeDiff, Nat.reduceEqDiff, Int.reduceToNat, Int.reduceLT, Int.reduceLE, Int.reduceAdd, Int.reduceSub, Int.reduceEq, reduceIte, Nat.reduceBNe, Int.reducePow, Nat.reducePow, Int.reduceMul, Int.reduceNeg, isB_i, isB_b, isB_y, isBv_i, isBv_b, eqCells_t, TT]
          refine ⟨by omega, ?_⟩
          refine call_is (small1_spec (maskL [wf] 0 F) 0 3 0 63 m.op true _ m3 m0 rfl (by simp) (pF1_spec _ 0)) ?_
          rintro _ _ ⟨rfl, rfl⟩
          simp (maxSteps := 4000000) only [Try.results12, eop, List.append_assoc, List.getElem?_append_left, List.getElem?_append_right, List.length_append, List.length_set, List.set_append_left, gset, List.getElem?_set_ne, Nat.add_sub_cancel_left, Nat.sub_self, Nat.le_refl, Nat.le_add_right, List.replicate_one, List.flatten_cons, List.flatten_nil, rep_flat, XX, Nat.reduceBEq, Nat.reduceLT, Nat.reduceAdd, Nat.reduceMul, Nat.reduceSub, Nat.reduceLeDiff, Nat.reduceEqDiff, Int.reduceToNat, Int.reduceLT, Int.reduceLE, Int.reduceAdd, Int.reduceSub, Int.reduceEq, reduceIte, Nat.reduceBNe, Int.reducePow, Nat.reducePow, Int.reduceMul, Int.reduceNeg, isB_i, isB_b, isB_y, isBv_i, isBv_b, eqCells_t, TT]
          refine call_fz [.c (u64 (m.op.toNat : Nat)), .c (i64 1)] (put1_spec m.op.toNat (by omega)) (fun t h' h => by obtain ⟨rfl, rfl⟩ := h; exact ⟨rfl, by simp only [XX, Nat.reduceBEq, Nat.reduceLT, Nat.reduceAdd, Nat.reduceMul, Nat.reduceSub, Nat.reduceLeDiff, Nat.reduceEqDiff, Int.reduceToNat, Int.reduceLT, Int.reduceLE, Int.reduceAdd, Int.reduceSub, Int.reduceEq, reduceIte, Nat.reduceBNe, Int.reducePow, Nat.reducePow, Int.reduceMul, Int.reduceNeg, isB_i, isB_b, isB_y, isBv_i, isBv_b, eqCells_t, TT, ids_bsC, ren_bsC, noRo_bsC, plain_bsC, lt_bsC, ids_byte, ren_byte, noRo_byte, plain_byte, lt_byte]⟩) ⟨.inl ⟨rfl, rfl⟩, .inl ⟨rfl, rfl⟩, trivial⟩ ?_
          rintro _ _ ⟨rfl, rfl⟩
          obtain ⟨M, hM⟩ : ∃ M, M = [UInt8.ofNat (m.op.toNat)] := ⟨_, rfl⟩
          have lM : M.length = 1 := by rw [hM]; rfl
          rw [← hM]
          have tM : (bsC M).take 1 = bsC M := by rw [bs_take, List.take_of_length_le (by omega)]
          have eMin : min 1 (N) = 1 := by omega
          have ek : IntKind.i64.wrap 1 = 1 := by decide
          have lA : (AP m 0).length = 3 := AP_len0 m
          obtain ⟨A, hA⟩ : ∃ A, A = AP m 0 := ⟨_, rfl⟩
          rw [← hA] at m2 lA E1
          have hst := stepA (M := M) (N := N) (A := A) (by omega) lM lA
          simp (maxSteps := 4000000) only [Try.results12, ids_bsC, ren_bsC, noRo_bsC, plain_bsC, lt_bsC, ids_byte, ren_byte, noRo_byte, plain_byte, lt_byte, mf, m0, m2, m3, lm2, eMin, tM, ek, bsC_len, lM, Nat.reduceAdd, List.append_assoc, List.getElem?_append_left, List.getElem?_append_right, List.length_append, List.length_set, List.set_append_left, gset, List.getElem?_set_ne, Nat.add_sub_cancel_left, Nat.sub_self, Nat.le_refl, Nat.le_add_right, List.replicate_one, List.flatten_cons, List.flatten_nil, rep_flat, XX, Nat.reduceBEq, Nat.reduceLT, Nat.reduceAdd, Nat.reduceMul, Nat.reduceSub, Nat.reduceLeDiff, Nat.reduceEqDiff, Int.reduceToNat, Int.reduceLT, Int.reduceLE, Int.reduceAdd, Int.reduceSub, Int.reduceEq, reduceIte, Nat.reduceBNe, Int.reducePow, Nat.reducePow, Int.reduceMul, Int.reduceNeg, isB_i, isB_b, isB_y, isBv_i, isBv_b, eqCells_t, TT]
          have hA' : AP m 1 = M ++ A.drop 1 := by
            rw [hA, hM, ofInt_nat (by omega)]
            rfl
          refine ⟨by rw [List.length_replicate]; omega, 9 - 1, by omega, _, ⟨1, _, rfl, by omega, EncS.next E1 hwf (A' := AP m 1) ?_, rfl⟩, .inl ⟨rfl, rfl, rfl, rfl, rfl, rfl, rfl, rfl, trivial⟩⟩
          rw [hA', ← hst]
          simp only [bs_take, bs_drop, bs_app, List.append_assoc, lM, Nat.reduceAdd]
        · simp (maxSteps := 4000000) only [Try.results12, crow, lcr, set_end, List.append_assoc, List.getElem?_append_left, List.getElem?_append_right, List.length_append, List.length_set, List.set_append_left, gset, List.getElem?_set_ne, Nat.add_sub_cancel_left, Nat.sub_self, Nat.le_refl, Nat.le_add_right, List.replicate_one, List.flatten_cons, List.flatten_nil, rep_flat, Int.cast_ofNat_Int, XX, Nat.reduceBEq, Nat.reduceLT, Nat.reduceAdd, Nat.reduceMul, Nat.reduceSub, Nat.reduceLeDiff, Nat.reduceEqDiff, Int.reduceToNat, Int.reduceLT, Int.reduceLE, Int.reduceAdd, Int.reduceSub, Int.reduceEq, reduceIte, Nat.reduceBNe, Int.reducePow, Nat.reducePow, Int.reduceMul, Int.reduceNeg, isB_i, isB_b, isB_y, isBv_i, isBv_b, eqCells_t, TT]
          have uf : (G ++ [⟨true, 66, fI 4 3 1⟩])[G.length]? = some ⟨true, 66, fI 4 3 1⟩ := by rw [List.getElem?_append_right (Nat.le_refl _), Nat.sub_self]; rfl
          have E1 : EncS (G ++ [⟨true, 66, fI 4 3 1⟩]) ⟨true, 29, boC m (roO xs sp c0)⟩ (wB op (o ++ zp)) (AP m 1) N := EncS.app ⟨cc0, cc1, cc2, cbx, crow⟩ _
          generalize G ++ [(⟨true, 66, fI 4 3 1⟩ : SB)] = F at *
          generalize G.length = wf at *
          have hwf : 11 < wf := by omega
          obtain ⟨oF, mf⟩ : ∃ o, (maskL [wf] 0 F)[wf]? = some ⟨o, 66, fI 4 3 1⟩ := maskL_at uf
          have mo : ∀ k, k ≤ 11 → (maskL [wf] 0 F)[k]? = F[k]? := fun k hk => maskL_off (by simp; omega)
          have m0 := (mo 0 (by omega)).trans E1.c0
          have m2 := (mo 2 (by omega)).trans E1.c2
          have m3 := (mo 4 (by omega)).trans (E1.bx 1 _ rfl)
          have lm2 := lt_of m2
          have hok := kept_cons uf rfl kept_nil
          refine draw_of cx_ok (by kernel_rfl) 400 [wf] [(0, true), (1, true), (2, true), (3, true), (4, true), (5, true), (7, true), (8, true), (6, false), (9, false), (10, false)] (by kernel_rfl) (by first | exact hok | simp [*]) ?_
          simp (maxSteps := 4000000) only [Try.results12, mf, m0, m2, m3, maskL_nil, unL_nil, List.append_assoc, List.getElem?_append_left, List.getElem?_append_right, List.length_append, List.length_set, List.set_append_left, gset, List.getElem?_set_ne, Nat.add_sub_cancel_left, Nat.sub_self, Nat.le_refl, Nat.le_add_right, List.replicate_one, List.flatten_cons, List.flatten_nil, rep_flat, XX, Nat.reduceBEq, Nat.reduceLT, Nat.reduceAdd, Nat.reduceMul, Nat.reduceSub, Nat.reduceLeDiff, Nat.reduceEqDiff, Int.reduceToNat, Int.reduceLT, Int.reduceLE, Int.reduceAdd, Int.reduceSub, Int.reduceEq, reduceIte, Nat.reduceBNe, Int.reducePow, Nat.reducePow, Int.reduceMul, Int.reduceNeg, isB_i, isB_b, isB_y, isBv_i, isBv_b, eqCells_t, TT]
          refine ⟨by omega, ?_⟩
          refine call_is (small1_spec (maskL [wf] 0 F) 0 4 1 64 m.hops true _ m3 m0 rfl (by simp) (pF2_spec _ 0)) ?_
          rintro _ _ ⟨rfl, rfl⟩
          simp (maxSteps := 4000000) only [Try.results12, ehops, List.append_assoc, List.getElem?_append_left, List.getElem?_append_right, List.length_append, List.length_set, List.set_append_left, gset, List.getElem?_set_ne, Nat.add_sub_cancel_left, Nat.sub_self, Nat.le_refl, Nat.le_add_right, List.replicate_one, List.flatten_cons, List.flatten_nil, rep_flat, XX, Nat.reduceBEq, Nat.reduceLT, Nat.reduceAdd, Nat.reduceMul, Nat.reduceSub, Nat.reduceLeDiff, Nat.reduceEqDiff, Int.reduceToNat, Int.reduceLT, Int.reduceLE, Int.reduceAdd, Int.reduceSub, Int.reduceEq, reduceIte, Nat.reduceBNe, Int.reducePow, Nat.reducePow, Int.reduceMul, Int.reduceNeg, isB_i, isB_b, isB_y, isBv_i, isBv_b, eqCells_t, TT]
          refine call_fz [.c (u64 (m.hops.toNat : Nat)), .c (i64 1)] (put1_spec m.hops.toNat (by omega)) (fun t h' h => by obtain ⟨rfl, rfl⟩ := h; exact ⟨rfl, by simp only [XX, Nat.reduceBEq, Nat.reduceLT, Nat.reduceAdd, Nat.reduceMul, Nat.reduceSub, Nat.reduceLeDiff, Nat.reduceEqDiff, Int.reduceToNat, Int.reduceLT, Int.reduceLE, Int.reduceAdd, Int.reduceSub, Int.reduceEq, reduceIte, Nat.reduceBNe, Int.reducePow, Nat.reducePow, Int.reduceMul, Int.reduceNeg, isB_i, isB_b, isB_y, isBv_i, isBv_b, eqCells_t, TT, ids_bsC, ren_bsC, noRo_bsC, plain_bsC, lt_bsC, ids_byte, ren_byte, noRo_byte, plain_byte, lt_byte]⟩) ⟨.inl ⟨rfl, rfl⟩, .inl ⟨rfl, rfl⟩, trivial⟩ ?_
          rintro _ _ ⟨rfl, rfl⟩
          obtain ⟨M, hM⟩ : ∃ M, M = [UInt8.ofNat (m.hops.toNat)] := ⟨_, rfl⟩
          have lM : M.length = 1 := by rw [hM]; rfl
          rw [← hM]
          have tM : (bsC M).take 1 = bsC M := by rw [bs_take, List.take_of_length_le (by omega)]
          have eMin : min 1 (N - 3) = 1 := by omega
          have ek : IntKind.i64.wrap 2 = 2 := by decide
          have lA : (AP m 1).length = 3 := AP_len1 m
          obtain ⟨A, hA⟩ : ∃ A, A = AP m 1 := ⟨_, rfl⟩
          rw [← hA] at m2 lA E1
          have hst := stepZ (A := A) (X := M) (N := N) (a := 3) (by omega) (by omega)
          simp (maxSteps := 4000000) only [Try.results12, ids_bsC, ren_bsC, noRo_bsC, plain_bsC, lt_bsC, ids_byte, ren_byte, noRo_byte, plain_byte, lt_byte, mf, m0, m2, m3, lm2, eMin, tM, ek, bsC_len, lM, Nat.reduceAdd, List.append_assoc, List.getElem?_append_left, List.getElem?_append_right, List.length_append, List.length_set, List.set_append_left, gset, List.getElem?_set_ne, Nat.add_sub_cancel_left, Nat.sub_self, Nat.le_refl, Nat.le_add_right, List.replicate_one, List.flatten_cons, List.flatten_nil, rep_flat, XX, Nat.reduceBEq, Nat.reduceLT, Nat.reduceAdd, Nat.reduceMul, Nat.reduceSub, Nat.reduceLeDiff, Nat.reduceEqDiff, Int.reduceToNat, Int.reduceLT, Int.reduceLE, Int.reduceAdd, Int.reduceSub, Int.reduceEq, reduceIte, Nat.reduceBNe, Int.reducePow, Nat.reducePow, Int.reduceMul, Int.reduceNeg, isB_i, isB_b, isB_y, isBv_i, isBv_b, eqCells_t, TT]
          have hA' : AP m 2 = A ++ List.replicate (3 - A.length) 0 ++ M := by
            rw [lA, hA, hM, ofInt_nat (by omega)]
            rfl
          refine ⟨by rw [List.length_replicate]; omega, 9 - 2, by omega, _, ⟨2, _, rfl, by omega, EncS.next E1 hwf (A' := AP m 2) ?_, rfl⟩, .inl ⟨rfl, rfl, rfl, rfl, rfl, rfl, rfl, rfl, trivial⟩⟩
          rw [hA', ← hst]
          simp only [bs_take, bs_drop, bs_app, List.append_assoc, lM, Nat.reduceAdd]
        · simp (maxSteps := 4000000) only [Try.results12, crow, lcr, set_end, List.append_assoc, List.getElem?_append_left, List.getElem?_append_right, List.length_append, List.length_set, List.set_append_left, gset, List.getElem?_set_ne, Nat.add_sub_cancel_left, Nat.sub_self, Nat.le_refl, Nat.le_add_right, List.replicate_one, List.flatten_cons, List.flatten_nil, rep_flat, Int.cast_ofNat_Int, XX, Nat.reduceBEq, Nat.reduceLT, Nat.reduceAdd, Nat.reduceMul, Nat.reduceSub, Nat.reduceLeDiff, Nat.reduceEqDiff, Int.reduceToNat, Int.reduceLT, Int.reduceLE, Int.reduceAdd, Int.reduceSub, Int.reduceEq, reduceIte, Nat.reduceBNe, Int.reducePow, Nat.reducePow, Int.reduceMul, Int.reduceNeg, isB_i, isB_b, isB_y, isBv_i, isBv_b, eqCells_t, TT]
          have uf : (G ++ [⟨true, 66, fU 5 4⟩])[G.length]? = some ⟨true, 66, fU 5 4⟩ := by rw [List.getElem?_append_right (Nat.le_refl _), Nat.sub_self]; rfl
          have E1 : EncS (G ++ [⟨true, 66, fU 5 4⟩]) ⟨true, 29, boC m (roO xs sp c0)⟩ (wB op (o ++ zp)) (AP m 2) N := EncS.app ⟨cc0, cc1, cc2, cbx, crow⟩ _
          generalize G ++ [(⟨true, 66, fU 5 4⟩ : SB)] = F at *
          generalize G.length = wf at *
          have hwf : 11 < wf := by omega
          obtain ⟨oF, mf⟩ : ∃ o, (maskL [wf] 0 F)[wf]? = some ⟨o, 66, fU 5 4⟩ := maskL_at uf
          have mo : ∀ k, k ≤ 11 → (maskL [wf] 0 F)[k]? = F[k]? := fun k hk => maskL_off (by simp; omega)
          have m0 := (mo 0 (by omega)).trans E1.c0
          have m2 := (mo 2 (by omega)).trans E1.c2
          have m3 := (mo 5 (by omega)).trans (E1.bx 2 _ rfl)
          have lm2 := lt_of m2
          have hok := kept_cons uf rfl kept_nil
          refine draw_of cx_ok (by kernel_rfl) 400 [wf] [(0, true), (1, true), (2, true), (3, true), (4, true), (5, true), (7, true), (8, true), (6, false), (9, false), (10, false)] (by kernel_rfl) (by first | exact hok | simp [*]) ?_
          simp (maxSteps := 4000000) only [Try.results12, mf, m0, m2, m3, maskL_nil, unL_nil, List.append_assoc, List.getElem?_append_left, List.getElem?_append_right, List.length_append, List.length_set, List.set_append_left, gset, List.getElem?_set_ne, Nat.add_sub_cancel_left, Nat.sub_self, Nat.le_refl, Nat.le_add_right, List.replicate_one, List.flatten_cons, List.flatten_nil, rep_flat, XX, Nat.reduceBEq, Nat.reduceLT, Nat.reduceAdd, Nat.reduceMul, Nat.reduceSub, Nat.reduceLeDiff, Nat.reduceEqDiff, Int.reduceToNat, Int.reduceLT, Int.reduceLE, Int.reduceAdd, Int.reduceSub, Int.reduceEq, reduceIte, Nat.reduceBNe, Int.reducePow, Nat.reducePow, Int.reduceMul, Int.reduceNeg, isB_i, isB_b, isB_y, isBv_i, isBv_b, eqCells_t, TT]
          refine ⟨by omega, ?_⟩
          refine call_is (address1_spec (maskL [wf] 0 F) 0 5 2 66 m.xid true _ m3 m0 rfl (by simp) (pF3_spec _ 0)) ?_
          rintro _ _ ⟨rfl, rfl⟩
          simp (maxSteps := 4000000) only [Try.results12, exid, List.append_assoc, List.getElem?_append_left, List.getElem?_append_right, List.length_append, List.length_set, List.set_append_left, gset, List.getElem?_set_ne, Nat.add_sub_cancel_left, Nat.sub_self, Nat.le_refl, Nat.le_add_right, List.replicate_one, List.flatten_cons, List.flatten_nil, rep_flat, XX, Nat.reduceBEq, Nat.reduceLT, Nat.reduceAdd, Nat.reduceMul, Nat.reduceSub, Nat.reduceLeDiff, Nat.reduceEqDiff, Int.reduceToNat, Int.reduceLT, Int.reduceLE, Int.reduceAdd, Int.reduceSub, Int.reduceEq, reduceIte, Nat.reduceBNe, Int.reducePow, Nat.reducePow, Int.reduceMul, Int.reduceNeg, isB_i, isB_b, isB_y, isBv_i, isBv_b, eqCells_t, TT]
          refine call_fz [.c (u64 (m.xid : Nat)), .c (i64 4)] (put4_spec m.xid (by omega)) (fun t h' h => by obtain ⟨rfl, rfl⟩ := h; exact ⟨rfl, by simp only [XX, Nat.reduceBEq, Nat.reduceLT, Nat.reduceAdd, Nat.reduceMul, Nat.reduceSub, Nat.reduceLeDiff, Nat.reduceEqDiff, Int.reduceToNat, Int.reduceLT, Int.reduceLE, Int.reduceAdd, Int.reduceSub, Int.reduceEq, reduceIte, Nat.reduceBNe, Int.reducePow, Nat.reducePow, Int.reduceMul, Int.reduceNeg, isB_i, isB_b, isB_y, isBv_i, isBv_b, eqCells_t, TT, ids_bsC, ren_bsC, noRo_bsC, plain_bsC, lt_bsC, ids_byte, ren_byte, noRo_byte, plain_byte, lt_byte]⟩) ⟨.inl ⟨rfl, rfl⟩, .inl ⟨rfl, rfl⟩, trivial⟩ ?_
          rintro _ _ ⟨rfl, rfl⟩
          obtain ⟨M, hM⟩ : ∃ M, M = be4 (m.xid) := ⟨_, rfl⟩
          have lM : M.length = 4 := by rw [hM]; rfl
          rw [← hM]
          have tM : (bsC M).take 4 = bsC M := by rw [bs_take, List.take_of_length_le (by omega)]
          have eMin : min 4 (N - 4) = 4 := by omega
          have ek : IntKind.i64.wrap 3 = 3 := by decide
          have lA : (AP m 2).length = 4 := AP_len2 m
          obtain ⟨A, hA⟩ : ∃ A, A = AP m 2 := ⟨_, rfl⟩
          rw [← hA] at m2 lA E1
          have hst := stepZ (A := A) (X := M) (N := N) (a := 4) (by omega) (by omega)
          simp (maxSteps := 4000000) only [Try.results12, ids_bsC, ren_bsC, noRo_bsC, plain_bsC, lt_bsC, ids_byte, ren_byte, noRo_byte, plain_byte, lt_byte, mf, m0, m2, m3, lm2, eMin, tM, ek, bsC_len, lM, Nat.reduceAdd, List.append_assoc, List.getElem?_append_left, List.getElem?_append_right, List.length_append, List.length_set, List.set_append_left, gset, List.getElem?_set_ne, Nat.add_sub_cancel_left, Nat.sub_self, Nat.le_refl, Nat.le_add_right, List.replicate_one, List.flatten_cons, List.flatten_nil, rep_flat, XX, Nat.reduceBEq, Nat.reduceLT, Nat.reduceAdd, Nat.reduceMul, Nat.reduceSub, Nat.reduceLeDiff, Nat.reduceEqDiff, Int.reduceToNat, Int.reduceLT, Int.reduceLE, Int.reduceAdd, Int.reduceSub, Int.reduceEq, reduceIte, Nat.reduceBNe, Int.reducePow, Nat.reducePow, Int.reduceMul, Int.reduceNeg, isB_i, isB_b, isB_y, isBv_i, isBv_b, eqCells_t, TT]
          have hA' : AP m 3 = A ++ List.replicate (4 - A.length) 0 ++ M := by
            rw [lA, hA, hM]
            rfl
          refine ⟨by rw [List.length_replicate]; omega, 9 - 3, by omega, _, ⟨3, _, rfl, by omega, EncS.next E1 hwf (A' := AP m 3) ?_, rfl⟩, .inl ⟨rfl, rfl, rfl, rfl, rfl, rfl, rfl, rfl, trivial⟩⟩
          rw [hA', ← hst]
          simp only [bs_take, bs_drop, bs_app, List.append_assoc, lM, Nat.reduceAdd]
        · simp (maxSteps := 4000000) only [Try.results12, crow, lcr, set_end, List.append_assoc, List.getElem?_append_left, List.getElem?_append_right, List.length_append, List.length_set, List.set_append_left, gset, List.getElem?_set_ne, Nat.add_sub_cancel_left, Nat.sub_self, Nat.le_refl, Nat.le_add_right, List.replicate_one, List.flatten_cons, List.flatten_nil, rep_flat, Int.cast_ofNat_Int, XX, Nat.reduceBEq, Nat.reduceLT, Nat.reduceAdd, Nat.reduceMul, Nat.reduceSub, Nat.reduceLeDiff, Nat.reduceEqDiff, Int.reduceToNat, Int.reduceLT, Int.reduceLE, Int.reduceAdd, Int.reduceSub, Int.reduceEq, reduceIte, Nat.reduceBNe, Int.reducePow, Nat.reducePow, Int.reduceMul, Int.reduceNeg, isB_i, isB_b, isB_y, isBv_i, isBv_b, eqCells_t, TT]
          have uf : (G ++ [⟨true, 66, fI 6 8 2⟩])[G.length]? = some ⟨true, 66, fI 6 8 2⟩ := by rw [List.getElem?_append_right (Nat.le_refl _), Nat.sub_self]; rfl
          have E1 : EncS (G ++ [⟨true, 66, fI 6 8 2⟩]) ⟨true, 29, boC m (roO xs sp c0)⟩ (wB op (o ++ zp)) (AP m 3) N := EncS.app ⟨cc0, cc1, cc2, cbx, crow⟩ _
          generalize G ++ [(⟨true, 66, fI 6 8 2⟩ : SB)] = F at *
          generalize G.length = wf at *
          have hwf : 11 < wf := by omega
          obtain ⟨oF, mf⟩ : ∃ o, (maskL [wf] 0 F)[wf]? = some ⟨o, 66, fI 6 8 2⟩ := maskL_at uf
          have mo : ∀ k, k ≤ 11 → (maskL [wf] 0 F)[k]? = F[k]? := fun k hk => maskL_off (by simp; omega)
          have m0 := (mo 0 (by omega)).trans E1.c0
          have m2 := (mo 2 (by omega)).trans E1.c2
          have m3 := (mo 6 (by omega)).trans (E1.bx 3 _ rfl)
          have lm2 := lt_of m2
          have hok := kept_cons uf rfl kept_nil
          refine draw_of cx_ok (by kernel_rfl) 400 [wf] [(0, true), (1, true), (2, true), (3, true), (4, true), (5, true), (7, true), (8, true), (6, false), (9, false), (10, false)] (by kernel_rfl) (by first | exact hok | simp [*]) ?_
          simp (maxSteps := 4000000) only [Try.results12, mf, m0, m2, m3, maskL_nil, unL_nil, List.append_assoc, List.getElem?_append_left, List.getElem?_append_right, List.length_append, List.length_set, List.set_append_left, gset, List.getElem?_set_ne, Nat.add_sub_cancel_left, Nat.sub_self, Nat.le_refl, Nat.le_add_right, List.replicate_one, List.flatten_cons, List.flatten_nil, rep_flat, XX, Nat.reduceBEq, Nat.reduceLT, Nat.reduceAdd, Nat.reduceMul, Nat.reduceSub, Nat.reduceLeDiff, Nat.reduceEqDiff, Int.reduceToNat, Int.reduceLT, Int.reduceLE, Int.reduceAdd, Int.reduceSub, Int.reduceEq, reduceIte, Nat.reduceBNe, Int.reducePow, Nat.reducePow, Int.reduceMul, Int.reduceNeg, isB_i, isB_b, isB_y, isBv_i, isBv_b, eqCells_t, TT]
          refine ⟨by omega, ?_⟩
          refine call_is (small1_spec (maskL [wf] 0 F) 0 6 3 67 m.secs true _ m3 m0 rfl (by simp) (pF4_spec _ 0)) ?_
          rintro _ _ ⟨rfl, rfl⟩
          simp (maxSteps := 4000000) only [Try.results12, esecs, List.append_assoc, List.getElem?_append_left, List.getElem?_append_right, List.length_append, List.length_set, List.set_append_left, gset, List.getElem?_set_ne, Nat.add_sub_cancel_left, Nat.sub_self, Nat.le_refl, Nat.le_add_right, List.replicate_one, List.flatten_cons, List.flatten_nil, rep_flat, XX, Nat.reduceBEq, Nat.reduceLT, Nat.reduceAdd, Nat.reduceMul, Nat.reduceSub, Nat.reduceLeDiff, Nat.reduceEqDiff, Int.reduceToNat, Int.reduceLT, Int.reduceLE, Int.reduceAdd, Int.reduceSub, Int.reduceEq, reduceIte, Nat.reduceBNe, Int.reducePow, Nat.reducePow, Int.reduceMul, Int.reduceNeg, isB_i, isB_b, isB_y, isBv_i, isBv_b, eqCells_t, TT]
          refine call_fz [.c (u64 (m.secs.toNat : Nat)), .c (i64 2)] (put2_spec m.secs.toNat (by omega)) (fun t h' h => by obtain ⟨rfl, rfl⟩ := h; exact ⟨rfl, by simp only [XX, Nat.reduceBEq, Nat.reduceLT, Nat.reduceAdd, Nat.reduceMul, Nat.reduceSub, Nat.reduceLeDiff, Nat.reduceEqDiff, Int.reduceToNat, Int.reduceLT, Int.reduceLE, Int.reduceAdd, Int.reduceSub, Int.reduceEq, reduceIte, Nat.reduceBNe, Int.reducePow, Nat.reducePow, Int.reduceMul, Int.reduceNeg, isB_i, isB_b, isB_y, isBv_i, isBv_b, eqCells_t, TT, ids_bsC, ren_bsC, noRo_bsC, plain_bsC, lt_bsC, ids_byte, ren_byte, noRo_byte, plain_byte, lt_byte]⟩) ⟨.inl ⟨rfl, rfl⟩, .inl ⟨rfl, rfl⟩, trivial⟩ ?_
          rintro _ _ ⟨rfl, rfl⟩
          obtain ⟨M, hM⟩ : ∃ M, M = be2 (m.secs.toNat) := ⟨_, rfl⟩
          have lM : M.length = 2 := by rw [hM]; rfl
          rw [← hM]
          have tM : (bsC M).take 2 = bsC M := by rw [bs_take, List.take_of_length_le (by omega)]
          have eMin : min 2 (N - 8) = 2 := by omega
          have ek : IntKind.i64.wrap 4 = 4 := by decide
          have lA : (AP m 3).length = 8 := AP_len3 m
          obtain ⟨A, hA⟩ : ∃ A, A = AP m 3 := ⟨_, rfl⟩
          rw [← hA] at m2 lA E1
          have hst := stepZ (A := A) (X := M) (N := N) (a := 8) (by omega) (by omega)
          simp (maxSteps := 4000000) only [Try.results12, ids_bsC, ren_bsC, noRo_bsC, plain_bsC, lt_bsC, ids_byte, ren_byte, noRo_byte, plain_byte, lt_byte, mf, m0, m2, m3, lm2, eMin, tM, ek, bsC_len, lM, Nat.reduceAdd, List.append_assoc, List.getElem?_append_left, List.getElem?_append_right, List.length_append, List.length_set, List.set_append_left, gset, List.getElem?_set_ne, Nat.add_sub_cancel_left, Nat.sub_self, Nat.le_refl, Nat.le_add_right, List.replicate_one, List.flatten_cons, List.flatten_nil, rep_flat, XX, Nat.reduceBEq, Nat.reduceLT, Nat.reduceAdd, Nat.reduceMul, Nat.reduceSub, Nat.reduceLeDiff, Nat.reduceEqDiff, Int.reduceToNat, Int.reduceLT, Int.reduceLE, Int.reduceAdd, Int.reduceSub, Int.reduceEq, reduceIte, Nat.reduceBNe, Int.reducePow, Nat.reducePow, Int.reduceMul, Int.reduceNeg, isB_i, isB_b, isB_y, isBv_i, isBv_b, eqCells_t, TT]
          have hA' : AP m 4 = A ++ List.replicate (8 - A.length) 0 ++ M := by
            rw [lA, hA, hM]
            rfl
          refine ⟨by rw [List.length_replicate]; omega, 9 - 4, by omega, _, ⟨4, _, rfl, by omega, EncS.next E1 hwf (A' := AP m 4) ?_, rfl⟩, .inl ⟨rfl, rfl, rfl, rfl, rfl, rfl, rfl, rfl, trivial⟩⟩
          rw [hA', ← hst]
          simp only [bs_take, bs_drop, bs_app, List.append_assoc, lM, Nat.reduceAdd]
        · simp (maxSteps := 4000000) only [Try.results12, crow, lcr, set_end, List.append_assoc, List.getElem?_append_left, List.getElem?_append_right, List.length_append, List.length_set, List.set_append_left, gset, List.getElem?_set_ne, Nat.add_sub_cancel_left, Nat.sub_self, Nat.le_refl, Nat.le_add_right, List.replicate_one, List.flatten_cons, List.flatten_nil, rep_flat, Int.cast_ofNat_Int, XX, Nat.reduceBEq, Nat.reduceLT, Nat.reduceAdd, Nat.reduceMul, Nat.reduceSub, Nat.reduceLeDiff, Nat.reduceEqDiff, Int.reduceToNat, Int.reduceLT, Int.reduceLE, Int.reduceAdd, Int.reduceSub, Int.reduceEq, reduceIte, Nat.reduceBNe, Int.reducePow, Nat.reducePow, Int.reduceMul, Int.reduceNeg, isB_i, isB_b, isB_y, isBv_i, isBv_b, eqCells_t, TT]
          have uf : (G ++ [⟨true, 66, [i64 10, i64 1, .fn 68 [], .fn 69 []]⟩])[G.length]? = some ⟨true, 66, [i64 10, i64 1, .fn 68 [], .fn 69 []]⟩ := by rw [List.getElem?_append_right (Nat.le_refl _), Nat.sub_self]; rfl
          have E1 : EncS (G ++ [⟨true, 66, [i64 10, i64 1, .fn 68 [], .fn 69 []]⟩]) ⟨true, 29, boC m (roO xs sp c0)⟩ (wB op (o ++ zp)) (AP m 4) N := EncS.app ⟨cc0, cc1, cc2, cbx, crow⟩ _
          generalize G ++ [(⟨true, 66, [i64 10, i64 1, .fn 68 [], .fn 69 []]⟩ : SB)] = F at *
          generalize G.length = wf at *
          have hwf : 11 < wf := by omega
          obtain ⟨oF, mf⟩ : ∃ o, (maskL [wf] 0 F)[wf]? = some ⟨o, 66, [i64 10, i64 1, .fn 68 [], .fn 69 []]⟩ := maskL_at uf
          have mo : ∀ k, k ≤ 11 → (maskL [wf] 0 F)[k]? = F[k]? := fun k hk => maskL_off (by simp; omega)
          have m0 := (mo 0 (by omega)).trans E1.c0
          have m2 := (mo 2 (by omega)).trans E1.c2
          have lm2 := lt_of m2
          have hok := kept_cons uf rfl kept_nil
          refine draw_of cx_ok (by kernel_rfl) 400 [wf] [(0, true), (1, true), (2, true), (3, true), (4, true), (5, true), (7, true), (8, true), (6, false), (9, false), (10, false)] (by kernel_rfl) (by first | exact hok | simp [*]) ?_
          simp (maxSteps := 4000000) only [Try.results12, mf, m0, m2, maskL_nil, unL_nil, List.append_assoc, List.getElem?_append_left, List.getElem?_append_right, List.length_append, List.length_set, List.set_append_left, gset, List.getElem?_set_ne, Nat.add_sub_cancel_left, Nat.sub_self, Nat.le_refl, Nat.le_add_right, List.replicate_one, List.flatten_cons, List.flatten_nil, rep_flat, XX, Nat.reduceBEq, Nat.reduceLT, Nat.reduceAdd, Nat.reduceMul, Nat.reduceSub, Nat.reduceLeDiff, Nat.reduceEqDiff, Int.reduceToNat, Int.reduceLT, Int.reduceLE, Int.reduceAdd, Int.reduceSub, Int.reduceEq, reduceIte, Nat.reduceBNe, Int.reducePow, Nat.reducePow, Int.reduceMul, Int.reduceNeg, isB_i, isB_b, isB_y, isBv_i, isBv_b, eqCells_t, TT]
          refine ⟨by omega, ?_⟩
          refine call_is (flag1_spec (maskL [wf] 0 F) 0 m.all _ m0 rfl (by simp)) ?_
          rintro _ _ ⟨rfl, rfl⟩
          simp (maxSteps := 4000000) only [Try.results12, List.append_assoc, List.getElem?_append_left, List.getElem?_append_right, List.length_append, List.length_set, List.set_append_left, gset, List.getElem?_set_ne, Nat.add_sub_cancel_left, Nat.sub_self, Nat.le_refl, Nat.le_add_right, List.replicate_one, List.flatten_cons, List.flatten_nil, rep_flat, XX, Nat.reduceBEq, Nat.reduceLT, Nat.reduceAdd, Nat.reduceMul, Nat.reduceSub, Nat.reduceLeDiff, Nat.reduceEqDiff, Int.reduceToNat, Int.reduceLT, Int.reduceLE, Int.reduceAdd, Int.reduceSub, Int.reduceEq, reduceIte, Nat.reduceBNe, Int.reducePow, Nat.reducePow, Int.reduceMul, Int.reduceNeg, isB_i, isB_b, isB_y, isBv_i, isBv_b, eqCells_t, TT]
          refine call_fz [.c (u64 ((if m.all then 128 else 0) : Nat)), .c (i64 1)] (put1_spec (if m.all then 128 else 0) (by split <;> omega)) (fun t h' h => by obtain ⟨rfl, rfl⟩ := h; exact ⟨rfl, by simp only [XX, Nat.reduceBEq, Nat.reduceLT, Nat.reduceAdd, Nat.reduceMul, Nat.reduceSub, Nat.reduceLeDiff, Nat.reduceEqDiff, Int.reduceToNat, Int.reduceLT, Int.reduceLE, Int.reduceAdd, Int.reduceSub, Int.reduceEq, reduceIte, Nat.reduceBNe, Int.reducePow, Nat.reducePow, Int.reduceMul, Int.reduceNeg, isB_i, isB_b, isB_y, isBv_i, isBv_b, eqCells_t, TT, ids_bsC, ren_bsC, noRo_bsC, plain_bsC, lt_bsC, ids_byte, ren_byte, noRo_byte, plain_byte, lt_byte]⟩) ⟨.inl ⟨rfl, rfl⟩, .inl ⟨rfl, rfl⟩, trivial⟩ ?_
          rintro _ _ ⟨rfl, rfl⟩
          obtain ⟨M, hM⟩ : ∃ M, M = [UInt8.ofNat (if m.all then 128 else 0)] := ⟨_, rfl⟩
          have lM : M.length = 1 := by rw [hM]; rfl
          rw [← hM]
          have tM : (bsC M).take 1 = bsC M := by rw [bs_take, List.take_of_length_le (by omega)]
          have eMin : min 1 (N - 10) = 1 := by omega
          have ek : IntKind.i64.wrap 5 = 5 := by decide
          have lA : (AP m 4).length = 10 := AP_len4 m
          obtain ⟨A, hA⟩ : ∃ A, A = AP m 4 := ⟨_, rfl⟩
          rw [← hA] at m2 lA E1
          have hst := stepZ (A := A) (X := M) (N := N) (a := 10) (by omega) (by omega)
          simp (maxSteps := 4000000) only [Try.results12, ids_bsC, ren_bsC, noRo_bsC, plain_bsC, lt_bsC, ids_byte, ren_byte, noRo_byte, plain_byte, lt_byte, mf, m0, m2, lm2, eMin, tM, ek, bsC_len, lM, Nat.reduceAdd, List.append_assoc, List.getElem?_append_left, List.getElem?_append_right, List.length_append, List.length_set, List.set_append_left, gset, List.getElem?_set_ne, Nat.add_sub_cancel_left, Nat.sub_self, Nat.le_refl, Nat.le_add_right, List.replicate_one, List.flatten_cons, List.flatten_nil, rep_flat, XX, Nat.reduceBEq, Nat.reduceLT, Nat.reduceAdd, Nat.reduceMul, Nat.reduceSub, Nat.reduceLeDiff, Nat.reduceEqDiff, Int.reduceToNat, Int.reduceLT, Int.reduceLE, Int.reduceAdd, Int.reduceSub, Int.reduceEq, reduceIte, Nat.reduceBNe, Int.reducePow, Nat.reducePow, Int.reduceMul, Int.reduceNeg, isB_i, isB_b, isB_y, isBv_i, isBv_b, eqCells_t, TT]
          have hA' : AP m 5 = A ++ List.replicate (10 - A.length) 0 ++ M := by
            rw [lA, hA, hM]
            cases h : m.all <;> simp [AP, flagB, h]
          refine ⟨by rw [List.length_replicate]; omega, 9 - 5, by omega, _, ⟨5, _, rfl, by omega, EncS.next E1 hwf (A' := AP m 5) ?_, rfl⟩, .inl ⟨rfl, rfl, rfl, rfl, rfl, rfl, rfl, rfl, trivial⟩⟩
          rw [hA', ← hst]
          simp only [bs_take, bs_drop, bs_app, List.append_assoc, lM, Nat.reduceAdd]
        · simp (maxSteps := 4000000) only [Try.results12, crow, lcr, set_end, List.append_assoc, List.getElem?_append_left, List.getElem?_append_right, List.length_append, List.length_set, List.set_append_left, gset, List.getElem?_set_ne, Nat.add_sub_cancel_left, Nat.sub_self, Nat.le_refl, Nat.le_add_right, List.replicate_one, List.flatten_cons, List.flatten_nil, rep_flat, Int.cast_ofNat_Int, XX, Nat.reduceBEq, Nat.reduceLT, Nat.reduceAdd, Nat.reduceMul, Nat.reduceSub, Nat.reduceLeDiff, Nat.reduceEqDiff, Int.reduceToNat, Int.reduceLT, Int.reduceLE, Int.reduceAdd, Int.reduceSub, Int.reduceEq, reduceIte, Nat.reduceBNe, Int.reducePow, Nat.reducePow, Int.reduceMul, Int.reduceNeg, isB_i, isB_b, isB_y, isBv_i, isBv_b, eqCells_t, TT]
          have uf : (G ++ [⟨true, 66, fU 7 12⟩])[G.length]? = some ⟨true, 66, fU 7 12⟩ := by rw [List.getElem?_append_right (Nat.le_refl _), Nat.sub_self]; rfl
          have E1 : EncS (G ++ [⟨true, 66, fU 7 12⟩]) ⟨true, 29, boC m (roO xs sp c0)⟩ (wB op (o ++ zp)) (AP m 5) N := EncS.app ⟨cc0, cc1, cc2, cbx, crow⟩ _
          generalize G ++ [(⟨true, 66, fU 7 12⟩ : SB)] = F at *
          generalize G.length = wf at *
          have hwf : 11 < wf := by omega
          obtain ⟨oF, mf⟩ : ∃ o, (maskL [wf] 0 F)[wf]? = some ⟨o, 66, fU 7 12⟩ := maskL_at uf
          have mo : ∀ k, k ≤ 11 → (maskL [wf] 0 F)[k]? = F[k]? := fun k hk => maskL_off (by simp; omega)
          have m0 := (mo 0 (by omega)).trans E1.c0
          have m2 := (mo 2 (by omega)).trans E1.c2
          have m3 := (mo 7 (by omega)).trans (E1.bx 4 _ rfl)
          have lm2 := lt_of m2
          have hok := kept_cons uf rfl kept_nil
          refine draw_of cx_ok (by kernel_rfl) 400 [wf] [(0, true), (1, true), (2, true), (3, true), (4, true), (5, true), (7, true), (8, true), (6, false), (9, false), (10, false)] (by kernel_rfl) (by first | exact hok | simp [*]) ?_
          simp (maxSteps := 4000000) only [Try.results12, mf, m0, m2, m3, maskL_nil, unL_nil, List.append_assoc, List.getElem?_append_left, List.getElem?_append_right, List.length_append, List.length_set, List.set_append_left, gset, List.getElem?_set_ne, Nat.add_sub_cancel_left, Nat.sub_self, Nat.le_refl, Nat.le_add_right, List.replicate_one, List.flatten_cons, List.flatten_nil, rep_flat, XX, Nat.reduceBEq, Nat.reduceLT, Nat.reduceAdd, Nat.reduceMul, Nat.reduceSub, Nat.reduceLeDiff, Nat.reduceEqDiff, Int.reduceToNat, Int.reduceLT, Int.reduceLE, Int.reduceAdd, Int.reduceSub, Int.reduceEq, reduceIte, Nat.reduceBNe, Int.reducePow, Nat.reducePow, Int.reduceMul, Int.reduceNeg, isB_i, isB_b, isB_y, isBv_i, isBv_b, eqCells_t, TT]
          refine ⟨by omega, ?_⟩
          refine call_is (address1_spec (maskL [wf] 0 F) 0 7 5 70 m.ci true _ m3 m0 rfl (by simp) (pF7_spec _ 0)) ?_
          rintro _ _ ⟨rfl, rfl⟩
          simp (maxSteps := 4000000) only [Try.results12, eci, List.append_assoc, List.getElem?_append_left, List.getElem?_append_right, List.length_append, List.length_set, List.set_append_left, gset, List.getElem?_set_ne, Nat.add_sub_cancel_left, Nat.sub_self, Nat.le_refl, Nat.le_add_right, List.replicate_one, List.flatten_cons, List.flatten_nil, rep_flat, XX, Nat.reduceBEq, Nat.reduceLT, Nat.reduceAdd, Nat.reduceMul, Nat.reduceSub, Nat.reduceLeDiff, Nat.reduceEqDiff, Int.reduceToNat, Int.reduceLT, Int.reduceLE, Int.reduceAdd, Int.reduceSub, Int.reduceEq, reduceIte, Nat.reduceBNe, Int.reducePow, Nat.reducePow, Int.reduceMul, Int.reduceNeg, isB_i, isB_b, isB_y, isBv_i, isBv_b, eqCells_t, TT]
          refine call_fz [.c (u64 (m.ci : Nat)), .c (i64 4)] (put4_spec m.ci (by omega)) (fun t h' h => by obtain ⟨rfl, rfl⟩ := h; exact ⟨rfl, by simp only [XX, Nat.reduceBEq, Nat.reduceLT, Nat.reduceAdd, Nat.reduceMul, Nat.reduceSub, Nat.reduceLeDiff, Nat.reduceEqDiff, Int.reduceToNat, Int.reduceLT, Int.reduceLE, Int.reduceAdd, Int.reduceSub, Int.reduceEq, reduceIte, Nat.reduceBNe, Int.reducePow, Nat.reducePow, Int.reduceMul, Int.reduceNeg, isB_i, isB_b, isB_y, isBv_i, isBv_b, eqCells_t, TT, ids_bsC, ren_bsC, noRo_bsC, plain_bsC, lt_bsC, ids_byte, ren_byte, noRo_byte, plain_byte, lt_byte]⟩) ⟨.inl ⟨rfl, rfl⟩, .inl ⟨rfl, rfl⟩, trivial⟩ ?_
          rintro _ _ ⟨rfl, rfl⟩
          obtain ⟨M, hM⟩ : ∃ M, M = be4 (m.ci) := ⟨_, rfl⟩
          have lM : M.length = 4 := by rw [hM]; rfl
          rw [← hM]
          have tM : (bsC M).take 4 = bsC M := by rw [bs_take, List.take_of_length_le (by omega)]
          have eMin : min 4 (N - 12) = 4 := by omega
          have ek : IntKind.i64.wrap 6 = 6 := by decide
          have lA : (AP m 5).length = 11 := AP_len5 m
          obtain ⟨A, hA⟩ : ∃ A, A = AP m 5 := ⟨_, rfl⟩
          rw [← hA] at m2 lA E1
          have hst := stepZ (A := A) (X := M) (N := N) (a := 12) (by omega) (by omega)
          simp (maxSteps := 4000000) only [Try.results12, ids_bsC, ren_bsC, noRo_bsC, plain_bsC, lt_bsC, ids_byte, ren_byte, noRo_byte, plain_byte, lt_byte, mf, m0, m2, m3, lm2, eMin, tM, ek, bsC_len, lM, Nat.reduceAdd, List.append_assoc, List.getElem?_append_left, List.getElem?_append_right, List.length_append, List.length_set, List.set_append_left, gset, List.getElem?_set_ne, Nat.add_sub_cancel_left, Nat.sub_self, Nat.le_refl, Nat.le_add_right, List.replicate_one, List.flatten_cons, List.flatten_nil, rep_flat, XX, Nat.reduceBEq, Nat.reduceLT, Nat.reduceAdd, Nat.reduceMul, Nat.reduceSub, Nat.reduceLeDiff, Nat.reduceEqDiff, Int.reduceToNat, Int.reduceLT, Int.reduceLE, Int.reduceAdd, Int.reduceSub, Int.reduceEq, reduceIte, Nat.reduceBNe, Int.reducePow, Nat.reducePow, Int.reduceMul, Int.reduceNeg, isB_i, isB_b, isB_y, isBv_i, isBv_b, eqCells_t, TT]
          have hA' : AP m 6 = A ++ List.replicate (12 - A.length) 0 ++ M := by
            rw [lA, hA, hM]
            cases h : m.all <;> simp [AP, flagB, h]
          refine ⟨by rw [List.length_replicate]; omega, 9 - 6, by omega, _, ⟨6, _, rfl, by omega, EncS.next E1 hwf (A' := AP m 6) ?_, rfl⟩, .inl ⟨rfl, rfl, rfl, rfl, rfl, rfl, rfl, rfl, trivial⟩⟩
          rw [hA', ← hst]
          simp only [bs_take, bs_drop, bs_app, List.append_assoc, lM, Nat.reduceAdd]
        · simp (maxSteps := 4000000) only [Try.results12, crow, lcr, set_end, List.append_assoc, List.getElem?_append_left, List.getElem?_append_right, List.length_append, List.length_set, List.set_append_left, gset, List.getElem?_set_ne, Nat.add_sub_cancel_left, Nat.sub_self, Nat.le_refl, Nat.le_add_right, List.replicate_one, List.flatten_cons, List.flatten_nil, rep_flat, Int.cast_ofNat_Int, XX, Nat.reduceBEq, Nat.reduceLT, Nat.reduceAdd, Nat.reduceMul, Nat.reduceSub, Nat.reduceLeDiff, Nat.reduceEqDiff, Int.reduceToNat, Int.reduceLT, Int.reduceLE, Int.reduceAdd, Int.reduceSub, Int.reduceEq, reduceIte, Nat.reduceBNe, Int.reducePow, Nat.reducePow, Int.reduceMul, Int.reduceNeg, isB_i, isB_b, isB_y, isBv_i, isBv_b, eqCells_t, TT]
          have uf : (G ++ [⟨true, 66, fU 8 16⟩])[G.length]? = some ⟨true, 66, fU 8 16⟩ := by rw [List.getElem?_append_right (Nat.le_refl _), Nat.sub_self]; rfl
          have E1 : EncS (G ++ [⟨true, 66, fU 8 16⟩]) ⟨true, 29, boC m (roO xs sp c0)⟩ (wB op (o ++ zp)) (AP m 6) N := EncS.app ⟨cc0, cc1, cc2, cbx, crow⟩ _
          generalize G ++ [(⟨true, 66, fU 8 16⟩ : SB)] = F at *
          generalize G.length = wf at *
          have hwf : 11 < wf := by omega
          obtain ⟨oF, mf⟩ : ∃ o, (maskL [wf] 0 F)[wf]? = some ⟨o, 66, fU 8 16⟩ := maskL_at uf
          have mo : ∀ k, k ≤ 11 → (maskL [wf] 0 F)[k]? = F[k]? := fun k hk => maskL_off (by simp; omega)
          have m0 := (mo 0 (by omega)).trans E1.c0
          have m2 := (mo 2 (by omega)).trans E1.c2
          have m3 := (mo 8 (by omega)).trans (E1.bx 5 _ rfl)
          have lm2 := lt_of m2
          have hok := kept_cons uf rfl kept_nil
          refine draw_of cx_ok (by kernel_rfl) 400 [wf] [(0, true), (1, true), (2, true), (3, true), (4, true), (5, true), (7, true), (8, true), (6, false), (9, false), (10, false)] (by kernel_rfl) (by first | exact hok | simp [*]) ?_
          simp (maxSteps := 4000000) only [Try.results12, mf, m0, m2, m3, maskL_nil, unL_nil, List.append_assoc, List.getElem?_append_left, List.getElem?_append_right, List.length_append, List.length_set, List.set_append_left, gset, List.getElem?_set_ne, Nat.add_sub_cancel_left, Nat.sub_self, Nat.le_refl, Nat.le_add_right, List.replicate_one, List.flatten_cons, List.flatten_nil, rep_flat, XX, Nat.reduceBEq, Nat.reduceLT, Nat.reduceAdd, Nat.reduceMul, Nat.reduceSub, Nat.reduceLeDiff, Nat.reduceEqDiff, Int.reduceToNat, Int.reduceLT, Int.reduceLE, Int.reduceAdd, Int.reduceSub, Int.reduceEq, reduceIte, Nat.reduceBNe, Int.reducePow, Nat.reducePow, Int.reduceMul, Int.reduceNeg, isB_i, isB_b, isB_y, isBv_i, isBv_b, eqCells_t, TT]
          refine ⟨by omega, ?_⟩
          refine call_is (address1_spec (maskL [wf] 0 F) 0 8 6 71 m.yi true _ m3 m0 rfl (by simp) (pF8_spec _ 0)) ?_
          rintro _ _ ⟨rfl, rfl⟩
          simp (maxSteps := 4000000) only [Try.results12, eyi, List.append_assoc, List.getElem?_append_left, List.getElem?_append_right, List.length_append, List.length_set, List.set_append_left, gset, List.getElem?_set_ne, Nat.add_sub_cancel_left, Nat.sub_self, Nat.le_refl, Nat.le_add_right, List.replicate_one, List.flatten_cons, List.flatten_nil, rep_flat, XX, Nat.reduceBEq, Nat.reduceLT, Nat.reduceAdd, Nat.reduceMul, Nat.reduceSub, Nat.reduceLeDiff, Nat.reduceEqDiff, Int.reduceToNat, Int.reduceLT, Int.reduceLE, Int.reduceAdd, Int.reduceSub, Int.reduceEq, reduceIte, Nat.reduceBNe, Int.reducePow, Nat.reducePow, Int.reduceMul, Int.reduceNeg, isB_i, isB_b, isB_y, isBv_i, isBv_b, eqCells_t, TT]
          refine call_fz [.c (u64 (m.yi : Nat)), .c (i64 4)] (put4_spec m.yi (by omega)) (fun t h' h => by obtain ⟨rfl, rfl⟩ := h; exact ⟨rfl, by simp only [XX, Nat.reduceBEq, Nat.reduceLT, Nat.reduceAdd, Nat.reduceMul, Nat.reduceSub, Nat.reduceLeDiff, Nat.reduceEqDiff, Int.reduceToNat, Int.reduceLT, Int.reduceLE, Int.reduceAdd, Int.reduceSub, Int.reduceEq, reduceIte, Nat.reduceBNe, Int.reducePow, Nat.reducePow, Int.reduceMul, Int.reduceNeg, isB_i, isB_b, isB_y, isBv_i, isBv_b, eqCells_t, TT, ids_bsC, ren_bsC, noRo_bsC, plain_bsC, lt_bsC, ids_byte, ren_byte, noRo_byte, plain_byte, lt_byte]⟩) ⟨.inl ⟨rfl, rfl⟩, .inl ⟨rfl, rfl⟩, trivial⟩ ?_
          rintro _ _ ⟨rfl, rfl⟩
          obtain ⟨M, hM⟩ : ∃ M, M = be4 (m.yi) := ⟨_, rfl⟩
          have lM : M.length = 4 := by rw [hM]; rfl
          rw [← hM]
          have tM : (bsC M).take 4 = bsC M := by rw [bs_take, List.take_of_length_le (by omega)]
          have eMin : min 4 (N - 16) = 4 := by omega
          have ek : IntKind.i64.wrap 7 = 7 := by decide
          have lA : (AP m 6).length = 16 := AP_len6 m
          obtain ⟨A, hA⟩ : ∃ A, A = AP m 6 := ⟨_, rfl⟩
          rw [← hA] at m2 lA E1
          have hst := stepZ (A := A) (X := M) (N := N) (a := 16) (by omega) (by omega)
          simp (maxSteps := 4000000) only [Try.results12, ids_bsC, ren_bsC, noRo_bsC, plain_bsC, lt_bsC, ids_byte, ren_byte, noRo_byte, plain_byte, lt_byte, mf, m0, m2, m3, lm2, eMin, tM, ek, bsC_len, lM, Nat.reduceAdd, List.append_assoc, List.getElem?_append_left, List.getElem?_append_right, List.length_append, List.length_set, List.set_append_left, gset, List.getElem?_set_ne, Nat.add_sub_cancel_left, Nat.sub_self, Nat.le_refl, Nat.le_add_right, List.replicate_one, List.flatten_cons, List.flatten_nil, rep_flat, XX, Nat.reduceBEq, Nat.reduceLT, Nat.reduceAdd, Nat.reduceMul, Nat.reduceSub, Nat.reduceLeDiff, Nat.reduceEqDiff, Int.reduceToNat, Int.reduceLT, Int.reduceLE, Int.reduceAdd, Int.reduceSub, Int.reduceEq, reduceIte, Nat.reduceBNe, Int.reducePow, Nat.reducePow, Int.reduceMul, Int.reduceNeg, isB_i, isB_b, isB_y, isBv_i, isBv_b, eqCells_t, TT]
          have hA' : AP m 7 = A ++ List.replicate (16 - A.length) 0 ++ M := by
            rw [lA, hA, hM]
            simp only [AP, Nat.sub_self, List.replicate_zero, List.append_nil]
          refine ⟨by rw [List.length_replicate]; omega, 9 - 7, by omega, _, ⟨7, _, rfl, by omega, EncS.next E1 hwf (A' := AP m 7) ?_, rfl⟩, .inl ⟨rfl, rfl, rfl, rfl, rfl, rfl, rfl, rfl, trivial⟩⟩
          rw [hA', ← hst]
          simp only [bs_take, bs_drop, bs_app, List.append_assoc, lM, Nat.reduceAdd]
        · simp (maxSteps := 4000000) only [Try.results12, crow, lcr, set_end, List.append_assoc, List.getElem?_append_left, List.getElem?_append_right, List.length_append, List.length_set, List.set_append_left, gset, List.getElem?_set_ne, Nat.add_sub_cancel_left, Nat.sub_self, Nat.le_refl, Nat.le_add_right, List.replicate_one, List.flatten_cons, List.flatten_nil, rep_flat, Int.cast_ofNat_Int, XX, Nat.reduceBEq, Nat.reduceLT, Nat.reduceAdd, Nat.reduceMul, Nat.reduceSub, Nat.reduceLeDiff, Nat.reduceEqDiff, Int.reduceToNat, Int.reduceLT, Int.reduceLE, Int.reduceAdd, Int.reduceSub, Int.reduceEq, reduceIte, Nat.reduceBNe, Int.reducePow, Nat.reducePow, Int.reduceMul, Int.reduceNeg, isB_i, isB_b, isB_y, isBv_i, isBv_b, eqCells_t, TT]
          have uf : (G ++ [⟨true, 66, fU 9 20⟩])[G.length]? = some ⟨true, 66, fU 9 20⟩ := by rw [List.getElem?_append_right (Nat.le_refl _), Nat.sub_self]; rfl
          have E1 : EncS (G ++ [⟨true, 66, fU 9 20⟩]) ⟨true, 29, boC m (roO xs sp c0)⟩ (wB op (o ++ zp)) (AP m 7) N := EncS.app ⟨cc0, cc1, cc2, cbx, crow⟩ _
          generalize G ++ [(⟨true, 66, fU 9 20⟩ : SB)] = F at *
          generalize G.length = wf at *
          have hwf : 11 < wf := by omega
          obtain ⟨oF, mf⟩ : ∃ o, (maskL [wf] 0 F)[wf]? = some ⟨o, 66, fU 9 20⟩ := maskL_at uf
          have mo : ∀ k, k ≤ 11 → (maskL [wf] 0 F)[k]? = F[k]? := fun k hk => maskL_off (by simp; omega)
          have m0 := (mo 0 (by omega)).trans E1.c0
          have m2 := (mo 2 (by omega)).trans E1.c2
          have m3 := (mo 9 (by omega)).trans (E1.bx 6 _ rfl)
          have lm2 := lt_of m2
          have hok := kept_cons uf rfl kept_nil
          refine draw_of cx_ok (by kernel_rfl) 400 [wf] [(0, true), (1, true), (2, true), (3, true), (4, true), (5, true), (7, true), (8, true), (6, false), (9, false), (10, false)] (by kernel_rfl) (by first | exact hok | simp [*]) ?_
          simp (maxSteps := 4000000) only [Try.results12, mf, m0, m2, m3, maskL_nil, unL_nil, List.append_assoc, List.getElem?_append_left, List.getElem?_append_right, List.length_append, List.length_set, List.set_append_left, gset, List.getElem?_set_ne, Nat.add_sub_cancel_left, Nat.sub_self, Nat.le_refl, Nat.le_add_right, List.replicate_one, List.flatten_cons, List.flatten_nil, rep_flat, XX, Nat.reduceBEq, Nat.reduceLT, Nat.reduceAdd, Nat.reduceMul, Nat.reduceSub, Nat.reduceLeDiff, Nat.reduceEqDiff, Int.reduceToNat, Int.reduceLT, Int.reduceLE, Int.reduceAdd, Int.reduceSub, Int.reduceEq, reduceIte, Nat.reduceBNe, Int.reducePow, Nat.reducePow, Int.reduceMul, Int.reduceNeg, isB_i, isB_b, isB_y, isBv_i, isBv_b, eqCells_t, TT]
          refine ⟨by omega, ?_⟩
          refine call_is (address1_spec (maskL [wf] 0 F) 0 9 7 72 m.si true _ m3 m0 rfl (by simp) (pF9_spec _ 0)) ?_
          rintro _ _ ⟨rfl, rfl⟩
          simp (maxSteps := 4000000) only [Try.results12, esi, List.append_assoc, List.getElem?_append_left, List.getElem?_append_right, List.length_append, List.length_set, List.set_append_left, gset, List.getElem?_set_ne, Nat.add_sub_cancel_left, Nat.sub_self, Nat.le_refl, Nat.le_add_right, List.replicate_one, List.flatten_cons, List.flatten_nil, rep_flat, XX, Nat.reduceBEq, Nat.reduceLT, Nat.reduceAdd, Nat.reduceMul, Nat.reduceSub, Nat.reduceLeDiff, Nat.reduceEqDiff, Int.reduceToNat, Int.reduceLT, Int.reduceLE, Int.reduceAdd, Int.reduceSub, Int.reduceEq, reduceIte, Nat.reduceBNe, Int.reducePow, Nat.reducePow, Int.reduceMul, Int.reduceNeg, isB_i, isB_b, isB_y, isBv_i, isBv_b, eqCells_t, TT]
          refine call_fz [.c (u64 (m.si : Nat)), .c (i64 4)] (put4_spec m.si (by omega)) (fun t h' h => by obtain ⟨rfl, rfl⟩ := h; exact ⟨rfl, by simp only [XX, Nat.reduceBEq, Nat.reduceLT, Nat.reduceAdd, Nat.reduceMul, Nat.reduceSub, Nat.reduceLeDiff, Nat.reduceEqDiff, Int.reduceToNat, Int.reduceLT, Int.reduceLE, Int.reduceAdd, Int.reduceSub, Int.reduceEq, reduceIte, Nat.reduceBNe, Int.reducePow, Nat.reducePow, Int.reduceMul, Int.reduceNeg, isB_i, isB_b, isB_y, isBv_i, isBv_b, eqCells_t, TT, ids_bsC, ren_bsC, noRo_bsC, plain_bsC, lt_bsC, ids_byte, ren_byte, noRo_byte, plain_byte, lt_byte]⟩) ⟨.inl ⟨rfl, rfl⟩, .inl ⟨rfl, rfl⟩, trivial⟩ ?_
          rintro _ _ ⟨rfl, rfl⟩
          obtain ⟨M, hM⟩ : ∃ M, M = be4 (m.si) := ⟨_, rfl⟩
          have lM : M.length = 4 := by rw [hM]; rfl
          rw [← hM]
          have tM : (bsC M).take 4 = bsC M := by rw [bs_take, List.take_of_length_le (by omega)]
          have eMin : min 4 (N - 20) = 4 := by omega
          have ek : IntKind.i64.wrap 8 = 8 := by decide
          have lA : (AP m 7).length = 20 := AP_len7 m
          obtain ⟨A, hA⟩ : ∃ A, A = AP m 7 := ⟨_, rfl⟩
          rw [← hA] at m2 lA E1
          have hst := stepZ (A := A) (X := M) (N := N) (a := 20) (by omega) (by omega)
          simp (maxSteps := 4000000) only [Try.results12, ids_bsC, ren_bsC, noRo_bsC, plain_bsC, lt_bsC, ids_byte, ren_byte, noRo_byte, plain_byte, lt_byte, mf, m0, m2, m3, lm2, eMin, tM, ek, bsC_len, lM, Nat.reduceAdd, List.append_assoc, List.getElem?_append_left, List.getElem?_append_right, List.length_append, List.length_set, List.set_append_left, gset, List.getElem?_set_ne, Nat.add_sub_cancel_left, Nat.sub_self, Nat.le_refl, Nat.le_add_right, List.replicate_one, List.flatten_cons, List.flatten_nil, rep_flat, XX, Nat.reduceBEq, Nat.reduceLT, Nat.reduceAdd, Nat.reduceMul, Nat.reduceSub, Nat.reduceLeDiff, Nat.reduceEqDiff, Int.reduceToNat, Int.reduceLT, Int.reduceLE, Int.reduceAdd, Int.reduceSub, Int.reduceEq, reduceIte, Nat.reduceBNe, Int.reducePow, Nat.reducePow, Int.reduceMul, Int.reduceNeg, isB_i, isB_b, isB_y, isBv_i, isBv_b, eqCells_t, TT]
          have hA' : AP m 8 = A ++ List.replicate (20 - A.length) 0 ++ M := by
            rw [lA, hA, hM]
            simp only [AP, Nat.sub_self, List.replicate_zero, List.append_nil]
          refine ⟨by rw [List.length_replicate]; omega, 9 - 8, by omega, _, ⟨8, _, rfl, by omega, EncS.next E1 hwf (A' := AP m 8) ?_, rfl⟩, .inl ⟨rfl, rfl, rfl, rfl, rfl, rfl, rfl, rfl, trivial⟩⟩
          rw [hA', ← hst]
          simp only [bs_take, bs_drop, bs_app, List.append_assoc, lM, Nat.reduceAdd]
        · simp (maxSteps := 4000000) only [Try.results12, crow, lcr, set_end, List.append_assoc, List.getElem?_append_left, List.getElem?_append_right, List.length_append, List.length_set, List.set_append_left, gset, List.getElem?_set_ne, Nat.add_sub_cancel_left, Nat.sub_self, Nat.le_refl, Nat.le_add_right, List.replicate_one, List.flatten_cons, List.flatten_nil, rep_flat, Int.cast_ofNat_Int, XX, Nat.reduceBEq, Nat.reduceLT, Nat.reduceAdd, Nat.reduceMul, Nat.reduceSub, Nat.reduceLeDiff, Nat.reduceEqDiff, Int.reduceToNat, Int.reduceLT, Int.reduceLE, Int.reduceAdd, Int.reduceSub, Int.reduceEq, reduceIte, Nat.reduceBNe, Int.reducePow, Nat.reducePow, Int.reduceMul, Int.reduceNeg, isB_i, isB_b, isB_y, isBv_i, isBv_b, eqCells_t, TT]
          have uf : (G ++ [⟨true, 66, fU 10 24⟩])[G.length]? = some ⟨true, 66, fU 10 24⟩ := by rw [List.getElem?_append_right (Nat.le_refl _), Nat.sub_self]; rfl
          have E1 : EncS (G ++ [⟨true, 66, fU 10 24⟩]) ⟨true, 29, boC m (roO xs sp c0)⟩ (wB op (o ++ zp)) (AP m 8) N := EncS.app ⟨cc0, cc1, cc2, cbx, crow⟩ _
          generalize G ++ [(⟨true, 66, fU 10 24⟩ : SB)] = F at *
          generalize G.length = wf at *
          have hwf : 11 < wf := by omega
          obtain ⟨oF, mf⟩ : ∃ o, (maskL [wf] 0 F)[wf]? = some ⟨o, 66, fU 10 24⟩ := maskL_at uf
          have mo : ∀ k, k ≤ 11 → (maskL [wf] 0 F)[k]? = F[k]? := fun k hk => maskL_off (by simp; omega)
          have m0 := (mo 0 (by omega)).trans E1.c0
          have m2 := (mo 2 (by omega)).trans E1.c2
          have m3 := (mo 10 (by omega)).trans (E1.bx 7 _ rfl)
          have lm2 := lt_of m2
          have hok := kept_cons uf rfl kept_nil
          refine draw_of cx_ok (by kernel_rfl) 400 [wf] [(0, true), (1, true), (2, true), (3, true), (4, true), (5, true), (7, true), (8, true), (6, false), (9, false), (10, false)] (by kernel_rfl) (by first | exact hok | simp [*]) ?_
          simp (maxSteps := 4000000) only [Try.results12, mf, m0, m2, m3, maskL_nil, unL_nil, List.append_assoc, List.getElem?_append_left, List.getElem?_append_right, List.length_append, List.length_set, List.set_append_left, gset, List.getElem?_set_ne, Nat.add_sub_cancel_left, Nat.sub_self, Nat.le_refl, Nat.le_add_right, List.replicate_one, List.flatten_cons, List.flatten_nil, rep_flat, XX, Nat.reduceBEq, Nat.reduceLT, Nat.reduceAdd, Nat.reduceMul, Nat.reduceSub, Nat.reduceLeDiff, Nat.reduceEqDiff, Int.reduceToNat, Int.reduceLT, Int.reduceLE, Int.reduceAdd, Int.reduceSub, Int.reduceEq, reduceIte, Nat.reduceBNe, Int.reducePow, Nat.reducePow, Int.reduceMul, Int.reduceNeg, isB_i, isB_b, isB_y, isBv_i, isBv_b, eqCells_t, TT]
          refine ⟨by omega, ?_⟩
          refine call_is (address1_spec (maskL [wf] 0 F) 0 10 8 73 m.gi true _ m3 m0 rfl (by simp) (pF10_spec _ 0)) ?_
          rintro _ _ ⟨rfl, rfl⟩
          simp (maxSteps := 4000000) only [Try.results12, egi, List.append_assoc, List.getElem?_append_left, List.getElem?_append_right, List.length_append, List.length_set, List.set_append_left, gset, List.getElem?_set_ne, Nat.add_sub_cancel_left, Nat.sub_self, Nat.le_refl, Nat.le_add_right, List.replicate_one, List.flatten_cons, List.flatten_nil, rep_flat, XX, Nat.reduceBEq, Nat.reduceLT, Nat.reduceAdd, Nat.reduceMul, Nat.reduceSub, Nat.reduceLeDiff, Nat.reduceEqDiff, Int.reduceToNat, Int.reduceLT, Int.reduceLE, Int.reduceAdd, Int.reduceSub, Int.reduceEq, reduceIte, Nat.reduceBNe, Int.reducePow, Nat.reducePow, Int.reduceMul, Int.reduceNeg, isB_i, isB_b, isB_y, isBv_i, isBv_b, eqCells_t, TT]
          refine call_fz [.c (u64 (m.gi : Nat)), .c (i64 4)] (put4_spec m.gi (by omega)) (fun t h' h => by obtain ⟨rfl, rfl⟩ := h; exact ⟨rfl, by simp only [XX, Nat.reduceBEq, Nat.reduceLT, Nat.reduceAdd, Nat.reduceMul, Nat.reduceSub, Nat.reduceLeDiff, Nat.reduceEqDiff, Int.reduceToNat, Int.reduceLT, Int.reduceLE, Int.reduceAdd, Int.reduceSub, Int.reduceEq, reduceIte, Nat.reduceBNe, Int.reducePow, Nat.reducePow, Int.reduceMul, Int.reduceNeg, isB_i, isB_b, isB_y, isBv_i, isBv_b, eqCells_t, TT, ids_bsC, ren_bsC, noRo_bsC, plain_bsC, lt_bsC, ids_byte, ren_byte, noRo_byte, plain_byte, lt_byte]⟩) ⟨.inl ⟨rfl, rfl⟩, .inl ⟨rfl, rfl⟩, trivial⟩ ?_
          rintro _ _ ⟨rfl, rfl⟩
          obtain ⟨M, hM⟩ : ∃ M, M = be4 (m.gi) := ⟨_, rfl⟩
          have lM : M.length = 4 := by rw [hM]; rfl
          rw [← hM]
          have tM : (bsC M).take 4 = bsC M := by rw [bs_take, List.take_of_length_le (by omega)]
          have eMin : min 4 (N - 24) = 4 := by omega
          have ek : IntKind.i64.wrap 9 = 9 := by decide
          have lA : (AP m 8).length = 24 := AP_len8 m
          obtain ⟨A, hA⟩ : ∃ A, A = AP m 8 := ⟨_, rfl⟩
          rw [← hA] at m2 lA E1
          have hst := stepZ (A := A) (X := M) (N := N) (a := 24) (by omega) (by omega)
          simp (maxSteps := 4000000) only [Try.results12, ids_bsC, ren_bsC, noRo_bsC, plain_bsC, lt_bsC, ids_byte, ren_byte, noRo_byte, plain_byte, lt_byte, mf, m0, m2, m3, lm2, eMin, tM, ek, bsC_len, lM, Nat.reduceAdd, List.append_assoc, List.getElem?_append_left, List.getElem?_append_right, List.length_append, List.length_set, List.set_append_left, gset, List.getElem?_set_ne, Nat.add_sub_cancel_left, Nat.sub_self, Nat.le_refl, Nat.le_add_right, List.replicate_one, List.flatten_cons, List.flatten_nil, rep_flat, XX, Nat.reduceBEq, Nat.reduceLT, Nat.reduceAdd, Nat.reduceMul, Nat.reduceSub, Nat.reduceLeDiff, Nat.reduceEqDiff, Int.reduceToNat, Int.reduceLT, Int.reduceLE, Int.reduceAdd, Int.reduceSub, Int.reduceEq, reduceIte, Nat.reduceBNe, Int.reducePow, Nat.reducePow, Int.reduceMul, Int.reduceNeg, isB_i, isB_b, isB_y, isBv_i, isBv_b, eqCells_t, TT]
          have hA' : AP m 9 = A ++ List.replicate (24 - A.length) 0 ++ M := by
            rw [lA, hA, hM]
            simp only [AP, Nat.sub_self, List.replicate_zero, List.append_nil]
          refine ⟨by rw [List.length_replicate]; omega, 9 - 9, by omega, _, ⟨9, _, rfl, by omega, EncS.next E1 hwf (A' := AP m 9) ?_, rfl⟩, .inl ⟨rfl, rfl, rfl, rfl, rfl, rfl, rfl, rfl, trivial⟩⟩
          rw [hA', ← hst]
          simp only [bs_take, bs_drop, bs_app, List.append_assoc, lM, Nat.reduceAdd]
      obtain rfl : i = 9 := by omega
      obtain ⟨A9, hA9⟩ : ∃ A, A = AP m 9 := ⟨_, rfl⟩
      have l9 : A9.length = 28 := by rw [hA9]; exact AP_len9 m
      rw [← hA9] at E
      have d0 := E.c0
      have d2 := E.c2
      have ld0 := lt_of d0
      have ld2 := lt_of d2
      simp (maxSteps := 4000000) only [Try.results12, Int.cast_ofNat_Int, d0, d2, ld0, ld2, XX, Nat.reduceBEq, Nat.reduceLT, Nat.reduceAdd, Nat.reduceMul, Nat.reduceSub, Nat.reduceLeDiff, Nat.reduceEqDiff, Int.reduceToNat, Int.reduceLT, Int.reduceLE, Int.reduceAdd, Int.reduceSub, Int.reduceEq, reduceIte, Nat.reduceBNe, Int.reducePow, Nat.reducePow, Int.reduceMul, Int.reduceNeg, isB_i, isB_b, isB_y, isBv_i, isBv_b, eqCells_t, TT]
      obtain ⟨M9, hM9⟩ : ∃ M, M = m.mac.l := ⟨_, rfl⟩
      have lM9 : M9.length = 6 := by rw [hM9]; rfl
      have t9 : List.take 6 [byteC m.mac.a, byteC m.mac.b, byteC m.mac.c, byteC m.mac.d, byteC m.mac.e, byteC m.mac.f] = bsC M9 := by rw [hM9]; rfl
      have m9 : min 6 (N - 28) = 6 := by omega
      refine draw_of cx_ok (by kernel_rfl) 400 [] [(0, true), (1, true), (2, true), (3, true), (4, false)] (by kernel_rfl) (by first | exact hok | simp [*]) ?_
      simp (maxSteps := 4000000) only [Try.results12, d0, d2, ld0, ld2, m9, t9, bsC_len, lM9, Nat.reduceAdd, maskL_nil, unL_nil, List.append_assoc, List.getElem?_append_left, List.getElem?_append_right, List.length_append, List.length_set, List.set_append_left, gset, List.getElem?_set_ne, Nat.add_sub_cancel_left, Nat.sub_self, Nat.le_refl, Nat.le_add_right, List.replicate_one, List.flatten_cons, List.flatten_nil, rep_flat, XX, Nat.reduceBEq, Nat.reduceLT, Nat.reduceAdd, Nat.reduceMul, Nat.reduceSub, Nat.reduceLeDiff, Nat.reduceEqDiff, Int.reduceToNat, Int.reduceLT, Int.reduceLE, Int.reduceAdd, Int.reduceSub, Int.reduceEq, reduceIte, Nat.reduceBNe, Int.reducePow, Nat.reducePow, Int.reduceMul, Int.reduceNeg, isB_i, isB_b, isB_y, isBv_i, isBv_b, eqCells_t, TT]
      refine ⟨by omega, by rw [List.length_replicate]; omega, ?_⟩
      have hst9 := stepZ (A := A9) (X := M9) (N := N) (a := 28) (by omega) (by omega)
      obtain ⟨A10, hA10⟩ : ∃ A, A = A9 ++ List.replicate (28 - A9.length) 0 ++ M9 := ⟨_, rfl⟩
      have l10 : A10.length = 34 := by rw [hA10]; simp only [List.length_append, List.length_replicate]; omega
      rw [← hA10] at hst9
      have E10 : EncS (G.set 2 ⟨true, 5, List.take 28 (bsC (A9 ++ List.replicate (N - A9.length) 0)) ++ (bsC M9 ++ List.drop 34 (bsC (A9 ++ List.replicate (N - A9.length) 0)))⟩) _ _ A10 N := E.set (A' := A10) (by rw [← hst9]; simp only [bs_take, bs_drop, bs_app, List.append_assoc, lM9, Nat.reduceAdd])
      generalize G.set 2 ⟨true, 5, List.take 28 (bsC (A9 ++ List.replicate (N - A9.length) 0)) ++ (bsC M9 ++ List.drop 34 (bsC (A9 ++ List.replicate (N - A9.length) 0)))⟩ = G10 at *
      clear E d0 d2 ld0 ld2 hst9
      have d0 := E10.c0
      have d2 := E10.c2
      have ld0 := lt_of d0
      have ld2 := lt_of d2
      have m10 : min m.sname.length (N - 44) = m.sname.length := by omega
      have m11 : min m.file.length (N - 108) = m.file.length := by omega
      refine draw_of cx_ok (by kernel_rfl) 400 [] [(0, true), (1, true), (2, true), (3, false), (4, false)] (by kernel_rfl) (by first | exact hok | simp [*]) ?_
      simp (maxSteps := 4000000) only [Try.results12, d0, d2, ld0, ld2, m10, str_size, bsC_len, List.take_length, maskL_nil, unL_nil, List.append_assoc, List.getElem?_append_left, List.getElem?_append_right, List.length_append, List.length_set, List.set_append_left, gset, List.getElem?_set_ne, Nat.add_sub_cancel_left, Nat.sub_self, Nat.le_refl, Nat.le_add_right, List.replicate_one, List.flatten_cons, List.flatten_nil, rep_flat, XX, Nat.reduceBEq, Nat.reduceLT, Nat.reduceAdd, Nat.reduceMul, Nat.reduceSub, Nat.reduceLeDiff, Nat.reduceEqDiff, Int.reduceToNat, Int.reduceLT, Int.reduceLE, Int.reduceAdd, Int.reduceSub, Int.reduceEq, reduceIte, Nat.reduceBNe, Int.reducePow, Nat.reducePow, Int.reduceMul, Int.reduceNeg, isB_i, isB_b, isB_y, isBv_i, isBv_b, eqCells_t, TT]
      refine ⟨by omega, by rw [List.length_replicate]; omega, ?_⟩
      have hst10 := stepZ (A := A10) (X := m.sname) (N := N) (a := 44) (by omega) (by first | omega | (simp only [List.length_cons, List.length_nil]; omega))
      obtain ⟨A11, hA11⟩ : ∃ A, A = A10 ++ List.replicate (44 - A10.length) 0 ++ m.sname := ⟨_, rfl⟩
      have l11 : A11.length = 44 + m.sname.length := by rw [hA11]; simp only [List.length_append, List.length_replicate, List.length_cons, List.length_nil]; omega
      rw [← hA11] at hst10
      have E11 : EncS (G10.set 2 ⟨true, 5, List.take 44 (bsC (A10 ++ List.replicate (N - A10.length) 0)) ++ (List.map byteC m.sname ++ List.drop (44 + m.sname.length) (bsC (A10 ++ List.replicate (N - A10.length) 0)))⟩) _ _ A11 N := E10.set (A' := A11) (by rw [← hst10]; simp only [bs_take, bs_drop, bs_app, List.append_assoc])
      generalize G10.set 2 ⟨true, 5, List.take 44 (bsC (A10 ++ List.replicate (N - A10.length) 0)) ++ (List.map byteC m.sname ++ List.drop (44 + m.sname.length) (bsC (A10 ++ List.replicate (N - A10.length) 0)))⟩ = G11 at *
      clear E10 d0 d2 ld0 ld2 hst10
      have d0 := E11.c0
      have d2 := E11.c2
      have ld0 := lt_of d0
      have ld2 := lt_of d2
      have hst11 := stepZ (A := A11) (X := m.file) (N := N) (a := 108) (by omega) (by first | omega | (simp only [List.length_cons, List.length_nil]; omega))
      obtain ⟨A12, hA12⟩ : ∃ A, A = A11 ++ List.replicate (108 - A11.length) 0 ++ m.file := ⟨_, rfl⟩
      have l12 : A12.length = 108 + m.file.length := by rw [hA12]; simp only [List.length_append, List.length_replicate, List.length_cons, List.length_nil]; omega
      rw [← hA12] at hst11
      have hc1 : List.take 108 (bsC (A11 ++ List.replicate (N - A11.length) 0)) ++ (List.map byteC m.file ++ List.drop (108 + m.file.length) (bsC (A11 ++ List.replicate (N - A11.length) 0))) = (bsC (A12 ++ List.replicate (N - A12.length) 0)) := by rw [← hst11]; simp only [bs_take, bs_drop, bs_app, List.append_assoc]
      have hst12 := stepZ (A := A12) (X := [99, 130, 83, 99]) (N := N) (a := 236) (by omega) (by first | omega | (simp only [List.length_cons, List.length_nil]; omega))
      obtain ⟨A13, hA13⟩ : ∃ A, A = A12 ++ List.replicate (236 - A12.length) 0 ++ [99, 130, 83, 99] := ⟨_, rfl⟩
      have l13 : A13.length = 240 := by rw [hA13]; simp only [List.length_append, List.length_replicate, List.length_cons, List.length_nil]; omega
      rw [← hA13] at hst12
      have hc2 : List.take 236 (bsC (A12 ++ List.replicate (N - A12.length) 0)) ++ byteC 99 :: byteC 130 :: byteC 83 :: byteC 99 :: List.drop 240 (bsC (A12 ++ List.replicate (N - A12.length) 0)) = (bsC (A13 ++ List.replicate (N - A13.length) 0)) := by
        rw [← hst12]
        simp only [← bs_app, ← bs_take, ← bs_drop, List.append_assoc, List.length_cons, List.length_nil, Nat.reduceAdd]
        rfl
      have hst13 := stepZ (A := A13) (X := o) (N := N) (a := 240) (by omega) (by first | omega | (simp only [List.length_cons, List.length_nil]; omega))
      obtain ⟨A14, hA14⟩ : ∃ A, A = A13 ++ List.replicate (240 - A13.length) 0 ++ o := ⟨_, rfl⟩
      have l14 : A14.length = 240 + o.length := by rw [hA14]; simp only [List.length_append, List.length_replicate, List.length_cons, List.length_nil]; omega
      rw [← hA14] at hst13
      have hc3 : List.take 240 (bsC (A13 ++ List.replicate (N - A13.length) 0)) ++ (bsC o ++ List.drop (240 + o.length) (bsC (A13 ++ List.replicate (N - A13.length) 0))) = (bsC (A14 ++ List.replicate (N - A14.length) 0)) := by rw [← hst13]; simp only [bs_take, bs_drop, bs_app, List.append_assoc]
      have m12 : min 4 (N - 236) = 4 := by omega
      have m13 : min o.length (N - 240) = o.length := by omega
      have d1 := E11.c1
      have ld1 := lt_of d1
      have tO : (bsC (o ++ zp)).take o.length = bsC o := by rw [bs_take, List.take_left' rfl]
      refine draw_of cx_ok (by kernel_rfl) 400 [] [(0, true), (1, true), (2, true), (3, false), (4, false)] (by kernel_rfl) (by first | exact hok | simp [*]) ?_
      simp (maxSteps := 4000000) only [Try.results12, d0, d1, d2, ld0, ld1, ld2, m11, m12, m13, tO, str_size, bsC_len, List.take_length, maskL_nil, unL_nil, List.append_assoc, List.getElem?_append_left, List.getElem?_append_right, List.length_append, List.length_set, List.set_append_left, gset, List.getElem?_set_ne, Nat.add_sub_cancel_left, Nat.sub_self, Nat.le_refl, Nat.le_add_right, List.replicate_one, List.flatten_cons, List.flatten_nil, rep_flat, XX, Nat.reduceBEq, Nat.reduceLT, Nat.reduceAdd, Nat.reduceMul, Nat.reduceSub, Nat.reduceLeDiff, Nat.reduceEqDiff, Int.reduceToNat, Int.reduceLT, Int.reduceLE, Int.reduceAdd, Int.reduceSub, Int.reduceEq, reduceIte, Nat.reduceBNe, Int.reducePow, Nat.reducePow, Int.reduceMul, Int.reduceNeg, isB_i, isB_b, isB_y, isBv_i, isBv_b, eqCells_t, TT]
      have tO2 : (bsC o).take o.length = bsC o := by rw [bs_take, List.take_length]
      simp only [hc1, hc2, tO2, bsC_len, hc3]
      have henc : encB m o = A14 ++ List.replicate (N - A14.length) 0 := by
        rw [l14, show N - (240 + o.length) = 60 - o.length by omega, hA14, l13, hA13, l12, hA12, l11, hA11, l10, hA10, l9, hA9, hM9, show 236 - (108 + m.file.length) = 128 - m.file.length by omega, show 108 - (44 + m.sname.length) = 64 - m.sname.length by omega]
        simp only [encB, AP, List.append_assoc, Nat.sub_self, List.replicate_zero, List.nil_append, List.append_nil]
      have hel : (encB m o).length = N := by rw [henc, List.length_append, List.length_replicate]; omega
      refine ⟨by omega, by rw [List.length_replicate]; omega, by omega, ?_, by omega, ?_, 2, [], true, by rw [slB, hel]; rfl, ⟨?_, fun _ => rfl⟩⟩
      · simp only [List.length_take, List.length_drop, bsC_len, List.length_append, List.length_replicate]; omega
      · simp only [List.length_take, List.length_drop, bsC_len, List.length_append, List.length_replicate]; omega
      · rw [List.set_set, List.set_set, List.getElem?_set_self ld2, List.append_nil, henc]
    · have he : encF m xs = ([], (packF xs 1232).2) := by unfold encF; rw [if_pos h0, if_neg h1]
      rw [he]
      rw [h0] at r1
      generalize (packF xs 1232).2 = e at *
      generalize (packF xs 1232).1 = o at *
      have de : decide (e = 0) = false := by simpa using h1
      refine resB_nil ?_
      refine spec_of_X cx_ok Try.func12 rfl (by kernel_rfl) (by kernel_rfl) (Nat.le_of_ble_eq_true rfl) 400 36 ?_
      simp (maxSteps := 4000000) only [Try.results12, XX, Nat.reduceBEq, Nat.reduceLT, Nat.reduceAdd, Nat.reduceMul, Nat.reduceSub, Nat.reduceLeDiff, Nat.reduceEqDiff, Int.reduceToNat, Int.reduceLT, Int.reduceLE, Int.reduceAdd, Int.reduceSub, Int.reduceEq, reduceIte, Nat.reduceBNe, Int.reducePow, Nat.reducePow, Int.reduceMul, Int.reduceNeg, isB_i, isB_b, isB_y, isBv_i, isBv_b, eqCells_t, TT]
      refine call_pureF [.agg (boC m (roO xs sp c0))] r1 ⟨.inl ⟨rfl, rfl⟩, trivial⟩ ?_
      rintro _ rfl
      simp (maxSteps := 4000000) only [Try.results12, XX, Nat.reduceBEq, Nat.reduceLT, Nat.reduceAdd, Nat.reduceMul, Nat.reduceSub, Nat.reduceLeDiff, Nat.reduceEqDiff, Int.reduceToNat, Int.reduceLT, Int.reduceLE, Int.reduceAdd, Int.reduceSub, Int.reduceEq, reduceIte, Nat.reduceBNe, Int.reducePow, Nat.reducePow, Int.reduceMul, Int.reduceNeg, isB_i, isB_b, isB_y, isBv_i, isBv_b, eqCells_t, TT]
      refine call_fz [.c (roO xs sp c0), .c (i64 1232)] r2 (fun t h' h => resB_noRo h) ⟨.inl ⟨rfl, rfl⟩, .inl ⟨rfl, rfl⟩, trivial⟩ ?_
      rintro _ _ ⟨z0, o0, rfl, rfl, ho0⟩
      simp (maxSteps := 4000000) only [Try.results12, ids_bsC, ren_bsC, noRo_bsC, plain_bsC, lt_bsC, ids_byte, ren_byte, noRo_byte, plain_byte, lt_byte, de, XX, Nat.reduceBEq, Nat.reduceLT, Nat.reduceAdd, Nat.reduceMul, Nat.reduceSub, Nat.reduceLeDiff, Nat.reduceEqDiff, Int.reduceToNat, Int.reduceLT, Int.reduceLE, Int.reduceAdd, Int.reduceSub, Int.reduceEq, reduceIte, Nat.reduceBNe, Int.reducePow, Nat.reducePow, Int.reduceMul, Int.reduceNeg, isB_i, isB_b, isB_y, isBv_i, isBv_b, eqCells_t, TT]
  · have he : encF m xs = ([], refF m xs) := by unfold encF; rw [if_neg h0]
    rw [he]
    generalize refF m xs = e at *
    have de : decide (e = 0) = false := by simpa using h0
    refine resB_nil ?_
    refine spec_of_X cx_ok Try.func12 rfl (by kernel_rfl) (by kernel_rfl) (Nat.le_of_ble_eq_true rfl) 400 36 ?_
    simp (maxSteps := 4000000) only [Try.results12, XX, Nat.reduceBEq, Nat.reduceLT, Nat.reduceAdd, Nat.reduceMul, Nat.reduceSub, Nat.reduceLeDiff, Nat.reduceEqDiff, Int.reduceToNat, Int.reduceLT, Int.reduceLE, Int.reduceAdd, Int.reduceSub, Int.reduceEq, reduceIte, Nat.reduceBNe, Int.reducePow, Nat.reducePow, Int.reduceMul, Int.reduceNeg, isB_i, isB_b, isB_y, isBv_i, isBv_b, eqCells_t, TT]
    refine call_pureF [.agg (boC m (roO xs sp c0))] r1 ⟨.inl ⟨rfl, rfl⟩, trivial⟩ ?_
    rintro _ rfl
    simp (maxSteps := 4000000) only [Try.results12, de, XX, Nat.reduceBEq, Nat.reduceLT, Nat.reduceAdd, Nat.reduceMul, Nat.reduceSub, Nat.reduceLeDiff, Nat.reduceEqDiff, Int.reduceToNat, Int.reduceLT, Int.reduceLE, Int.reduceAdd, Int.reduceSub, Int.reduceEq, reduceIte, Nat.reduceBNe, Int.reducePow, Nat.reducePow, Int.reduceMul, Int.reduceNeg, isB_i, isB_b, isB_y, isBv_i, isBv_b, eqCells_t, TT]
theorem encode_spec (m : BM) (hm : m.ok) (xs sp : List OI) (c0 : Nat) (hok : ∀ x ∈ xs, x.ok) (hn : xs.length ≤ 4398046511104) (hT : totO xs ≤ 8589934592) : Spec cx.P 12 [.agg (boC m (roO xs sp c0))] [] (resB (encF m xs).1 (encF m xs).2) := encode_big m hm xs sp c0 hok hn (by omega)
end Go.Proofs.Ytgegddefcgfhgaa.Sx
namespace Go.Proofs.Ytgegddefcgfhgaa.Sx
open Go
set_option linter.unusedSimpArgs false
set_option linter.unusedVariables false
set_option maxRecDepth 10000
set_option maxHeartbeats 2000000
theorem get1_spec (l sp : List UInt8) (c at' : Nat) (hb : at' + 1 ≤ l.length) (hc : l.length ≤ c) (hl : l.length ≤ 140737488355328) : Spec cx.P 33 [.c (roB l sp c), .c (i64 at'), .c (i64 1)] [] fun s h' => s = .tup [(false, [u64 ((l.getD at' 0).toNat : Nat)]), (false, [.v (.int .i64 0)])] ∧ h' = [] := by
  have d0 : decide ((at' : Int) < 0) = false := by simp only [decide_eq_false_iff_not]; omega
  have d1 : decide (((l.length : Nat) : Int) < (at' : Int)) = false := by simp only [decide_eq_false_iff_not]; omega
  have d2 : decide ((((l.length - at' : Nat)) : Int) < 1) = false := by simp only [decide_eq_false_iff_not]; omega
  have e1 : IntKind.i64.wrap ((l.length : Int) - (at' : Int)) = ((l.length - at' : Nat) : Int) := by rw [w64] <;> omega
  have e2 : IntKind.i64.wrap ((at' : Int) + 1) = ((at' + 1 : Nat) : Int) := by rw [w64] <;> omega
  have e3 : at' + 1 - at' = 1 := by omega
  refine spec_of_X cx_ok Try.func33 rfl (by kernel_rfl) (by kernel_rfl) (Nat.le_of_ble_eq_true rfl) 400 43 ?_
  simp (maxSteps := 4000000) only [Try.results33, XX, Nat.reduceBEq, Nat.reduceLT, Nat.reduceAdd, Nat.reduceMul, Nat.reduceSub, Nat.reduceLeDiff, Nat.reduceEqDiff, Int.reduceToNat, Int.reduceLT, Int.reduceLE, Int.reduceAdd, Int.reduceSub, Int.reduceEq, reduceIte, Nat.reduceBNe, Int.reducePow, Nat.reducePow, Int.reduceMul, Int.reduceNeg, isB_i, isB_b, isB_y, isBv_i, isBv_b, eqCells_t, TT]
  simp (maxSteps := 4000000) only [Try.results33, d0, d1, d2, e1, e2, e3, XX, Nat.reduceBEq, Nat.reduceLT, Nat.reduceAdd, Nat.reduceMul, Nat.reduceSub, Nat.reduceLeDiff, Nat.reduceEqDiff, Int.reduceToNat, Int.reduceLT, Int.reduceLE, Int.reduceAdd, Int.reduceSub, Int.reduceEq, reduceIte, Nat.reduceBNe, Int.reducePow, Nat.reducePow, Int.reduceMul, Int.reduceNeg, isB_i, isB_b, isB_y, isBv_i, isBv_b, eqCells_t, TT]
  refine ⟨by omega, loop_rounds cx_ok 400 2 ?_⟩
  obtain ⟨R, hR⟩ := drop1 (sp := sp) hb
  simp (maxSteps := 4000000) only [Try.results33, w64, Int.reduceToNat, hR, XX, Nat.reduceBEq, Nat.reduceLT, Nat.reduceAdd, Nat.reduceMul, Nat.reduceSub, Nat.reduceLeDiff, Nat.reduceEqDiff, Int.reduceToNat, Int.reduceLT, Int.reduceLE, Int.reduceAdd, Int.reduceSub, Int.reduceEq, reduceIte, Nat.reduceBNe, Int.reducePow, Nat.reducePow, Int.reduceMul, Int.reduceNeg, isB_i, isB_b, isB_y, isBv_i, isBv_b, eqCells_t, TT]
  have q0 := (l.getD at' 0).toNat_lt
  have z := or_next (a := 0) (b := (l.getD at' 0).toNat) (by omega) (by omega)
  rw [Int.natCast_zero] at z
  rw [z]
  exact ⟨by omega, by rw [Nat.zero_mul, Nat.zero_add]⟩
abbrev get2 (l : List UInt8) (k : Nat) : Nat := (l.getD k 0).toNat * 256 + (l.getD (k + 1) 0).toNat
theorem small2_spec (H : List SB) (im ibx ofs g : Nat) (n : Int) (ob : Bool) (ty : TypeId) (C : List SC) (hbx : H[ibx]? = some ⟨ob, 94, [.fn g []]⟩) (hm : H[im]? = some ⟨true, ty, C⟩) (hl : ofs < C.length)
    (hg : Spec cx.P g [.c (.ptr im 0)] H fun s h' => s = .c (.ptr im ofs) ∧ h' = H) : Spec cx.P 85 [.c (.ptr im 0), .c (.v (.int .u64 n)), .c (.ptr ibx 0)] H fun s h' => s = .tup [] ∧ h' = H.set im ⟨true, ty, C.take ofs ++ (.v (.int .i64 (IntKind.i64.wrap n)) :: C.drop (ofs + 1))⟩ := by
  have lm := lt_of hm
  have lx := lt_of hbx
  refine spec_of_X cx_ok Try.func85 rfl (by kernel_rfl) (by kernel_rfl) (Nat.le_of_ble_eq_true rfl) 400 3 ?_
  simp (maxSteps := 4000000) only [Try.results85, XX, Nat.reduceBEq, Nat.reduceLT, Nat.reduceAdd, Nat.reduceMul, Nat.reduceSub, Nat.reduceLeDiff, Nat.reduceEqDiff, Int.reduceToNat, Int.reduceLT, Int.reduceLE, Int.reduceAdd, Int.reduceSub, Int.reduceEq, reduceIte, Nat.reduceBNe, Int.reducePow, Nat.reducePow, Int.reduceMul, Int.reduceNeg, isB_i, isB_b, isB_y, isBv_i, isBv_b, eqCells_t, TT]
  simp (maxSteps := 4000000) only [Try.results85, hbx, lx, XX, Nat.reduceBEq, Nat.reduceLT, Nat.reduceAdd, Nat.reduceMul, Nat.reduceSub, Nat.reduceLeDiff, Nat.reduceEqDiff, Int.reduceToNat, Int.reduceLT, Int.reduceLE, Int.reduceAdd, Int.reduceSub, Int.reduceEq, reduceIte, Nat.reduceBNe, Int.reducePow, Nat.reducePow, Int.reduceMul, Int.reduceNeg, isB_i, isB_b, isB_y, isBv_i, isBv_b, eqCells_t, TT]
  refine call_is hg ?_
  rintro _ _ ⟨rfl, rfl⟩
  simp (maxSteps := 4000000) only [Try.results85, hm, lm, XX, Nat.reduceBEq, Nat.reduceLT, Nat.reduceAdd, Nat.reduceMul, Nat.reduceSub, Nat.reduceLeDiff, Nat.reduceEqDiff, Int.reduceToNat, Int.reduceLT, Int.reduceLE, Int.reduceAdd, Int.reduceSub, Int.reduceEq, reduceIte, Nat.reduceBNe, Int.reducePow, Nat.reducePow, Int.reduceMul, Int.reduceNeg, isB_i, isB_b, isB_y, isBv_i, isBv_b, eqCells_t, TT]
  exact ⟨hl, by rw [List.append_assoc]; rfl⟩
theorem address2_spec (H : List SB) (im ibx ofs g : Nat) (n : Int) (ob : Bool) (ty : TypeId) (C : List SC) (hbx : H[ibx]? = some ⟨ob, 97, [.fn g []]⟩) (hm : H[im]? = some ⟨true, ty, C⟩) (hl : ofs < C.length)
    (hg : Spec cx.P g [.c (.ptr im 0)] H fun s h' => s = .c (.ptr im ofs) ∧ h' = H) : Spec cx.P 87 [.c (.ptr im 0), .c (.v (.int .u64 n)), .c (.ptr ibx 0)] H fun s h' => s = .tup [] ∧ h' = H.set im ⟨true, ty, C.take ofs ++ (.v (.int .u32 (IntKind.u32.wrap n)) :: C.drop (ofs + 1))⟩ := by
  have lm := lt_of hm
  have lx := lt_of hbx
  refine spec_of_X cx_ok Try.func87 rfl (by kernel_rfl) (by kernel_rfl) (Nat.le_of_ble_eq_true rfl) 400 3 ?_
  simp (maxSteps := 4000000) only [Try.results87, XX, Nat.reduceBEq, Nat.reduceLT, Nat.reduceAdd, Nat.reduceMul, Nat.reduceSub, Nat.reduceLeDiff, Nat.reduceEqDiff, Int.reduceToNat, Int.reduceLT, Int.reduceLE, Int.reduceAdd, Int.reduceSub, Int.reduceEq, reduceIte, Nat.reduceBNe, Int.reducePow, Nat.reducePow, Int.reduceMul, Int.reduceNeg, isB_i, isB_b, isB_y, isBv_i, isBv_b, eqCells_t, TT]
  simp (maxSteps := 4000000) only [Try.results87, hbx, lx, XX, Nat.reduceBEq, Nat.reduceLT, Nat.reduceAdd, Nat.reduceMul, Nat.reduceSub, Nat.reduceLeDiff, Nat.reduceEqDiff, Int.reduceToNat, Int.reduceLT, Int.reduceLE, Int.reduceAdd, Int.reduceSub, Int.reduceEq, reduceIte, Nat.reduceBNe, Int.reducePow, Nat.reducePow, Int.reduceMul, Int.reduceNeg, isB_i, isB_b, isB_y, isBv_i, isBv_b, eqCells_t, TT]
  refine call_is hg ?_
  rintro _ _ ⟨rfl, rfl⟩
  simp (maxSteps := 4000000) only [Try.results87, hm, lm, XX, Nat.reduceBEq, Nat.reduceLT, Nat.reduceAdd, Nat.reduceMul, Nat.reduceSub, Nat.reduceLeDiff, Nat.reduceEqDiff, Int.reduceToNat, Int.reduceLT, Int.reduceLE, Int.reduceAdd, Int.reduceSub, Int.reduceEq, reduceIte, Nat.reduceBNe, Int.reducePow, Nat.reducePow, Int.reduceMul, Int.reduceNeg, isB_i, isB_b, isB_y, isBv_i, isBv_b, eqCells_t, TT]
  exact ⟨hl, by rw [List.append_assoc]; rfl⟩
theorem flag2_spec (H : List SB) (im : Nat) (n : Int) (ty : TypeId) (C : List SC) (hm : H[im]? = some ⟨true, ty, C⟩) (hl : 4 < C.length) : Spec cx.P 69 [.c (.ptr im 0), .c (.v (.int .u64 n))] H fun s h' => s = .tup [] ∧ h' = H.set im ⟨true, ty, C.take 4 ++ (bC (decide (128 ≤ n)) :: C.drop 5)⟩ := by
  have lm := lt_of hm
  refine spec_of_X cx_ok Try.func69 rfl (by kernel_rfl) (by kernel_rfl) (Nat.le_of_ble_eq_true rfl) 400 2 ?_
  simp (maxSteps := 4000000) only [Try.results69, XX, Nat.reduceBEq, Nat.reduceLT, Nat.reduceAdd, Nat.reduceMul, Nat.reduceSub, Nat.reduceLeDiff, Nat.reduceEqDiff, Int.reduceToNat, Int.reduceLT, Int.reduceLE, Int.reduceAdd, Int.reduceSub, Int.reduceEq, reduceIte, Nat.reduceBNe, Int.reducePow, Nat.reducePow, Int.reduceMul, Int.reduceNeg, isB_i, isB_b, isB_y, isBv_i, isBv_b, eqCells_t, TT]
  simp (maxSteps := 4000000) only [Try.results69, hm, lm, XX, Nat.reduceBEq, Nat.reduceLT, Nat.reduceAdd, Nat.reduceMul, Nat.reduceSub, Nat.reduceLeDiff, Nat.reduceEqDiff, Int.reduceToNat, Int.reduceLT, Int.reduceLE, Int.reduceAdd, Int.reduceSub, Int.reduceEq, reduceIte, Nat.reduceBNe, Int.reducePow, Nat.reducePow, Int.reduceMul, Int.reduceNeg, isB_i, isB_b, isB_y, isBv_i, isBv_b, eqCells_t, TT]
  exact ⟨hl, by rw [List.append_assoc]; rfl⟩
end Go.Proofs.Ytgegddefcgfhgaa.Sx
namespace Go.Proofs.Ytgegddefcgfhgaa.Sx
open Go
set_option linter.unusedSimpArgs false
set_option linter.unusedVariables false
set_option maxRecDepth 10000
set_option maxHeartbeats 2000000
def delO (es : List PE) : List PE := es.filter fun e => !decide (e.k = 52)
theorem delO_next {es : List PE} {j : Nat} {e : PE} (h : es[j]? = some e) : delO (es.take (j + 1)) = if e.k = 52 then delO (es.take j) else delO (es.take j) ++ [e] := by
  rw [List.take_add_one, h, delO, List.filter_append]
  by_cases hk : e.k = 52 <;> simp [delO, hk]
theorem delO_none {es : List PE} (h : ∀ e ∈ es, e.k ≠ 52) : delO es = es := by
  rw [delO, List.filter_eq_self]
  intro e he
  simp [h e he]
theorem delO_mem {es : List PE} {e : PE} (h : e ∈ delO es) : e ∈ es := (List.mem_filter.1 h).1
theorem row_set {M : List PE} {r i : Nat} {e f : PE} (h : M[i]? = some f) : (rowC M r).take (i * 2) ++ (i64 e.k :: slB e.w e.d e.sp :: (rowC M r).drop (i * 2 + 2)) = rowC (M.set i e) r := by
  have hi : i < M.length := (List.getElem?_eq_some_iff.1 h).1
  have h1 := flatc_split h
  have l0 : (((M.take i).map PE.c).flatten).length = i * 2 := by rw [flatc_len, List.length_take]; omega
  have e1 : M.set i e = M.take i ++ e :: M.drop (i + 1) := by rw [List.set_eq_take_append_cons_drop, if_pos hi]
  rw [rowC, h1, e1, rowC, List.append_assoc, List.take_left' l0, List.drop_append, List.drop_of_length_le (by omega), l0, Nat.add_sub_cancel_left, List.nil_append]
  simp only [List.map_append, List.map_cons, List.flatten_append, List.flatten_cons, List.append_assoc]
  rfl
theorem overloadH_spec (H : List SB) (k : Int) (x : SC) : Spec cx.P 36 [.agg [i64 k, x]] H fun s h' => s = .c (bC (decide (k = 52))) ∧ ∃ t, h' = H ++ t := by
  refine spec_of_X cx_ok Try.func36 rfl (by kernel_rfl) (by kernel_rfl) (Nat.le_of_ble_eq_true rfl) 400 3 ?_
  simp (maxSteps := 4000000) only [Try.results36, XX, Nat.reduceBEq, Nat.reduceLT, Nat.reduceAdd, Nat.reduceMul, Nat.reduceSub, Nat.reduceLeDiff, Nat.reduceEqDiff, Int.reduceToNat, Int.reduceLT, Int.reduceLE, Int.reduceAdd, Int.reduceSub, Int.reduceEq, reduceIte, Nat.reduceBNe, Int.reducePow, Nat.reducePow, Int.reduceMul, Int.reduceNeg, isB_i, isB_b, isB_y, isBv_i, isBv_b, eqCells_t, TT]
  simp (maxSteps := 4000000) only [Try.results36, List.append_assoc, List.getElem?_append_left, List.getElem?_append_right, List.length_append, List.length_set, List.set_append_left, gset, List.getElem?_set_ne, Nat.add_sub_cancel_left, Nat.sub_self, Nat.le_refl, Nat.le_add_right, List.replicate_one, List.flatten_cons, List.flatten_nil, rep_flat, XX, Nat.reduceBEq, Nat.reduceLT, Nat.reduceAdd, Nat.reduceMul, Nat.reduceSub, Nat.reduceLeDiff, Nat.reduceEqDiff, Int.reduceToNat, Int.reduceLT, Int.reduceLE, Int.reduceAdd, Int.reduceSub, Int.reduceEq, reduceIte, Nat.reduceBNe, Int.reducePow, Nat.reducePow, Int.reduceMul, Int.reduceNeg, isB_i, isB_b, isB_y, isBv_i, isBv_b, eqCells_t, TT]
  exact ⟨_, rfl⟩
theorem atK_first {ks : List Int} {k : Int} {i : Nat} (h : atK ks k = (i : Int)) : ∀ j a, j < i → ks[j]? = some a → a ≠ k := by
  intro j a hj ha hk
  unfold atK at h
  cases hf : ks.findIdx? fun a => decide (a = k) with
  | none => rw [hf] at h; simp at h <;> omega
  | some v =>
    rw [hf] at h
    simp only at h
    obtain rfl : v = i := by omega
    obtain ⟨h1, h2, h3⟩ := List.findIdx?_eq_some_iff_getElem.1 hf
    have := h3 j hj
    obtain ⟨hl, rfl⟩ := List.getElem?_eq_some_iff.1 ha
    simp at this
    exact this hk
theorem delO_pre {es : List PE} {i : Nat} (h : ∀ j e, j < i → es[j]? = some e → e.k ≠ 52) : delO (es.take i) = es.take i := delO_none fun e he => by
  obtain ⟨j, hj⟩ := List.mem_iff_getElem?.1 he
  have hji : j < i := by have := (List.getElem?_eq_some_iff.1 hj).1; rw [List.length_take] at this; omega
  rw [List.getElem?_take_of_lt hji] at hj
  exact h j e hji hj
theorem delO_len (es : List PE) : (delO es).length ≤ es.length := List.length_filter_le ..
theorem opB_clear {T : TypeId → Option TI} {h : List SB} {t : TypeId} {i o n c : Nat} : opB T h .clear [t] [.c (.sl i o n c)] = match T t with
    | some ⟨.slice e, _, _, _⟩ => (match T e with
      | some ti => .mem (ownW h i = true ∧ o + n * ti.size ≤ lenW h i) (.tup []) (lay h i o (List.replicate n (ti.zero.map SC.v)).flatten)
      | none => .bad)
    | _ => .bad := rfl
theorem delete_spec (H : List SB) (iO : Nat) (o : Bool) (es : List PE) (r : Nat) (O : Opts H iO o es r) (hn : es.length ≤ 64) :
    Spec cx.P 35 [.c (.sl iO 0 es.length (es.length + r)), .c (.fn 36 [])] H fun s h' => s = .c (.sl iO 0 (delO es).length (es.length + r)) ∧ h'[iO]? = some (optB o (rowC (delO es) (r + (es.length - (delO es).length)))) ∧ H.length ≤ h'.length ∧ (∀ k, k < H.length → k ≠ iO → h'[k]? = H[k]?) := by
  refine spec_of_X cx_ok Try.func35 rfl (by kernel_rfl) (by kernel_rfl) (Nat.le_of_ble_eq_true rfl) 400 8 ?_
  simp (maxSteps := 4000000) only [Try.results35, XX, Nat.reduceBEq, Nat.reduceLT, Nat.reduceAdd, Nat.reduceMul, Nat.reduceSub, Nat.reduceLeDiff, Nat.reduceEqDiff, Int.reduceToNat, Int.reduceLT, Int.reduceLE, Int.reduceAdd, Int.reduceSub, Int.reduceEq, reduceIte, Nat.reduceBNe, Int.reducePow, Nat.reducePow, Int.reduceMul, Int.reduceNeg, isB_i, isB_b, isB_y, isBv_i, isBv_b, eqCells_t, TT]
  have hc : (es.map PE.oi).map OI.k = es.map PE.k := by rw [List.map_map]; rfl
  have ix := indexO_spec (es.map PE.oi) [] (es.length + r) (by rw [List.length_map]; omega)
  rw [hc] at ix
  refine call_pureF [.c (roO (es.map PE.oi) [] (es.length + r)), .c (.fn 36 [])] ix ⟨O.fz, .inl ⟨rfl, rfl⟩, trivial⟩ ?_
  rintro _ rfl
  rcases atK_cases (es.map PE.k) 52 with ⟨i0, hi0, hk0, ha⟩ | ⟨hno, ha⟩
  · rw [ha]
    have d0 : decide ((i0 : Int) = -1) = false := by simp only [decide_eq_false_iff_not]; omega
    rw [List.length_map] at hi0
    obtain ⟨e0, he0⟩ : ∃ e, es[i0]? = some e := ⟨_, List.getElem?_eq_getElem hi0⟩
    have hk52 : e0.k = 52 := by rw [List.getElem?_map, he0] at hk0; simpa using hk0
    have hpre : delO (es.take i0) = es.take i0 := delO_pre fun j e hj he => atK_first ha j e.k hj (by rw [List.getElem?_map, he]; rfl)
    have e1 : IntKind.i64.wrap ((i0 : Int) + 1) = ((i0 + 1 : Nat) : Int) := by rw [w64] <;> omega
    have lt0 : (es.take i0).length = i0 := by rw [List.length_take]; omega
    have hoo : o = true := O.own (by omega)
    subst hoo
    simp (maxSteps := 4000000) only [Try.results35, d0, e1, XX, Nat.reduceBEq, Nat.reduceLT, Nat.reduceAdd, Nat.reduceMul, Nat.reduceSub, Nat.reduceLeDiff, Nat.reduceEqDiff, Int.reduceToNat, Int.reduceLT, Int.reduceLE, Int.reduceAdd, Int.reduceSub, Int.reduceEq, reduceIte, Nat.reduceBNe, Int.reducePow, Nat.reducePow, Int.reduceMul, Int.reduceNeg, isB_i, isB_b, isB_y, isBv_i, isBv_b, eqCells_t, TT]
    refine loop_any cx_ok 400 (fun μ σ => ∃ (j i : Nat) (H1 : List SB) (M : List PE), μ = es.length - j ∧ j ≤ es.length ∧ i < j ∧ (delO (es.take j)).length = i ∧ M.length = es.length ∧ M.take i = delO (es.take j) ∧ M.drop j = es.drop j ∧ H1[iO]? = some (optB true (rowC M r)) ∧ H.length ≤ H1.length ∧ (∀ k, k < H.length → k ≠ iO → H1[k]? = H[k]?) ∧
        σ = ⟨⟨8, H.length⟩, [(0, .c (.sl iO 0 es.length (es.length + r))), (1, .c (.fn 36 [])), (5, .c (i64 i)), (6, .c (i64 j))], H1⟩) (es.length - (i0 + 1))
      ⟨⟨8, H.length⟩, [(0, .c (.sl iO 0 es.length (es.length + r))), (1, .c (.fn 36 [])), (5, .c (i64 i0)), (6, .c (i64 (i0 + 1 : Nat)))], H⟩
      ⟨i0 + 1, i0, H, es, rfl, by omega, by omega, by rw [delO_next he0, if_pos hk52, hpre, lt0], rfl, by rw [delO_next he0, if_pos hk52, hpre], rfl, O.row, Nat.le_refl _, fun _ _ _ => rfl, rfl⟩ (.inl ⟨rfl, rfl, rfl, rfl, rfl, rfl, trivial⟩) ?_
    clear d0 e1 ix he0 hk52 hpre lt0 hi0 hk0 ha
    rintro μ σ ⟨j, i, H1, M, rfl, hj, hij, hi, hM, hMt, hMd, hrow, hlen, hkp, rfl⟩
    have lrow := lt_of hrow
    have lr := rowC_len M r
    by_cases hlt : j < es.length
    · have hd : decide ((j : Int) < (es.length : Int)) = true := by simp only [decide_eq_true_eq]; omega
      have e3 : IntKind.i64.wrap ((j : Int) + 1) = ((j + 1 : Nat) : Int) := by rw [w64] <;> omega
      have e4 : IntKind.i64.wrap ((i : Int) + 1) = ((i + 1 : Nat) : Int) := by rw [w64] <;> omega
      obtain ⟨e, he⟩ : ∃ e, es[j]? = some e := ⟨_, List.getElem?_eq_getElem hlt⟩
      have hMe : M[j]? = some e := by
        have := congrArg (fun l => l[0]?) hMd
        simp only [List.getElem?_drop, Nat.add_zero] at this
        rw [this]; exact he
      obtain ⟨f, hMf⟩ : ∃ f, M[i]? = some f := ⟨_, List.getElem?_eq_getElem (by omega)⟩
      have tk := row_take (r := r) hMe
      have hst := row_set (r := r) (e := e) hMf
      have hMd' : M.drop (j + 1) = es.drop (j + 1) := by rw [← List.drop_drop, hMd, List.drop_drop]
      simp (maxSteps := 4000000) only [Try.results35, hd, hrow, lrow, tk, set_end, List.append_assoc, List.getElem?_append_left, List.getElem?_append_right, List.length_append, List.length_set, List.set_append_left, gset, List.getElem?_set_ne, Nat.add_sub_cancel_left, Nat.sub_self, Nat.le_refl, Nat.le_add_right, List.replicate_one, List.flatten_cons, List.flatten_nil, rep_flat, XX, Nat.reduceBEq, Nat.reduceLT, Nat.reduceAdd, Nat.reduceMul, Nat.reduceSub, Nat.reduceLeDiff, Nat.reduceEqDiff, Int.reduceToNat, Int.reduceLT, Int.reduceLE, Int.reduceAdd, Int.reduceSub, Int.reduceEq, reduceIte, Nat.reduceBNe, Int.reducePow, Nat.reducePow, Int.reduceMul, Int.reduceNeg, isB_i, isB_b, isB_y, isBv_i, isBv_b, eqCells_t, TT]
      refine ⟨by omega, by rw [flatc_len, rep_len (sz := 2) rfl]; omega, ?_⟩
      refine call_is (overloadH_spec (H1 ++ [(⟨true, 74, e.c⟩ : SB)]) e.k (slB e.w e.d e.sp)) ?_
      rintro _ _ ⟨rfl, t, rfl⟩
      refine gen_hp (fun G => G[iO]? = some (optB true (rowC M r)) ∧ G[H1.length]? = some ⟨true, 74, e.c⟩ ∧ H1.length < G.length ∧ (∀ k, k < H1.length → G[k]? = H1[k]?)) ⟨by rw [List.append_assoc, List.getElem?_append_left lrow]; exact hrow, by rw [List.append_assoc, List.getElem?_append_right (Nat.le_refl _), Nat.sub_self]; rfl, by simp, fun k hk => by rw [List.append_assoc, List.getElem?_append_left hk]⟩ ?_
      rintro G ⟨g1, g2, g3, g4⟩
      have lg1 := lt_of g1
      have kp2 : ∀ k, k < H.length → k ≠ iO → G[k]? = H[k]? := fun k hk hne => (g4 k (by omega)).trans (hkp k hk hne)
      generalize H1.length = wl at *
      by_cases hk : e.k = 52
      · have dk : decide (e.k = 52) = true := by simpa using hk
        simp (maxSteps := 4000000) only [Try.results35, dk, e3, XX, Nat.reduceBEq, Nat.reduceLT, Nat.reduceAdd, Nat.reduceMul, Nat.reduceSub, Nat.reduceLeDiff, Nat.reduceEqDiff, Int.reduceToNat, Int.reduceLT, Int.reduceLE, Int.reduceAdd, Int.reduceSub, Int.reduceEq, reduceIte, Nat.reduceBNe, Int.reducePow, Nat.reducePow, Int.reduceMul, Int.reduceNeg, isB_i, isB_b, isB_y, isBv_i, isBv_b, eqCells_t, TT]
        exact ⟨es.length - (j + 1), by omega, _, ⟨j + 1, i, G, M, rfl, by omega, by omega, by rw [delO_next he, if_pos hk]; exact hi, hM, by rw [delO_next he, if_pos hk]; exact hMt, hMd', g1, by omega, kp2, rfl⟩, .inl ⟨rfl, rfl, rfl, rfl, rfl, rfl, trivial⟩⟩
      · have dk : decide (e.k = 52) = false := by simpa using hk
        simp (maxSteps := 4000000) only [Try.results35, dk, e3, e4, g1, g2, g3, lg1, hst, List.append_assoc, List.getElem?_append_left, List.getElem?_append_right, List.length_append, List.length_set, List.set_append_left, gset, List.getElem?_set_ne, Nat.add_sub_cancel_left, Nat.sub_self, Nat.le_refl, Nat.le_add_right, List.replicate_one, List.flatten_cons, List.flatten_nil, rep_flat, XX, Nat.reduceBEq, Nat.reduceLT, Nat.reduceAdd, Nat.reduceMul, Nat.reduceSub, Nat.reduceLeDiff, Nat.reduceEqDiff, Int.reduceToNat, Int.reduceLT, Int.reduceLE, Int.reduceAdd, Int.reduceSub, Int.reduceEq, reduceIte, Nat.reduceBNe, Int.reducePow, Nat.reducePow, Int.reduceMul, Int.reduceNeg, isB_i, isB_b, isB_y, isBv_i, isBv_b, eqCells_t, TT]
        have hiM : i < M.length := by omega
        have sM : (M.set i e).take (i + 1) = delO (es.take (j + 1)) := by
          rw [delO_next he, if_neg hk, ← hMt, List.take_add_one, List.getElem?_set_self hiM, List.take_set_of_le (Nat.le_refl _)]; rfl
        have sL : (delO (es.take (j + 1))).length = i + 1 := by
          rw [delO_next he, if_neg hk, List.length_append, hi]; rfl
        have sD : (M.set i e).drop (j + 1) = es.drop (j + 1) := by rw [List.drop_set_of_lt (by omega)]; exact hMd'
        refine ⟨by omega, by rw [flatc_len, rep_len (sz := 2) rfl]; omega, es.length - (j + 1), by omega, _, ⟨j + 1, i + 1, _, M.set i e, rfl, by omega, by omega, sL, by rw [List.length_set]; exact hM, sM, sD, List.getElem?_set_self lg1, by rw [List.length_set]; omega, fun k hk hne => ?_, rfl⟩, .inl ⟨rfl, rfl, rfl, rfl, rfl, rfl, trivial⟩⟩
        rw [List.getElem?_set_ne (Ne.symm hne)]; exact kp2 k hk hne
    obtain rfl : j = es.length := by omega
    have hd : decide ((es.length : Int) < (es.length : Int)) = false := by simp
    rw [List.take_length] at hi hMt
    simp (maxSteps := 4000000) only [Try.results35, hd, hrow, lrow, opB_clear, List.append_assoc, List.getElem?_append_left, List.getElem?_append_right, List.length_append, List.length_set, List.set_append_left, gset, List.getElem?_set_ne, Nat.add_sub_cancel_left, Nat.sub_self, Nat.le_refl, Nat.le_add_right, List.replicate_one, List.flatten_cons, List.flatten_nil, rep_flat, XX, Nat.reduceBEq, Nat.reduceLT, Nat.reduceAdd, Nat.reduceMul, Nat.reduceSub, Nat.reduceLeDiff, Nat.reduceEqDiff, Int.reduceToNat, Int.reduceLT, Int.reduceLE, Int.reduceAdd, Int.reduceSub, Int.reduceEq, reduceIte, Nat.reduceBNe, Int.reducePow, Nat.reducePow, Int.reduceMul, Int.reduceNeg, isB_i, isB_b, isB_y, isBv_i, isBv_b, eqCells_t, TT]
    have hspl : rowC M r = ((delO es).map PE.c).flatten ++ (((M.drop i).map PE.c).flatten ++ (List.replicate r zeroO).flatten) := by
      have h0 : (M.map PE.c).flatten = ((M.take i).map PE.c).flatten ++ ((M.drop i).map PE.c).flatten := by rw [← List.flatten_append, ← List.map_append, List.take_append_drop]
      rw [rowC, ← hMt, h0, List.append_assoc]
    have lD : (((delO es).map PE.c).flatten).length = i * 2 := by rw [flatc_len, hi]
    have lM : (((M.drop i).map PE.c).flatten).length = (es.length - i) * 2 := by rw [flatc_len, List.length_drop, hM]
    have hz : (List.replicate (es.length - i) [SC.v (.int .i64 0), SC.v (.slice none 0 0)]).flatten.length = (es.length - i) * 2 := rep_len (sz := 2) rfl _
    have hcells : (rowC M r).take (i * 2) ++ ((List.replicate (es.length - i) [SC.v (.int .i64 0), SC.v (.slice none 0 0)]).flatten ++ (rowC M r).drop (i * 2 + (List.replicate (es.length - i) [SC.v (.int .i64 0), SC.v (.slice none 0 0)]).flatten.length)) = rowC (delO es) (r + (es.length - (delO es).length)) := by
      rw [hz, hspl, List.take_left' lD, ← List.append_assoc _ _ (List.replicate r zeroO).flatten, List.drop_left' (by rw [List.length_append, lD, lM]), hi, rowC, Nat.add_comm r, ← List.replicate_append_replicate, List.flatten_append]
    rw [hcells]
    refine ⟨by omega, by rw [flatc_len, rep_len (sz := 2) rfl]; omega, by omega, by rw [hi], rfl, hlen, fun k hk hne => ?_⟩
    rw [List.getElem?_set_ne (Ne.symm hne)]; exact hkp k hk hne
  · rw [ha]
    have hd : delO es = es := delO_none fun e he hk => hno (List.mem_map.2 ⟨e, he, hk⟩)
    rw [hd]
    simp (maxSteps := 4000000) only [Try.results35, XX, Nat.reduceBEq, Nat.reduceLT, Nat.reduceAdd, Nat.reduceMul, Nat.reduceSub, Nat.reduceLeDiff, Nat.reduceEqDiff, Int.reduceToNat, Int.reduceLT, Int.reduceLE, Int.reduceAdd, Int.reduceSub, Int.reduceEq, reduceIte, Nat.reduceBNe, Int.reducePow, Nat.reducePow, Int.reduceMul, Int.reduceNeg, isB_i, isB_b, isB_y, isBv_i, isBv_b, eqCells_t, TT]
    exact ⟨by rw [Nat.sub_self]; exact O.row, Nat.le_refl _⟩
end Go.Proofs.Ytgegddefcgfhgaa.Sx
namespace Go.Proofs.Ytgegddefcgfhgaa.Sx
open Go
set_option linter.unusedSimpArgs false
set_option linter.unusedVariables false
set_option maxRecDepth 10000
set_option maxHeartbeats 2000000
abbrev M6.zero : M6 := ⟨0, 0, 0, 0, 0, 0⟩
abbrev BM.zero : BM := ⟨0, 0, 0, 0, false, 0, 0, 0, 0, M6.zero, [], []⟩
def macAt (b : List UInt8) : M6 := ⟨b.getD 28 0, b.getD 29 0, b.getD 30 0, b.getD 31 0, b.getD 32 0, b.getD 33 0⟩
/-- A message's numbers and texts, by the option that says what texts hold options. -/
def decM (b : List UInt8) (k : Nat) : BM where
  op := (b.getD 0 0).toNat
  hops := (b.getD 3 0).toNat
  xid := get4 b 4
  secs := get2 b 8
  all := decide (128 ≤ (b.getD 10 0).toNat)
  ci := get4 b 12
  yi := get4 b 16
  si := get4 b 20
  gi := get4 b 24
  mac := macAt b
  sname := if k = 2 ∨ k = 3 then [] else textF ((b.drop 44).take 64)
  file := if k = 1 ∨ k = 3 then [] else textF ((b.drop 108).take 128)
def partsK (b : List UInt8) (k : Nat) : List (List UInt8) := [b.drop 240] ++ (if k = 1 ∨ k = 3 then [(b.drop 108).take 128] else []) ++ (if k = 2 ∨ k = 3 then [(b.drop 44).take 64] else [])
/-- What the option that says so says: 0 if there is none. -/
def bothF (is : List PI) : Option Nat := match is.find? fun p => decide (p.1 = 52) with
  | none => some 0
  | some p => if p.2.length = 1 ∧ 1 ≤ (p.2.getD 0 0).toNat ∧ (p.2.getD 0 0).toNat ≤ 3 then some (p.2.getD 0 0).toNat else none
def delP (is : List PI) : List PI := is.filter fun p => !decide (p.1 = 52)
def noM (e : Int) : BM × List PI × Int := (BM.zero, [], e)
def decF (b : List UInt8) : BM × List PI × Int :=
  if b.length < 240 then noM 5
  else if ((b.getD 0 0).toNat ≠ 1 ∧ (b.getD 0 0).toNat ≠ 2) ∨ (b.getD 1 0).toNat ≠ 1 ∨ (b.getD 2 0).toNat ≠ 6 then noM 160
  else if (b.drop 236).take 4 ≠ [99, 130, 83, 99] then noM 161
  else match parseA [b.drop 240] [] with
    | .error e => noM e
    | .ok is => match bothF is with
      | none => noM 162
      | some k => match parseA (partsK b k) [] with
        | .error e => noM e
        | .ok is' => (decM b k, delP is', 0)
theorem delO_pi : ∀ es : List PE, (delO es).map PE.pi = delP (es.map PE.pi)
  | [] => rfl
  | e :: es => by
    have ih := delO_pi es
    simp only [delO, delP, List.map_cons, List.filter_cons] at ih ⊢
    by_cases hk : e.k = 52
    · simp [hk, ih]
    · simp [hk, ih]
/-- A message and an error's number. -/
def resD (x : BM × List PI × Int) (s : SV) (h' : List SB) : Prop := ∃ o es r, s = .tup [(true, boC x.1 (.sl 0 0 es.length (es.length + r))), (false, [i64 x.2.2])] ∧
  h' = optB o (rowC (numF 1 es) r) :: winsC es ∧ (0 < es.length + r → o = true) ∧ (∀ e ∈ es, 0 < e.d.length + e.sp.length → e.o = true) ∧ es.map PE.pi = x.2.1
theorem resD_noRo {x : BM × List PI × Int} {t : SV} {h' : List SB} (h : resD x t h') : t.noRo = true ∧ (h'.all fun b => b.cells.all SC.noRo) = true := by
  obtain ⟨o, es, r, rfl, rfl, _⟩ := h
  refine ⟨rfl, ?_⟩
  rw [List.all_cons, Bool.and_eq_true]
  refine ⟨noRo_row _ _, ?_⟩
  rw [List.all_map, List.all_eq_true]
  intro e _
  exact noRo_bsC _
theorem resD_nil {P : Program} {f : FuncId} {args : List SV} {e : Int} (s : Spec P f args [] fun s _ => s = .tup [(true, boC BM.zero nilS), (false, [i64 e])]) : Spec P f args [] (resD (noM e)) :=
  s.wk fun t h' h => by
    subst h
    exact ⟨.tup [(true, boC BM.zero (.sl 0 0 0 0)), (false, [i64 e])], [optB false []], [none], rfl, by simp only [XX, Nat.reduceBEq, Nat.reduceLT, Nat.reduceAdd, Nat.reduceMul, Nat.reduceSub, Nat.reduceLeDiff, Nat.reduceEqDiff, Int.reduceToNat, Int.reduceLT, Int.reduceLE, Int.reduceAdd, Int.reduceSub, Int.reduceEq, reduceIte, Nat.reduceBNe, Int.reducePow, Nat.reducePow, Int.reduceMul, Int.reduceNeg, isB_i, isB_b, isB_y, isBv_i, isBv_b, eqCells_t, TT], .inr ⟨rfl, ⟨.inl ⟨rfl, rfl⟩, .inl ⟨rfl, rfl⟩, .inl ⟨rfl, rfl⟩, .inl ⟨rfl, rfl⟩, .inl ⟨rfl, rfl⟩, .inl ⟨rfl, rfl⟩, .inl ⟨rfl, rfl⟩, .inl ⟨rfl, rfl⟩, .inl ⟨rfl, rfl⟩, .inl ⟨rfl, rfl⟩, .inl ⟨rfl, rfl⟩, .inl ⟨rfl, rfl⟩, .inl ⟨rfl, rfl⟩, .inl ⟨rfl, rfl⟩, .inl ⟨rfl, rfl⟩, .inl ⟨rfl, rfl⟩, .inl ⟨rfl, rfl⟩, .inr (.inr ⟨_, _, rfl, .inl rfl⟩), trivial⟩, rfl, ⟨.inl ⟨rfl, rfl⟩, trivial⟩, trivial⟩, false, [], 0, rfl, rfl, fun h => absurd h (by simp), (fun e h => nomatch h), rfl⟩
end Go.Proofs.Ytgegddefcgfhgaa.Sx
namespace Go.Proofs.Ytgegddefcgfhgaa.Sx
open Go
set_option linter.unusedSimpArgs false
set_option linter.unusedVariables false
set_option maxRecDepth 10000
set_option maxHeartbeats 4000000
theorem same16_spec (m : BM) (xs sp ys sp' : List OI) (c c' : Nat) (hp : piL xs = piL ys) (hx : ∀ x ∈ xs, x.ok) (hy : ∀ x ∈ ys, x.ok) (hn : xs.length ≤ 140737488355328) (hk : ys.length ≤ 140737488355328) : Spec cx.P 11 [.agg (boC m (roO xs sp c)), .agg (boC m (roO ys sp' c'))] [] fun s _ => s.plain = true ∧ s = .c (bC true) := by
  have r := sameO_spec xs sp ys sp' c c' hx hy hn hk
  rw [decide_eq_true hp] at r
  have dI : ∀ a : Int, decide (a = a) = true := fun a => by simp
  have dB : ∀ a : Bool, decide (a = a) = true := fun a => by simp
  have zS : ∀ l : List UInt8, ((⟨l.toArray⟩ : ByteArray).toList == (⟨l.toArray⟩ : ByteArray).toList) = true := fun l => by simp
  have eM := eqM m.mac m.mac
  rw [decide_eq_true rfl] at eM
  refine spec_of_X cx_ok Try.func11 rfl (by kernel_rfl) (by kernel_rfl) (Nat.le_of_ble_eq_true rfl) 400 8 ?_
  simp (maxSteps := 4000000) only [Try.results11, XX, Nat.reduceBEq, Nat.reduceLT, Nat.reduceAdd, Nat.reduceMul, Nat.reduceSub, Nat.reduceLeDiff, Nat.reduceEqDiff, Int.reduceToNat, Int.reduceLT, Int.reduceLE, Int.reduceAdd, Int.reduceSub, Int.reduceEq, reduceIte, Nat.reduceBNe, Int.reducePow, Nat.reducePow, Int.reduceMul, Int.reduceNeg, isB_i, isB_b, isB_y, isBv_i, isBv_b, eqCells_t, TT]
  refine call_pureF [.c (roO xs sp c), .c (roO ys sp' c')] r ⟨.inl ⟨rfl, rfl⟩, .inl ⟨rfl, rfl⟩, trivial⟩ ?_
  rintro _ rfl
  simp (maxSteps := 4000000) only [Try.results11, dI, dB, zS, eM, XX, Nat.reduceBEq, Nat.reduceLT, Nat.reduceAdd, Nat.reduceMul, Nat.reduceSub, Nat.reduceLeDiff, Nat.reduceEqDiff, Int.reduceToNat, Int.reduceLT, Int.reduceLE, Int.reduceAdd, Int.reduceSub, Int.reduceEq, reduceIte, Nat.reduceBNe, Int.reducePow, Nat.reducePow, Int.reduceMul, Int.reduceNeg, isB_i, isB_b, isB_y, isBv_i, isBv_b, eqCells_t, TT]
end Go.Proofs.Ytgegddefcgfhgaa.Sx
namespace Go.Proofs.Ytgegddefcgfhgaa.Sx
open Go
set_option linter.unusedSimpArgs false
set_option linter.unusedVariables false
set_option maxRecDepth 10000
set_option maxHeartbeats 2000000
theorem atK_mem {ks : List Int} {k : Int} (h : k ∉ ks) : atK ks k = -1 := by
  rcases atK_cases ks k with ⟨i, _, h2, _⟩ | ⟨_, h2⟩
  · exact absurd (List.mem_of_getElem? h2) h
  · exact h2
theorem atK_last {ks : List Int} {k : Int} (h : k ∉ ks) : atK (ks ++ [k]) k = (ks.length : Int) := by
  unfold atK
  rw [List.findIdx?_append]
  have h1 : ks.findIdx? (fun a => decide (a = k)) = none := by
    rw [List.findIdx?_eq_none_iff]
    intro a ha
    simp only [decide_eq_false_iff_not]
    rintro rfl
    exact h ha
  rw [h1]
  simp
theorem enc_step {b : UInt8} {d : List UInt8} {es : List PI} (hb0 : b ≠ 0) (hb : b ≠ 255) (hno : ((b.toNat : Nat) : Int) ∉ es.map (·.1)) (hl : es.length < 64) : ∀ j : Nat, ∀ R, parse1 (encN b d (j + 1) ++ R) es = parse1 R (es ++ [(((b.toNat : Nat) : Int), d.take (255 * (j + 1)))])
  | 0, R => by
    have h0 := atK_mem hno
    have hm : (UInt8.ofNat (min 255 (d.length - 255 * 0))).toNat = (pieceL d 0).length := by
      rw [pieceL_len, UInt8.toNat_ofNat']; omega
    show parse1 (([] ++ (b :: UInt8.ofNat (min 255 (d.length - 255 * 0)) :: pieceL d 0)) ++ R) es = _
    rw [List.nil_append, List.cons_append, List.cons_append, parse1_put hb hb0 (by omega) (by rw [hm, List.length_append]; omega), hm, List.drop_left' rfl, List.take_left' rfl, putP_new h0]
    simp [pieceL]
  | j + 1, R => by
    have hm : (UInt8.ofNat (min 255 (d.length - 255 * (j + 1)))).toNat = (pieceL d (j + 1)).length := by
      rw [pieceL_len, UInt8.toNat_ofNat']; omega
    show parse1 ((encN b d (j + 1) ++ (b :: UInt8.ofNat (min 255 (d.length - 255 * (j + 1))) :: pieceL d (j + 1))) ++ R) es = _
    have hat : atK ((es ++ [(((b.toNat : Nat) : Int), d.take (255 * (j + 1)))]).map (·.1)) ((b.toNat : Nat) : Int) = (es.length : Int) := by
      rw [List.map_append]
      have := atK_last hno
      rw [List.length_map] at this
      exact this
    rw [List.append_assoc, enc_step hb0 hb hno hl j, List.cons_append, List.cons_append, parse1_put hb hb0 (by rw [hat]; omega) (by rw [hm, List.length_append]; omega), hm, List.drop_left' rfl, List.take_left' rfl,
      putP_hit (i := es.length) (x := d.take (255 * (j + 1))) hat (by rw [List.getElem?_append_right (Nat.le_refl _), Nat.sub_self]; rfl)]
    congr 1
    rw [List.set_append_right _ _ (Nat.le_refl _), Nat.sub_self]
    show es ++ [(_, d.take (255 * (j + 1)) ++ pieceL d (j + 1))] = _
    rw [pieceL, ← List.take_add, show 255 * (j + 1) + 255 = 255 * (j + 1 + 1) by omega]
theorem ofInt_code {k : Int} (h1 : 0 < k) (h2 : k < 255) : (((UInt8.ofInt k).toNat : Nat) : Int) = k ∧ UInt8.ofInt k ≠ 0 ∧ UInt8.ofInt k ≠ 255 := by
  obtain ⟨n, rfl⟩ : ∃ n : Nat, k = n := ⟨k.toNat, by omega⟩
  have e : (UInt8.ofInt (n : Int)).toNat = n := by
    have h3 : n < 256 := by omega
    show (UInt8.ofNat ((n : Int) % 2 ^ 8).toNat).toNat = n
    rw [UInt8.toNat_ofNat']
    omega
  refine ⟨by rw [e], fun h => ?_, fun h => ?_⟩ <;> rw [h] at e
  · have : n = 0 := e.symm
    omega
  · have : n = 255 := e.symm
    omega
theorem encO_parse {x : OI} {es : List PI} (h1 : 0 < x.k) (h2 : x.k < 255) (hno : x.k ∉ es.map (·.1)) (hl : es.length < 64) (R : List UInt8) : parse1 (encO x ++ R) es = parse1 R (es ++ [x.pi]) := by
  obtain ⟨e, b0, b1⟩ := ofInt_code h1 h2
  obtain ⟨j, hj⟩ : ∃ j, pcs x.d.length = j + 1 := ⟨pcs x.d.length - 1, by unfold pcs; omega⟩
  unfold encO
  rw [hj, enc_step b0 b1 (by rw [e]; exact hno) hl j R, e, List.take_of_length_le (by have := pcs_full x.d.length; rw [hj] at this; exact this)]
theorem encAll_parse : ∀ (xs : List OI) (es : List PI), (∀ x ∈ xs, 0 < x.k ∧ x.k < 255) → ((es.map (·.1)) ++ xs.map OI.k).Nodup → es.length + xs.length ≤ 64 → ∀ R, parse1 (encAll xs ++ R) es = parse1 R (es ++ piL xs)
  | [], es, _, _, _, R => by simp [encAll, piL]
  | x :: xs, es, h, hd, hl, R => by
    obtain ⟨h1, h2⟩ := h x (by simp)
    have hno : x.k ∉ es.map (·.1) := fun hm => by
      have := (List.nodup_append.1 hd).2.2 _ hm x.k (by simp)
      exact this rfl
    simp only [List.length_cons] at hl
    have hd' : (((es ++ [x.pi]).map (·.1)) ++ xs.map OI.k).Nodup := by
      rw [List.map_append, List.append_assoc]
      exact hd
    show parse1 ((encO x ++ encAll xs) ++ R) es = _
    rw [List.append_assoc, encO_parse h1 h2 hno (by omega), encAll_parse xs (es ++ [x.pi]) (fun y hy => h y (List.mem_cons_of_mem _ hy)) hd' (by rw [List.length_append]; simp only [List.length_cons, List.length_nil]; omega) R, List.append_assoc]
    rfl
theorem good_codes {xs : List OI} (h : ¬ Bad xs) : (∀ x ∈ xs, 0 < x.k ∧ x.k < 255) ∧ (xs.map OI.k).Nodup := by
  have g : ∀ (i : Nat) (x : OI), xs[i]? = some x → ¬ BadAt xs i x := fun i x hx hb => h ⟨i, x, hx, hb⟩
  constructor
  · intro x hx
    obtain ⟨i, hi⟩ := List.mem_iff_getElem?.1 hx
    have := g i x hi
    unfold BadAt at this
    omega
  · rw [List.Nodup, List.pairwise_iff_getElem]
    intro i j hi hj hij he
    rw [List.length_map] at hi hj
    rw [List.getElem_map, List.getElem_map] at he
    exact g j xs[j] (List.getElem?_eq_getElem hj) (.inr (.inr ⟨xs[i], List.mem_take_iff_getElem.2 ⟨i, by omega, rfl⟩, he⟩))
theorem codes_good {xs : List OI} (h1 : ∀ x ∈ xs, 0 < x.k ∧ x.k < 255) (h2 : (xs.map OI.k).Nodup) : ¬ Bad xs := by
  rintro ⟨i, x, hx, hb⟩
  obtain ⟨g1, g2⟩ := h1 x (List.mem_of_getElem? hx)
  rcases hb with hb | hb | ⟨y, hy, he⟩
  · omega
  · omega
  · obtain ⟨j, hj, rfl⟩ := List.mem_take_iff_getElem.1 hy
    obtain ⟨hi, rfl⟩ := List.getElem?_eq_some_iff.1 hx
    rw [List.Nodup, List.pairwise_iff_getElem] at h2
    exact h2 j i (by rw [List.length_map]; omega) (by rw [List.length_map]; omega) (by omega) (by rw [List.getElem_map, List.getElem_map]; exact he)
theorem pack_parse {xs : List OI} (h : ¬ Bad xs) (hl : xs.length ≤ 64) (R : List UInt8) : parse1 ((encAll xs ++ [255]) ++ R) [] = .ok (piL xs) := by
  obtain ⟨h1, h2⟩ := good_codes h
  rw [List.append_assoc, encAll_parse xs [] h1 (by simpa using h2) (by simpa using hl), List.nil_append]
  exact parse1_end _ _
/-- A row of codes from 1 to 254, none twice, at most 64. -/
structure GoodP (es : List PI) : Prop where
  k : ∀ x ∈ es, 0 < x.1 ∧ x.1 < 255
  n : (es.map (·.1)).Nodup
  l : es.length ≤ 64
theorem putP_good {es : List PI} {c : UInt8} {d : List UInt8} (G : GoodP es) (h1 : c ≠ 255) (h2 : c ≠ 0) (h : ¬ (atK (es.map (·.1)) c.toNat < 0 ∧ es.length = 64)) : GoodP (putP es c.toNat d) ∧ ((putP es c.toNat d).map fun p => p.2.length).sum = (es.map fun p => p.2.length).sum + d.length := by
  have c1 : c.toNat ≠ 255 := fun h => h1 (UInt8.toNat_inj.1 h)
  have c2 : c.toNat ≠ 0 := fun h => h2 (UInt8.toNat_inj.1 h)
  have c3 := c.toNat_lt
  rcases atK_cases (es.map (·.1)) (c.toNat : Int) with ⟨i, hi, hk, ha⟩ | ⟨hno, ha⟩
  · rw [List.length_map] at hi
    have hk' : (es[i]).1 = (c.toNat : Int) := by
      rw [List.getElem?_map, List.getElem?_eq_getElem hi] at hk
      simpa using hk
    have hx : es[i]? = some ((c.toNat : Int), (es[i]).2) := by rw [List.getElem?_eq_getElem hi, ← hk']
    rw [putP_hit ha hx]
    refine ⟨⟨fun x hx => ?_, ?_, by rw [List.length_set]; exact G.l⟩, ?_⟩
    · rcases List.mem_or_eq_of_mem_set hx with hx | rfl
      · exact G.k x hx
      · exact ⟨by show (0 : Int) < _; omega, by show _ < (255 : Int); omega⟩
    · rw [List.map_set]
      have : (es.map (·.1)).set i (c.toNat : Int) = es.map (·.1) := by
        apply List.ext_getElem?
        intro j
        by_cases hj : i = j
        · subst hj
          rw [List.getElem?_set_self (by simpa using hi), hk]
        · rw [List.getElem?_set_ne hj]
      show ((es.map (·.1)).set i (c.toNat : Int)).Nodup
      rw [this]
      exact G.n
    · have hs : es = es.take i ++ es[i] :: es.drop (i + 1) := by rw [← List.drop_eq_getElem_cons hi, List.take_append_drop]
      have ht : es.set i ((c.toNat : Int), (es[i]).2 ++ d) = es.take i ++ ((c.toNat : Int), (es[i]).2 ++ d) :: es.drop (i + 1) := List.set_eq_take_append_cons_drop .. |>.trans (if_pos hi)
      rw [ht]
      conv => rhs; rw [hs]
      simp only [List.map_append, List.map_cons, List.sum_append, List.sum_cons, List.length_append]
      omega
  · rw [putP_new ha]
    have hl : es.length < 64 := by have := G.l; omega
    refine ⟨⟨fun x hx => ?_, ?_, by rw [List.length_append]; simp only [List.length_cons, List.length_nil]; omega⟩, by simp⟩
    · rcases List.mem_append.1 hx with hx | hx
      · exact G.k x hx
      · obtain rfl := List.mem_singleton.1 hx
        exact ⟨by show (0 : Int) < _; omega, by show _ < (255 : Int); omega⟩
    · rw [List.map_append, List.nodup_append]
      exact ⟨G.n, by simp, fun a ha b hb => by
        simp only [List.map_cons, List.map_nil, List.mem_singleton] at hb
        subst hb
        rintro rfl
        exact hno ha⟩
theorem parse1_good : ∀ (n : Nat) (l : List UInt8) (es es' : List PI), l.length ≤ n → GoodP es → parse1 l es = .ok es' → GoodP es' ∧ (es'.map fun p => p.2.length).sum ≤ (es.map fun p => p.2.length).sum + l.length
  | n, [], es, es', _, G, h => by
    rw [parse1_nil] at h
    cases h
    exact ⟨G, by simp⟩
  | 0, c :: t, _, _, hn, _, _ => by simp at hn
  | n + 1, c :: t, es, es', hn, G, h => by
    simp only [List.length_cons] at hn ⊢
    by_cases hc : c = 255
    · subst hc
      rw [parse1_end] at h
      cases h
      exact ⟨G, by omega⟩
    by_cases h0 : c = 0
    · subst h0
      rw [parse1_pad] at h
      obtain ⟨g1, g2⟩ := parse1_good n t es es' (by omega) G h
      exact ⟨g1, by omega⟩
    by_cases hm : atK (es.map (·.1)) c.toNat < 0 ∧ es.length = 64
    · rw [parse1_many t hc h0 (by rcases atK_cases (es.map (·.1)) (c.toNat : Int) with ⟨i, _, _, ha⟩ | ⟨_, ha⟩ <;> omega) hm.2] at h
      cases h
    match t, hn, h with
    | [], _, h => rw [parse1_short hc h0 hm] at h; cases h
    | m :: t, hn, h =>
      simp only [List.length_cons] at hn ⊢
      by_cases hs : t.length < m.toNat
      · rw [parse1_cut hc h0 hm hs] at h; cases h
      · rw [parse1_put hc h0 hm (by omega)] at h
        obtain ⟨G', e⟩ := putP_good (d := t.take m.toNat) G hc h0 hm
        obtain ⟨g1, g2⟩ := parse1_good n (t.drop m.toNat) _ es' (by rw [List.length_drop]; omega) G' h
        rw [e, List.length_take] at g2
        rw [List.length_drop] at g2
        exact ⟨g1, by omega⟩
theorem parseA_good : ∀ (ps : List (List UInt8)) (es es' : List PI), GoodP es → parseA ps es = .ok es' → GoodP es' ∧ (es'.map fun p => p.2.length).sum ≤ (es.map fun p => p.2.length).sum + (ps.map List.length).sum
  | [], es, es', G, h => by
    rw [parseA] at h
    cases h
    exact ⟨G, by simp⟩
  | p :: ps, es, es', G, h => by
    rw [parseA] at h
    cases h1 : parse1 p es with
    | error e => rw [h1] at h; cases h
    | ok es1 =>
      rw [h1] at h
      obtain ⟨g1, g2⟩ := parse1_good _ p es es1 (Nat.le_refl _) G h1
      obtain ⟨g3, g4⟩ := parseA_good ps es1 es' g1 h
      refine ⟨g3, ?_⟩
      simp only [List.map_cons, List.sum_cons]
      omega
end Go.Proofs.Ytgegddefcgfhgaa.Sx
namespace Go.Proofs.Ytgegddefcgfhgaa.Sx
open Go
set_option linter.unusedSimpArgs false
set_option linter.unusedVariables false
set_option maxRecDepth 10000
set_option maxHeartbeats 2000000
theorem parse1_err : ∀ (m : Nat) (l : List UInt8) (es : List PI) (e : Int), l.length ≤ m → parse1 l es = .error e → e = 2 ∨ e = 5
  | m, [], es, e, _, h => by rw [parse1_nil] at h; cases h
  | 0, c :: t, es, e, hm, _ => by simp at hm
  | m + 1, c :: t, es, e, hm, h => by
    simp only [List.length_cons] at hm
    by_cases h1 : c = 255
    · subst h1; rw [parse1_end] at h; cases h
    by_cases h2 : c = 0
    · subst h2; rw [parse1_pad] at h; exact parse1_err m t es e (by omega) h
    by_cases h3 : atK (es.map (·.1)) c.toNat < 0 ∧ es.length = 64
    · rw [parse1.eq_def] at h; simp only [if_neg h1, if_neg h2, if_pos h3] at h
      cases h; exact .inl rfl
    cases t with
    | nil => rw [parse1_short h1 h2 h3] at h; cases h; exact .inr rfl
    | cons n t =>
      by_cases h4 : t.length < n.toNat
      · rw [parse1_cut h1 h2 h3 h4] at h; cases h; exact .inr rfl
      rw [parse1_put h1 h2 h3 (by omega)] at h
      exact parse1_err m _ _ e (by rw [List.length_drop]; simp only [List.length_cons] at hm; omega) h
theorem parseA_err : ∀ (ps : List (List UInt8)) (es : List PI) (e : Int), parseA ps es = .error e → e = 2 ∨ e = 5
  | [], es, e, h => by rw [parseA] at h; cases h
  | p :: ps, es, e, h => by
    rw [parseA] at h
    cases h1 : parse1 p es with
    | error e' => rw [h1] at h; cases h; exact parse1_err _ p es _ (Nat.le_refl _) h1
    | ok es1 => rw [h1] at h; exact parseA_err ps es1 e h
theorem goodP_nil : GoodP [] := ⟨(fun x h => nomatch h), List.nodup_nil, by simp⟩
theorem opts_good {es : List PE} {is : List PI} {N : Nat} (hpi : es.map PE.pi = is) (G : GoodP is) (hs : (is.map fun p => p.2.length).sum ≤ N) :
    (∀ e ∈ es, e.d.length ≤ N ∧ 0 < e.k ∧ e.k < 255) ∧ ¬ Bad (es.map PE.oi) ∧ (es.map PE.oi).length ≤ 64 ∧ totO (es.map PE.oi) ≤ N + 64 ∧ piL (es.map PE.oi) = is := by
  subst hpi
  obtain ⟨k, n, l⟩ := G
  rw [List.length_map] at l
  rw [List.map_map] at n hs
  have e1 : (List.map PE.oi es).map OI.k = es.map ((fun x : PI => x.1) ∘ PE.pi) := by rw [List.map_map]; rfl
  have hk : ∀ e ∈ es, 0 < e.k ∧ e.k < 255 := fun e he => k e.pi (List.mem_map_of_mem he)
  have ht : totO (es.map PE.oi) = (es.map ((fun p : PI => p.2.length) ∘ PE.pi)).sum + es.length := by
    clear k n l hs e1 hk
    induction es with
    | nil => rfl
    | cons e es ih => simp only [totO, List.map_cons, List.sum_cons, List.length_cons, Function.comp] at ih ⊢; omega
  refine ⟨fun e he => ⟨?_, hk e he⟩, codes_good (fun x hx => ?_) (by rw [e1]; exact n), by rw [List.length_map]; exact l, by omega, by rw [piL, List.map_map]; rfl⟩
  · obtain ⟨i, hi⟩ := List.mem_iff_getElem?.1 he
    have := sum_le hi
    have e2 : (es.map fun e => e.d.length) = es.map ((fun p : PI => p.2.length) ∘ PE.pi) := rfl
    rw [e2] at this
    omega
  · obtain ⟨e, he, rfl⟩ := List.mem_map.1 hx
    exact hk e he
end Go.Proofs.Ytgegddefcgfhgaa.Sx
namespace Go.Proofs.Ytgegddefcgfhgaa.Sx
open Go
set_option linter.unusedSimpArgs false
set_option linter.unusedVariables false
set_option maxRecDepth 10000
set_option maxHeartbeats 8000000
def MB (b : List UInt8) : Nat → BM
  | 0 => BM.zero
  | 1 => { BM.zero with op := (b.getD 0 0).toNat }
  | 2 => { BM.zero with op := (b.getD 0 0).toNat, hops := (b.getD 3 0).toNat }
  | 3 => { BM.zero with op := (b.getD 0 0).toNat, hops := (b.getD 3 0).toNat, xid := get4 b 4 }
  | 4 => { BM.zero with op := (b.getD 0 0).toNat, hops := (b.getD 3 0).toNat, xid := get4 b 4, secs := get2 b 8 }
  | 5 => { BM.zero with op := (b.getD 0 0).toNat, hops := (b.getD 3 0).toNat, xid := get4 b 4, secs := get2 b 8, all := decide (128 ≤ (b.getD 10 0).toNat) }
  | 6 => { BM.zero with op := (b.getD 0 0).toNat, hops := (b.getD 3 0).toNat, xid := get4 b 4, secs := get2 b 8, all := decide (128 ≤ (b.getD 10 0).toNat), ci := get4 b 12 }
  | 7 => { BM.zero with op := (b.getD 0 0).toNat, hops := (b.getD 3 0).toNat, xid := get4 b 4, secs := get2 b 8, all := decide (128 ≤ (b.getD 10 0).toNat), ci := get4 b 12, yi := get4 b 16 }
  | 8 => { BM.zero with op := (b.getD 0 0).toNat, hops := (b.getD 3 0).toNat, xid := get4 b 4, secs := get2 b 8, all := decide (128 ≤ (b.getD 10 0).toNat), ci := get4 b 12, yi := get4 b 16, si := get4 b 20 }
  | _ => { BM.zero with op := (b.getD 0 0).toNat, hops := (b.getD 3 0).toNat, xid := get4 b 4, secs := get2 b 8, all := decide (128 ≤ (b.getD 10 0).toNat), ci := get4 b 12, yi := get4 b 16, si := get4 b 20, gi := get4 b 24 }
theorem get2_lt (b : List UInt8) (k : Nat) : get2 b k < 65536 := by
  have a0 := (b.getD k 0).toNat_lt
  have a1 := (b.getD (k + 1) 0).toNat_lt
  unfold get2; omega
theorem drop6 {b sp : List UInt8} {k : Nat} (h : k + 6 ≤ b.length) : ∃ R, (bsR (b ++ sp)).drop k = byteR (b.getD k 0) :: byteR (b.getD (k + 1) 0) :: byteR (b.getD (k + 2) 0) :: byteR (b.getD (k + 3) 0) :: byteR (b.getD (k + 4) 0) :: byteR (b.getD (k + 5) 0) :: R := by
  have g : ∀ j, j < b.length → b.drop j = b.getD j 0 :: b.drop (j + 1) := fun j hj => by
    rw [List.drop_eq_getElem_cons hj, List.getD_eq_getElem?_getD, List.getElem?_eq_getElem hj]; rfl
  rw [rs_drop, List.drop_append_of_le_length (by omega), g k (by omega), g (k + 1) (by omega), g (k + 1 + 1) (by omega), g (k + 1 + 1 + 1) (by omega), g (k + 1 + 1 + 1 + 1) (by omega), g (k + 1 + 1 + 1 + 1 + 1) (by omega)]
  exact ⟨bsR (b.drop (k + 1 + 1 + 1 + 1 + 1 + 1) ++ sp), rfl⟩
/-- What a reading leaves. -/
def outD (x : BM × List PI × Int) (s : SV) (h' : List SB) : Prop := (x = noM x.2.2 ∧ s = .tup [(true, boC BM.zero nilS), (false, [i64 x.2.2])]) ∨
  ∃ iO o es r, s = .tup [(true, boC x.1 (.sl iO 0 es.length (es.length + r))), (false, [i64 x.2.2])] ∧ Opts h' iO o es r ∧ es.map PE.pi = x.2.1
theorem resD_out {P : Program} {f : FuncId} {args : List SV} {x : BM × List PI × Int} (s : Spec P f args [] (outD x)) : Spec P f args [] (resD x) :=
  s.wk fun t h' h => by
    rcases h with ⟨hx, rfl⟩ | ⟨iO, o, es, r, rfl, O, hp⟩
    · rw [hx]
      exact ⟨.tup [(true, boC BM.zero (.sl 0 0 0 0)), (false, [i64 x.2.2])], [optB false []], [none], rfl, by simp only [XX, Nat.reduceBEq, Nat.reduceLT, Nat.reduceAdd, Nat.reduceMul, Nat.reduceSub, Nat.reduceLeDiff, Nat.reduceEqDiff, Int.reduceToNat, Int.reduceLT, Int.reduceLE, Int.reduceAdd, Int.reduceSub, Int.reduceEq, reduceIte, Nat.reduceBNe, Int.reducePow, Nat.reducePow, Int.reduceMul, Int.reduceNeg, isB_i, isB_b, isB_y, isBv_i, isBv_b, eqCells_t, TT], .inr ⟨rfl, ⟨.inl ⟨rfl, rfl⟩, .inl ⟨rfl, rfl⟩, .inl ⟨rfl, rfl⟩, .inl ⟨rfl, rfl⟩, .inl ⟨rfl, rfl⟩, .inl ⟨rfl, rfl⟩, .inl ⟨rfl, rfl⟩, .inl ⟨rfl, rfl⟩, .inl ⟨rfl, rfl⟩, .inl ⟨rfl, rfl⟩, .inl ⟨rfl, rfl⟩, .inl ⟨rfl, rfl⟩, .inl ⟨rfl, rfl⟩, .inl ⟨rfl, rfl⟩, .inl ⟨rfl, rfl⟩, .inl ⟨rfl, rfl⟩, .inl ⟨rfl, rfl⟩, .inr (.inr ⟨_, _, rfl, .inl rfl⟩), trivial⟩, rfl, ⟨.inl ⟨rfl, rfl⟩, trivial⟩, trivial⟩, false, [], 0, rfl, rfl, fun h => absurd h (by simp), (fun e h => nomatch h), rfl⟩
    · have hpi : (some iO :: es.map fun e => some e.w) = (iO :: es.map PE.w).map some := by simp
      refine ⟨.tup [(true, boC x.1 (.sl 0 0 es.length (es.length + r))), (false, [i64 x.2.2])], optB o (rowC (numF 1 es) r) :: winsC es, some iO :: es.map fun e => some e.w, ?_, ⟨?_, wkHp_wins O.at_⟩, .inl ⟨rfl, rfl⟩, o, es, r, rfl, rfl, O.own, fun e he => ?_, hp⟩
      · rw [hpi]; exact piBase_all _ _ O.nodup
      · rw [O.row]
        refine ⟨.inl ⟨row_ids _ _ _ _ fun i hi => ?_, (row_ren _ _ _ _ fun i e he => ?_).symm⟩, fun h => ⟨h, rfl⟩⟩
        · unfold isW
          rw [Nat.add_comm, List.getElem?_cons_succ, List.getElem?_map, List.getElem?_eq_getElem hi]; rfl
        · unfold srcW
          rw [Nat.add_comm, List.getElem?_cons_succ, List.getElem?_map, he]; rfl
      · obtain ⟨i, hi⟩ := List.mem_iff_getElem?.1 he
        exact (O.at_ i e hi).2
/-- Rows without a code are rows. -/
theorem opts_del {H H' : List SB} {iO : Nat} {o : Bool} {es : List PE} {r : Nat} (O : Opts H iO o es r) (hr : H'[iO]? = some (optB o (rowC (delO es) (r + (es.length - (delO es).length))))) (hk : ∀ k, k < H.length → k ≠ iO → H'[k]? = H[k]?) : Opts H' iO o (delO es) (r + (es.length - (delO es).length)) := by
  have hl := delO_len es
  refine ⟨hr, fun h => O.own (by omega), fun i e he => ?_, fun i j e f hij he hf hw => ?_⟩
  · obtain ⟨j, hj⟩ := List.mem_iff_getElem?.1 (delO_mem (List.mem_of_getElem? he))
    exact ⟨(hk _ (lt_of (O.at_ j e hj).1) (O.neR hj)).trans (O.at_ j e hj).1, (O.at_ j e hj).2⟩
  · have nd := (List.nodup_cons.1 O.nodup).2
    have nd2 : ((delO es).map PE.w).Nodup := nd.sublist (List.Sublist.map _ List.filter_sublist)
    obtain ⟨hi, rfl⟩ := List.getElem?_eq_some_iff.1 he
    obtain ⟨hj, rfl⟩ := List.getElem?_eq_some_iff.1 hf
    have pw := List.pairwise_iff_getElem.1 nd2
    rcases Nat.lt_or_gt_of_ne hij with h | h
    · exact pw i j (by simpa using hi) (by simpa using hj) h (by simpa using hw)
    · exact pw j i (by simpa using hj) (by simpa using hi) h (by simpa using hw.symm)
theorem boflag (b : List UInt8) (n : Nat) (hn : n = (b.getD 10 0).toNat) : bC (decide ((128 : Int) ≤ (n : Int))) = bC (decide (128 ≤ (b.getD 10 0).toNat)) := by
  subst hn; congr 1; exact decide_eq_decide.2 (by omega)
theorem both_find {xs : List OI} {is : List PI} (h : piL xs = is) : bothF is = match findO xs 52 with
    | none => some 0
    | some x => if x.d.length = 1 ∧ 1 ≤ (x.d.getD 0 0).toNat ∧ (x.d.getD 0 0).toNat ≤ 3 then some (x.d.getD 0 0).toNat else none := by
  subst h
  unfold bothF piL findO
  rw [List.find?_map]
  have e : ((fun p : PI => decide (p.1 = 52)) ∘ fun x : OI => (x.k, x.d)) = fun x : OI => decide (x.k = 52) := rfl
  rw [e]
  cases xs.find? fun x => decide (x.k = 52) <;> rfl
theorem both_none {xs : List OI} {is : List PI} (h : piL xs = is) (hs : (findO xs 52).isSome = false) : bothF is = some 0 := by
  rw [both_find h, Option.isSome_eq_false_iff.1 hs |> Option.isNone_iff_eq_none.1]
theorem both_some {xs : List OI} {is : List PI} (h : piL xs = is) (hs : (findO xs 52).isSome = true) : bothF is = if (findD xs 52).length = 1 ∧ 1 ≤ ((findD xs 52).getD 0 0).toNat ∧ ((findD xs 52).getD 0 0).toNat ≤ 3 then some ((findD xs 52).getD 0 0).toNat else none := by
  obtain ⟨x, hx⟩ := Option.isSome_iff_exists.1 hs
  rw [both_find h, findD, hx]
theorem btext_n (l sp : List UInt8) (c n : Nat) (hn : l.length = n) (hl : l.length ≤ 140737488355328) (hc : l.length ≤ c) : Spec cx.P 34 [.c (.ro (bsR (l ++ sp)) n c)] [] fun s _ => s.plain = true ∧ s = .c (strB (textF l)) := by
  subst hn
  exact (btext_spec l sp c hl hc).mono fun s h' h => ⟨by rw [h]; rfl, h⟩
theorem frO_n {h : List SB} {l sp : List UInt8} {c n : Nat} (hn : l.length = n) : frR (fun _ => true) h (partO (l, sp, c)) (.ro (bsR (l ++ sp)) n c) := by
  subst hn; exact .inl rfl
theorem row_n {b sp : List UInt8} {k n : Nat} (h : k + n ≤ b.length) : (bsR (b ++ sp)).drop k = bsR ((b.drop k).take n ++ (b.drop (k + n) ++ sp)) := by
  rw [rs_drop, List.drop_append_of_le_length (by omega), ← List.append_assoc, ← List.drop_drop, List.take_append_drop]
end Go.Proofs.Ytgegddefcgfhgaa.Sx
namespace Go.Proofs.Ytgegddefcgfhgaa.Sx
open Go
set_option linter.unusedSimpArgs false
set_option linter.unusedVariables false
set_option maxRecDepth 10000
set_option maxHeartbeats 8000000
structure DecS (G : List SB) (im : Nat) (M : BM) : Prop where
  pos : 1 < im
  c0 : G[0]? = some ⟨true, 29, boC BM.zero nilS⟩
  c1 : G[1]? = some ⟨true, 29, boC BM.zero nilS⟩
  mm : G[im]? = some ⟨true, 29, boC M nilS⟩
  bx : ∀ (j : Nat) (x : SB), boxesL[j]? = some x → G[im + 1 + j]? = some x
  row : G[im + 9]? = some (rowF (im + 1))
theorem DecS.app {H : List SB} {im : Nat} {M : BM} (E : DecS H im M) (t : List SB) : DecS (H ++ t) im M :=
  ⟨E.pos, (List.getElem?_append_left (lt_of E.c0)).trans E.c0, (List.getElem?_append_left (lt_of E.c1)).trans E.c1, (List.getElem?_append_left (lt_of E.mm)).trans E.mm, fun j x hx => (List.getElem?_append_left (lt_of (E.bx j x hx))).trans (E.bx j x hx), (List.getElem?_append_left (lt_of E.row)).trans E.row⟩
theorem DecS.next {F : List SB} {im : Nat} {M M' : BM} (E : DecS F im M) {C : List SC} (hc : C = boC M' nilS) : DecS (F.set im ⟨true, 29, C⟩) im M' := by
  have p := E.pos
  refine ⟨p, by rw [List.getElem?_set_ne (by omega)]; exact E.c0, by rw [List.getElem?_set_ne (by omega)]; exact E.c1, by rw [List.getElem?_set_self (lt_of E.mm), hc], fun j x hx => by rw [List.getElem?_set_ne (by omega)]; exact E.bx j x hx, by rw [List.getElem?_set_ne (by omega)]; exact E.row⟩
theorem gen_hpB {xn : XN} {t : Bool} {kA kB : List KI} {nm nm' : NB} {tm tm' : List (Nat × SV)} {hp : List SB} {Q : XE → St → Prop} (P : List SB → Prop) (h0 : P hp) (h : ∀ H, P H → XBr xn t kA kB ⟨nm, tm, H⟩ ⟨nm', tm', H⟩ Q) : XBr xn t kA kB ⟨nm, tm, hp⟩ ⟨nm', tm', hp⟩ Q := h hp h0
structure DecF (G : List SB) (im pp : Nat) (M : BM) (ps : List SC) : Prop where
  pos : 1 < im
  c0 : G[0]? = some ⟨true, 29, boC BM.zero nilS⟩
  c1 : G[1]? = some ⟨true, 29, boC BM.zero nilS⟩
  mm : G[im]? = some ⟨true, 29, boC M nilS⟩
  lt : im < pp
  pt : G[pp]? = some ⟨true, 22, ps⟩
theorem DecF.next {F : List SB} {im pp : Nat} {M M' : BM} {ps C : List SC} (E : DecF F im pp M ps) (hc : C = boC M' nilS) : DecF (F.set im ⟨true, 29, C⟩) im pp M' ps := by
  have p := E.pos
  have q := E.lt
  exact ⟨p, by rw [List.getElem?_set_ne (by omega)]; exact E.c0, by rw [List.getElem?_set_ne (by omega)]; exact E.c1, by rw [List.getElem?_set_self (lt_of E.mm), hc], q, by rw [List.getElem?_set_ne (by omega)]; exact E.pt⟩
theorem DecF.grow {F : List SB} {im pp g : Nat} {M : BM} {ps C : List SC} {b : SB} (E : DecF F im pp M ps) (hg : g = F.length + 1) : DecF (F ++ [b, ⟨true, 22, C⟩]) im g M C := by
  have q := lt_of E.pt
  have q2 := E.lt
  exact ⟨E.pos, (List.getElem?_append_left (lt_of E.c0)).trans E.c0, (List.getElem?_append_left (lt_of E.c1)).trans E.c1, (List.getElem?_append_left (lt_of E.mm)).trans E.mm, by omega, by rw [hg, List.getElem?_append_right (by omega), Nat.add_sub_cancel_left]; rfl⟩
theorem DecF.setp {F : List SB} {im pp : Nat} {M : BM} {ps C : List SC} {b : SB} (E : DecF F im pp M ps) : DecF (F.set pp ⟨true, 22, C⟩ ++ [b]) im pp M C := by
  have p := E.pos
  have q := E.lt
  have l := lt_of E.pt
  have lm := lt_of E.mm
  refine ⟨p, ?_, ?_, ?_, q, ?_⟩
  · rw [List.getElem?_append_left (by rw [List.length_set]; omega), List.getElem?_set_ne (by omega)]; exact E.c0
  · rw [List.getElem?_append_left (by rw [List.length_set]; omega), List.getElem?_set_ne (by omega)]; exact E.c1
  · rw [List.getElem?_append_left (by rw [List.length_set]; omega), List.getElem?_set_ne (by omega)]; exact E.mm
  · rw [List.getElem?_append_left (by rw [List.length_set]; exact l), List.getElem?_set_self l]
theorem opts_set {H : List SB} {iO j : Nat} {o : Bool} {es : List PE} {r : Nat} {a b : SB} (O : Opts H iO o es r) (h : H[j]? = some a) (h1 : a.ty ≠ 74) (h2 : a.ty ≠ 5) : Opts (H.set j b) iO o es r := by
  have n1 : j ≠ iO := ne_of_ty h O.row h1
  refine ⟨by rw [List.getElem?_set_ne n1]; exact O.row, O.own, fun i e he => ⟨?_, (O.at_ i e he).2⟩, O.ne⟩
  have n2 : j ≠ e.w := ne_of_ty h (O.at_ i e he).1 h2
  rw [List.getElem?_set_ne n2]; exact (O.at_ i e he).1
theorem decode_ok (b sp : List UInt8) (c : Nat) (hl : b.length ≤ 140737488355328) (hc : b.length ≤ c) (h1 : ¬ b.length < 240) (d1 : decide ((b.length : Int) < 240) = false) (R0 R1 R2 : List RC) (i0 : (bsR (b ++ sp)).drop 0 = .v (.int .u8 (b.getD 0 0).toNat) :: R0) (i1 : (bsR (b ++ sp)).drop 1 = .v (.int .u8 (b.getD 1 0).toNat) :: R1) (i2 : (bsR (b ++ sp)).drop 2 = .v (.int .u8 (b.getD 2 0).toNat) :: R2) (d2 : (decide (((b.getD 0 0).toNat : Int) < 1) || decide (2 < ((b.getD 0 0).toNat : Int)) || !decide (((b.getD 1 0).toNat : Int) = 1) || !decide (((b.getD 2 0).toNat : Int) = 6)) = false)
    (X4 : List UInt8) (t4 : ((bsR (b ++ sp)).drop 236).take 4 = bsR X4) (l4 : 4 ≤ ((bsR (b ++ sp)).drop 236).length) (m5 : ((⟨X4.toArray⟩ : ByteArray).toList == (⟨#[99, 130, 83, 99]⟩ : ByteArray).toList) = true) (t240 : (bsR (b ++ sp)).drop 240 = bsR (b.drop 240 ++ sp)) (e240 : b.length - 240 = (b.drop 240).length) (is : List PI) (hpp : Spec cx.P 30 [.c (partsV [(b.drop 240, sp, c - 240)] [] 1)] [] (resP (.ok is))) (hN : (is.map fun p => p.2.length).sum ≤ 140737488355328) (Gd : GoodP is) : Spec cx.P 10 [.c (roB b sp c)] [] (outD (match bothF is with
    | none => noM 162
    | some k => match parseA (partsK b k) [] with
      | .error e => noM e
      | .ok is' => (decM b k, delP is', 0))) := by
  refine spec_of_X cx_ok Try.func10 rfl (by kernel_rfl) (by kernel_rfl) (Nat.le_of_ble_eq_true rfl) 400 92 ?_
  simp (maxSteps := 4000000) only [Try.results10, XX, Nat.reduceBEq, Nat.reduceLT, Nat.reduceAdd, Nat.reduceMul, Nat.reduceSub, Nat.reduceLeDiff, Nat.reduceEqDiff, Int.reduceToNat, Int.reduceLT, Int.reduceLE, Int.reduceAdd, Int.reduceSub, Int.reduceEq, reduceIte, Nat.reduceBNe, Int.reducePow, Nat.reducePow, Int.reduceMul, Int.reduceNeg, isB_i, isB_b, isB_y, isBv_i, isBv_b, eqCells_t, TT]
  simp (maxSteps := 4000000) only [Try.results10, d1, i0, i1, i2, d2, t4, bsR_toSC, strOf_bsC, m5, t240, e240, List.flatten_cons, List.flatten_nil, List.cons_append, List.nil_append, List.append_nil, List.replicate_succ, List.replicate_zero, List.drop_succ_cons, List.drop_zero, List.length_cons, List.length_nil, Nat.reduceAdd, Nat.reduceLeDiff, reduceIte, XX, Nat.reduceBEq, Nat.reduceLT, Nat.reduceAdd, Nat.reduceMul, Nat.reduceSub, Nat.reduceLeDiff, Nat.reduceEqDiff, Int.reduceToNat, Int.reduceLT, Int.reduceLE, Int.reduceAdd, Int.reduceSub, Int.reduceEq, reduceIte, Nat.reduceBNe, Int.reducePow, Nat.reducePow, Int.reduceMul, Int.reduceNeg, isB_i, isB_b, isB_y, isBv_i, isBv_b, eqCells_t, TT]
  refine ⟨by omega, by omega, fun _ => by omega, fun _ => by omega, fun _ => by omega, fun _ => by omega, fun _ => by omega, fun _ => by omega, by omega, ⟨l4, isByte_bsC _⟩, by omega, ?_⟩
  refine call_opts [.c (partsV [(b.drop 240, sp, c - 240)] [] 1)] hpp ⟨fzO_rows rfl rfl ⟨frO_ro, trivial⟩, trivial⟩ ?_
  rintro t o es r O hw hpi
  obtain ⟨g1, g2, g3, g4, g5⟩ := opts_good (N := 140737488355328) (show es.map PE.pi = is from hpi) Gd hN
  have hoe := O.oks fun e he => by have := g1 e he; exact ⟨by omega, by omega, by omega⟩
  refine gen_hp (fun H => H[0]? = some ⟨true, 29, boC BM.zero nilS⟩ ∧ H[1]? = some ⟨true, 29, boC BM.zero nilS⟩ ∧ 1 < H.length ∧ Opts H 3 o es r) ⟨rfl, rfl, by simp, O⟩ ?_
  rintro H ⟨m0, m1, lm1, O⟩
  have pf := find_spec (es.map PE.oi) [] (es.length + r) hoe (by omega) 52
  simp (maxSteps := 4000000) only [Try.results10, parE, decide_true, XX, Nat.reduceBEq, Nat.reduceLT, Nat.reduceAdd, Nat.reduceMul, Nat.reduceSub, Nat.reduceLeDiff, Nat.reduceEqDiff, Int.reduceToNat, Int.reduceLT, Int.reduceLE, Int.reduceAdd, Int.reduceSub, Int.reduceEq, reduceIte, Nat.reduceBNe, Int.reducePow, Nat.reducePow, Int.reduceMul, Int.reduceNeg, isB_i, isB_b, isB_y, isBv_i, isBv_b, eqCells_t, TT]
  refine call_fz [.c (roO (es.map PE.oi) [] (es.length + r)), .c (i64 52)] pf (fun t h' h => resSB_noRo h) ⟨O.fz, .inl ⟨rfl, rfl⟩, trivial⟩ ?_
  rintro _ _ ⟨zd, od, rfl, rfl, hod⟩
  refine gen_hp (fun K => K[0]? = some ⟨true, 29, boC BM.zero nilS⟩ ∧ K[1]? = some ⟨true, 29, boC BM.zero nilS⟩ ∧ K[H.length]? = some (wB od (findD (es.map PE.oi) 52 ++ zd)) ∧ K.length = H.length + 1) ⟨(List.getElem?_append_left (by omega)).trans m0, (List.getElem?_append_left (by omega)).trans m1, ?_, by simp⟩ ?_
  · rw [List.getElem?_append_right (Nat.le_refl _), Nat.sub_self]
    show some (SB.mk _ _ (List.map _ (bsC _))) = _
    rw [ren_bsC]
  rintro K ⟨k0, k1, hD, lK⟩
  have lk0 := lt_of k0
  have lk1 := lt_of k1
  have lD := lt_of hD
  cases hso : (findO (es.map PE.oi) 52).isSome with
  | false =>
    rw [both_none g5 hso]
    dsimp only
    clear hD lD
    generalize findD (es.map PE.oi) 52 = d at *
    simp (maxSteps := 4000000) only [Try.results10, ids_bsC, ren_bsC, noRo_bsC, plain_bsC, lt_bsC, ids_byte, ren_byte, noRo_byte, plain_byte, lt_byte, XX, Nat.reduceBEq, Nat.reduceLT, Nat.reduceAdd, Nat.reduceMul, Nat.reduceSub, Nat.reduceLeDiff, Nat.reduceEqDiff, Int.reduceToNat, Int.reduceLT, Int.reduceLE, Int.reduceAdd, Int.reduceSub, Int.reduceEq, reduceIte, Nat.reduceBNe, Int.reducePow, Nat.reducePow, Int.reduceMul, Int.reduceNeg, isB_i, isB_b, isB_y, isBv_i, isBv_b, eqCells_t, TT]
    have E00 : (K ++ [(⟨true, 29, boC BM.zero nilS⟩ : SB)])[0]? = some ⟨true, 29, boC BM.zero nilS⟩ := (List.getElem?_append_left (by omega)).trans k0
    have E01 : (K ++ [(⟨true, 29, boC BM.zero nilS⟩ : SB)])[1]? = some ⟨true, 29, boC BM.zero nilS⟩ := (List.getElem?_append_left (by omega)).trans k1
    refine gen_hp (fun K' => K' = K ++ [⟨true, 29, boC BM.zero nilS⟩]) rfl ?_
    rintro _ rfl
    refine call_fz [] fields_spec (fun t h' h => by obtain ⟨rfl, rfl⟩ := h; exact ⟨rfl, rfl⟩) trivial ?_
    rintro _ _ ⟨rfl, rfl⟩
    obtain ⟨im, him⟩ : ∃ im, im = K.length := ⟨_, rfl⟩
    have lK1 : (K ++ [(⟨true, 29, boC BM.zero nilS⟩ : SB)]).length = im + 1 := by rw [him]; simp
    rw [lK1, ← him]
    have E0 : DecS (K ++ [(⟨true, 29, boC BM.zero nilS⟩ : SB)] ++ (boxesL ++ [rowF 0]).map (SB.ren (renF [] (im + 1)))) im (MB b 0) := by
      refine ⟨by omega, (List.getElem?_append_left (by omega)).trans E00, (List.getElem?_append_left (by omega)).trans E01, ?_, fun j x hx => ?_, ?_⟩
      · rw [List.getElem?_append_left (by omega), List.getElem?_append_right (by omega), him, Nat.sub_self]; rfl
      · rw [List.getElem?_append_right (by omega), lK1, Nat.add_sub_cancel_left]
        match j, hx with
        | 0, hx => cases hx; rfl
        | 1, hx => cases hx; rfl
        | 2, hx => cases hx; rfl
        | 3, hx => cases hx; rfl
        | 4, hx => cases hx; rfl
        | 5, hx => cases hx; rfl
        | 6, hx => cases hx; rfl
        | 7, hx => cases hx; rfl
      · rw [List.getElem?_append_right (by omega), lK1, show im + 9 - (im + 1) = 8 by omega]; rfl
    refine gen_hp (fun G => DecS G im (MB b 0)) E0 ?_
    clear E0
    rintro G E0
    simp (maxSteps := 4000000) only [Try.results10, ids_bsC, ren_bsC, noRo_bsC, plain_bsC, lt_bsC, ids_byte, ren_byte, noRo_byte, plain_byte, lt_byte, XX, Nat.reduceBEq, Nat.reduceLT, Nat.reduceAdd, Nat.reduceMul, Nat.reduceSub, Nat.reduceLeDiff, Nat.reduceEqDiff, Int.reduceToNat, Int.reduceLT, Int.reduceLE, Int.reduceAdd, Int.reduceSub, Int.reduceEq, reduceIte, Nat.reduceBNe, Int.reducePow, Nat.reducePow, Int.reduceMul, Int.reduceNeg, isB_i, isB_b, isB_y, isBv_i, isBv_b, eqCells_t, TT]
    refine loop_any cx_ok 400 (fun μ σ => ∃ (i : Nat) (G : List SB), μ = 9 - i ∧ i ≤ 9 ∧ DecS G im (MB b i) ∧ σ = ⟨⟨92, 0⟩, [(0, .c (roB b sp c)), (2, .c (.ptr 0 0)), (4, .c (.ptr 1 0)), (7, .c (i64 0)), (10, .c (.ptr im 0)), (89, .c (.sl (im + 9) 0 9 9)), (90, .c (i64 9)), (91, .c (i64 i))], G⟩) 9
      ⟨⟨92, 0⟩, [(0, .c (roB b sp c)), (2, .c (.ptr 0 0)), (4, .c (.ptr 1 0)), (7, .c (i64 0)), (10, .c (.ptr im 0)), (89, .c (.sl (im + 9) 0 9 9)), (90, .c (i64 9)), (91, .c (i64 (0 : Nat)))], G⟩ ⟨0, G, rfl, by omega, E0, rfl⟩ (.inl ⟨rfl, rfl, rfl, rfl, rfl, rfl, rfl, rfl, rfl, rfl, trivial⟩) ?_
    clear E0
    rintro μ σ ⟨i, G, rfl, hi, E, rfl⟩
    by_cases hlt : i < 9
    · have cc0 := E.c0
      have lc0 := lt_of cc0
      have cm := E.mm
      have lcm := lt_of cm
      have crow := E.row
      have lcr := lt_of crow
      simp only [rowF, fieldsR, fI, fU, List.cons_append, List.nil_append] at crow
      rcases (by omega : i = 0 ∨ i = 1 ∨ i = 2 ∨ i = 3 ∨ i = 4 ∨ i = 5 ∨ i = 6 ∨ i = 7 ∨ i = 8) with rfl | rfl | rfl | rfl | rfl | rfl | rfl | rfl | rfl
      · simp (maxSteps := 4000000) only [Try.results10, crow, lcr, set_end, List.append_assoc, List.getElem?_append_left, List.getElem?_append_right, List.length_append, List.length_set, List.set_append_left, gset, List.getElem?_set_ne, Nat.add_sub_cancel_left, Nat.sub_self, Nat.le_refl, Nat.le_add_right, List.replicate_one, List.flatten_cons, List.flatten_nil, rep_flat, Int.cast_ofNat_Int, XX, Nat.reduceBEq, Nat.reduceLT, Nat.reduceAdd, Nat.reduceMul, Nat.reduceSub, Nat.reduceLeDiff, Nat.reduceEqDiff, Int.reduceToNat, Int.reduceLT, Int.reduceLE, Int.reduceAdd, Int.reduceSub, Int.reduceEq, reduceIte, Nat.reduceBNe, Int.reducePow, Nat.reducePow, Int.reduceMul, Int.reduceNeg, isB_i, isB_b, isB_y, isBv_i, isBv_b, eqCells_t, TT]
        have uf : (G ++ [⟨true, 66, fI (im + 1 + 0) 0 1⟩])[G.length]? = some ⟨true, 66, fI (im + 1 + 0) 0 1⟩ := by rw [List.getElem?_append_right (Nat.le_refl _), Nat.sub_self]; rfl
        have E1 := E.app [⟨true, 66, fI (im + 1 + 0) 0 1⟩]
        -- [(⟨true, 66, fI (im + 1 + 0) 0 1⟩ : SB)]
        have lG1 : (G ++ [(⟨true, 66, fI (im + 1 + 0) 0 1⟩ : SB)]).length = G.length + 1 := by simp
        have kG : ∀ k, k < G.length → (G ++ [(⟨true, 66, fI (im + 1 + 0) 0 1⟩ : SB)])[k]? = G[k]? := fun k hk => List.getElem?_append_left hk
        generalize G ++ [(⟨true, 66, fI (im + 1 + 0) 0 1⟩ : SB)] = F at *
        generalize hwf : G.length = wf at *
        have m3 := E1.bx 0 _ rfl
        have lm2 := lt_of E1.mm
        have luf := lt_of uf
        refine call_fz [.c (roB b sp c), .c (i64 0), .c (i64 1)] (get1_spec b sp c 0 (by omega) hc (by omega)) (fun t h' h => by obtain ⟨rfl, rfl⟩ := h; exact ⟨rfl, rfl⟩) ⟨.inl ⟨rfl, rfl⟩, .inl ⟨rfl, rfl⟩, .inl ⟨rfl, rfl⟩, trivial⟩ ?_
        rintro _ _ ⟨rfl, rfl⟩
        simp (maxSteps := 4000000) only [Try.results10, uf, luf, E1.mm, m3, List.map_nil, List.append_nil, List.append_assoc, List.getElem?_append_left, List.getElem?_append_right, List.length_append, List.length_set, List.set_append_left, gset, List.getElem?_set_ne, Nat.add_sub_cancel_left, Nat.sub_self, Nat.le_refl, Nat.le_add_right, List.replicate_one, List.flatten_cons, List.flatten_nil, rep_flat, XX, Nat.reduceBEq, Nat.reduceLT, Nat.reduceAdd, Nat.reduceMul, Nat.reduceSub, Nat.reduceLeDiff, Nat.reduceEqDiff, Int.reduceToNat, Int.reduceLT, Int.reduceLE, Int.reduceAdd, Int.reduceSub, Int.reduceEq, reduceIte, Nat.reduceBNe, Int.reducePow, Nat.reducePow, Int.reduceMul, Int.reduceNeg, isB_i, isB_b, isB_y, isBv_i, isBv_b, eqCells_t, TT]
        refine call_is (small2_spec F im (im + 1 + 0) 0 63 ((b.getD 0 0).toNat : Nat) true _ _ m3 E1.mm (by simp) (pF1_spec _ im)) ?_
        rintro _ _ ⟨rfl, rfl⟩
        have ek : IntKind.i64.wrap 1 = 1 := by decide
        have q0 := (b.getD 0 0).toNat_lt
        have ew : IntKind.i64.wrap (((b.getD 0 0).toNat : Nat) : Int) = (((b.getD 0 0).toNat : Nat) : Int) := by rw [w64] <;> omega
        simp (maxSteps := 4000000) only [Try.results10, ek, ew, XX, Nat.reduceBEq, Nat.reduceLT, Nat.reduceAdd, Nat.reduceMul, Nat.reduceSub, Nat.reduceLeDiff, Nat.reduceEqDiff, Int.reduceToNat, Int.reduceLT, Int.reduceLE, Int.reduceAdd, Int.reduceSub, Int.reduceEq, reduceIte, Nat.reduceBNe, Int.reducePow, Nat.reducePow, Int.reduceMul, Int.reduceNeg, isB_i, isB_b, isB_y, isBv_i, isBv_b, eqCells_t, TT]
        refine ⟨9 - 1, by omega, _, ⟨1, _, rfl, by omega, E1.next (M' := MB b 1) ?_, rfl⟩, .inl ⟨rfl, rfl, rfl, rfl, rfl, rfl, rfl, rfl, rfl, rfl, trivial⟩⟩
        rfl
      · simp (maxSteps := 4000000) only [Try.results10, crow, lcr, set_end, List.append_assoc, List.getElem?_append_left, List.getElem?_append_right, List.length_append, List.length_set, List.set_append_left, gset, List.getElem?_set_ne, Nat.add_sub_cancel_left, Nat.sub_self, Nat.le_refl, Nat.le_add_right, List.replicate_one, List.flatten_cons, List.flatten_nil, rep_flat, Int.cast_ofNat_Int, XX, Nat.reduceBEq, Nat.reduceLT, Nat.reduceAdd, Nat.reduceMul, Nat.reduceSub, Nat.reduceLeDiff, Nat.reduceEqDiff, Int.reduceToNat, Int.reduceLT, Int.reduceLE, Int.reduceAdd, Int.reduceSub, Int.reduceEq, reduceIte, Nat.reduceBNe, Int.reducePow, Nat.reducePow, Int.reduceMul, Int.reduceNeg, isB_i, isB_b, isB_y, isBv_i, isBv_b, eqCells_t, TT]
        have uf : (G ++ [⟨true, 66, fI (im + 1 + 1) 3 1⟩])[G.length]? = some ⟨true, 66, fI (im + 1 + 1) 3 1⟩ := by rw [List.getElem?_append_right (Nat.le_refl _), Nat.sub_self]; rfl
        have E1 := E.app [⟨true, 66, fI (im + 1 + 1) 3 1⟩]
        -- [(⟨true, 66, fI (im + 1 + 1) 3 1⟩ : SB)]
        have lG1 : (G ++ [(⟨true, 66, fI (im + 1 + 1) 3 1⟩ : SB)]).length = G.length + 1 := by simp
        have kG : ∀ k, k < G.length → (G ++ [(⟨true, 66, fI (im + 1 + 1) 3 1⟩ : SB)])[k]? = G[k]? := fun k hk => List.getElem?_append_left hk
        generalize G ++ [(⟨true, 66, fI (im + 1 + 1) 3 1⟩ : SB)] = F at *
        generalize hwf : G.length = wf at *
        have m3 := E1.bx 1 _ rfl
        have lm2 := lt_of E1.mm
        have luf := lt_of uf
        refine call_fz [.c (roB b sp c), .c (i64 3), .c (i64 1)] (get1_spec b sp c 3 (by omega) hc (by omega)) (fun t h' h => by obtain ⟨rfl, rfl⟩ := h; exact ⟨rfl, rfl⟩) ⟨.inl ⟨rfl, rfl⟩, .inl ⟨rfl, rfl⟩, .inl ⟨rfl, rfl⟩, trivial⟩ ?_
        rintro _ _ ⟨rfl, rfl⟩
        simp (maxSteps := 4000000) only [Try.results10, uf, luf, E1.mm, m3, List.map_nil, List.append_nil, List.append_assoc, List.getElem?_append_left, List.getElem?_append_right, List.length_append, List.length_set, List.set_append_left, gset, List.getElem?_set_ne, Nat.add_sub_cancel_left, Nat.sub_self, Nat.le_refl, Nat.le_add_right, List.replicate_one, List.flatten_cons, List.flatten_nil, rep_flat, XX, Nat.reduceBEq, Nat.reduceLT, Nat.reduceAdd, Nat.reduceMul, Nat.reduceSub, Nat.reduceLeDiff, Nat.reduceEqDiff, Int.reduceToNat, Int.reduceLT, Int.reduceLE, Int.reduceAdd, Int.reduceSub, Int.reduceEq, reduceIte, Nat.reduceBNe, Int.reducePow, Nat.reducePow, Int.reduceMul, Int.reduceNeg, isB_i, isB_b, isB_y, isBv_i, isBv_b, eqCells_t, TT]
        refine call_is (small2_spec F im (im + 1 + 1) 1 64 ((b.getD 3 0).toNat : Nat) true _ _ m3 E1.mm (by simp) (pF2_spec _ im)) ?_
        rintro _ _ ⟨rfl, rfl⟩
        have ek : IntKind.i64.wrap 2 = 2 := by decide
        have q0 := (b.getD 3 0).toNat_lt
        have ew : IntKind.i64.wrap (((b.getD 3 0).toNat : Nat) : Int) = (((b.getD 3 0).toNat : Nat) : Int) := by rw [w64] <;> omega
        simp (maxSteps := 4000000) only [Try.results10, ek, ew, XX, Nat.reduceBEq, Nat.reduceLT, Nat.reduceAdd, Nat.reduceMul, Nat.reduceSub, Nat.reduceLeDiff, Nat.reduceEqDiff, Int.reduceToNat, Int.reduceLT, Int.reduceLE, Int.reduceAdd, Int.reduceSub, Int.reduceEq, reduceIte, Nat.reduceBNe, Int.reducePow, Nat.reducePow, Int.reduceMul, Int.reduceNeg, isB_i, isB_b, isB_y, isBv_i, isBv_b, eqCells_t, TT]
        refine ⟨9 - 2, by omega, _, ⟨2, _, rfl, by omega, E1.next (M' := MB b 2) ?_, rfl⟩, .inl ⟨rfl, rfl, rfl, rfl, rfl, rfl, rfl, rfl, rfl, rfl, trivial⟩⟩
        rfl
      · simp (maxSteps := 4000000) only [Try.results10, crow, lcr, set_end, List.append_assoc, List.getElem?_append_left, List.getElem?_append_right, List.length_append, List.length_set, List.set_append_left, gset, List.getElem?_set_ne, Nat.add_sub_cancel_left, Nat.sub_self, Nat.le_refl, Nat.le_add_right, List.replicate_one, List.flatten_cons, List.flatten_nil, rep_flat, Int.cast_ofNat_Int, XX, Nat.reduceBEq, Nat.reduceLT, Nat.reduceAdd, Nat.reduceMul, Nat.reduceSub, Nat.reduceLeDiff, Nat.reduceEqDiff, Int.reduceToNat, Int.reduceLT, Int.reduceLE, Int.reduceAdd, Int.reduceSub, Int.reduceEq, reduceIte, Nat.reduceBNe, Int.reducePow, Nat.reducePow, Int.reduceMul, Int.reduceNeg, isB_i, isB_b, isB_y, isBv_i, isBv_b, eqCells_t, TT]
        have uf : (G ++ [⟨true, 66, fU (im + 1 + 2) 4⟩])[G.length]? = some ⟨true, 66, fU (im + 1 + 2) 4⟩ := by rw [List.getElem?_append_right (Nat.le_refl _), Nat.sub_self]; rfl
        have E1 := E.app [⟨true, 66, fU (im + 1 + 2) 4⟩]
        -- [(⟨true, 66, fU (im + 1 + 2) 4⟩ : SB)]
        have lG1 : (G ++ [(⟨true, 66, fU (im + 1 + 2) 4⟩ : SB)]).length = G.length + 1 := by simp
        have kG : ∀ k, k < G.length → (G ++ [(⟨true, 66, fU (im + 1 + 2) 4⟩ : SB)])[k]? = G[k]? := fun k hk => List.getElem?_append_left hk
        generalize G ++ [(⟨true, 66, fU (im + 1 + 2) 4⟩ : SB)] = F at *
        generalize hwf : G.length = wf at *
        have m3 := E1.bx 2 _ rfl
        have lm2 := lt_of E1.mm
        have luf := lt_of uf
        refine call_fz [.c (roB b sp c), .c (i64 4), .c (i64 4)] (get4_spec b sp c 4 (by omega) hc (by omega)) (fun t h' h => by obtain ⟨rfl, rfl⟩ := h; exact ⟨rfl, rfl⟩) ⟨.inl ⟨rfl, rfl⟩, .inl ⟨rfl, rfl⟩, .inl ⟨rfl, rfl⟩, trivial⟩ ?_
        rintro _ _ ⟨rfl, rfl⟩
        simp (maxSteps := 4000000) only [Try.results10, uf, luf, E1.mm, m3, List.map_nil, List.append_nil, List.append_assoc, List.getElem?_append_left, List.getElem?_append_right, List.length_append, List.length_set, List.set_append_left, gset, List.getElem?_set_ne, Nat.add_sub_cancel_left, Nat.sub_self, Nat.le_refl, Nat.le_add_right, List.replicate_one, List.flatten_cons, List.flatten_nil, rep_flat, XX, Nat.reduceBEq, Nat.reduceLT, Nat.reduceAdd, Nat.reduceMul, Nat.reduceSub, Nat.reduceLeDiff, Nat.reduceEqDiff, Int.reduceToNat, Int.reduceLT, Int.reduceLE, Int.reduceAdd, Int.reduceSub, Int.reduceEq, reduceIte, Nat.reduceBNe, Int.reducePow, Nat.reducePow, Int.reduceMul, Int.reduceNeg, isB_i, isB_b, isB_y, isBv_i, isBv_b, eqCells_t, TT]
        refine call_is (address2_spec F im (im + 1 + 2) 2 66 (get4 b 4 : Nat) true _ _ m3 E1.mm (by simp) (pF3_spec _ im)) ?_
        rintro _ _ ⟨rfl, rfl⟩
        have ek : IntKind.i64.wrap 3 = 3 := by decide
        have q0 := get4_lt b 4
        have ew : IntKind.u32.wrap ((get4 b 4 : Nat) : Int) = ((get4 b 4 : Nat) : Int) := by rw [wu32] <;> omega
        simp (maxSteps := 4000000) only [Try.results10, ek, ew, XX, Nat.reduceBEq, Nat.reduceLT, Nat.reduceAdd, Nat.reduceMul, Nat.reduceSub, Nat.reduceLeDiff, Nat.reduceEqDiff, Int.reduceToNat, Int.reduceLT, Int.reduceLE, Int.reduceAdd, Int.reduceSub, Int.reduceEq, reduceIte, Nat.reduceBNe, Int.reducePow, Nat.reducePow, Int.reduceMul, Int.reduceNeg, isB_i, isB_b, isB_y, isBv_i, isBv_b, eqCells_t, TT]
        refine ⟨9 - 3, by omega, _, ⟨3, _, rfl, by omega, E1.next (M' := MB b 3) ?_, rfl⟩, .inl ⟨rfl, rfl, rfl, rfl, rfl, rfl, rfl, rfl, rfl, rfl, trivial⟩⟩
        rfl
      · simp (maxSteps := 4000000) only [Try.results10, crow, lcr, set_end, List.append_assoc, List.getElem?_append_left, List.getElem?_append_right, List.length_append, List.length_set, List.set_append_left, gset, List.getElem?_set_ne, Nat.add_sub_cancel_left, Nat.sub_self, Nat.le_refl, Nat.le_add_right, List.replicate_one, List.flatten_cons, List.flatten_nil, rep_flat, Int.cast_ofNat_Int, XX, Nat.reduceBEq, Nat.reduceLT, Nat.reduceAdd, Nat.reduceMul, Nat.reduceSub, Nat.reduceLeDiff, Nat.reduceEqDiff, Int.reduceToNat, Int.reduceLT, Int.reduceLE, Int.reduceAdd, Int.reduceSub, Int.reduceEq, reduceIte, Nat.reduceBNe, Int.reducePow, Nat.reducePow, Int.reduceMul, Int.reduceNeg, isB_i, isB_b, isB_y, isBv_i, isBv_b, eqCells_t, TT]
        have uf : (G ++ [⟨true, 66, fI (im + 1 + 3) 8 2⟩])[G.length]? = some ⟨true, 66, fI (im + 1 + 3) 8 2⟩ := by rw [List.getElem?_append_right (Nat.le_refl _), Nat.sub_self]; rfl
        have E1 := E.app [⟨true, 66, fI (im + 1 + 3) 8 2⟩]
        -- [(⟨true, 66, fI (im + 1 + 3) 8 2⟩ : SB)]
        have lG1 : (G ++ [(⟨true, 66, fI (im + 1 + 3) 8 2⟩ : SB)]).length = G.length + 1 := by simp
        have kG : ∀ k, k < G.length → (G ++ [(⟨true, 66, fI (im + 1 + 3) 8 2⟩ : SB)])[k]? = G[k]? := fun k hk => List.getElem?_append_left hk
        generalize G ++ [(⟨true, 66, fI (im + 1 + 3) 8 2⟩ : SB)] = F at *
        generalize hwf : G.length = wf at *
        have m3 := E1.bx 3 _ rfl
        have lm2 := lt_of E1.mm
        have luf := lt_of uf
        refine call_fz [.c (roB b sp c), .c (i64 8), .c (i64 2)] (get2_spec b sp c 8 (by omega) hc (by omega)) (fun t h' h => by obtain ⟨rfl, rfl⟩ := h; exact ⟨rfl, rfl⟩) ⟨.inl ⟨rfl, rfl⟩, .inl ⟨rfl, rfl⟩, .inl ⟨rfl, rfl⟩, trivial⟩ ?_
        rintro _ _ ⟨rfl, rfl⟩
        simp (maxSteps := 4000000) only [Try.results10, uf, luf, E1.mm, m3, List.map_nil, List.append_nil, List.append_assoc, List.getElem?_append_left, List.getElem?_append_right, List.length_append, List.length_set, List.set_append_left, gset, List.getElem?_set_ne, Nat.add_sub_cancel_left, Nat.sub_self, Nat.le_refl, Nat.le_add_right, List.replicate_one, List.flatten_cons, List.flatten_nil, rep_flat, XX, Nat.reduceBEq, Nat.reduceLT, Nat.reduceAdd, Nat.reduceMul, Nat.reduceSub, Nat.reduceLeDiff, Nat.reduceEqDiff, Int.reduceToNat, Int.reduceLT, Int.reduceLE, Int.reduceAdd, Int.reduceSub, Int.reduceEq, reduceIte, Nat.reduceBNe, Int.reducePow, Nat.reducePow, Int.reduceMul, Int.reduceNeg, isB_i, isB_b, isB_y, isBv_i, isBv_b, eqCells_t, TT]
        refine call_is (small2_spec F im (im + 1 + 3) 3 67 (get2 b 8 : Nat) true _ _ m3 E1.mm (by simp) (pF4_spec _ im)) ?_
        rintro _ _ ⟨rfl, rfl⟩
        have ek : IntKind.i64.wrap 4 = 4 := by decide
        have q0 := get2_lt b 8
        have ew : IntKind.i64.wrap ((get2 b 8 : Nat) : Int) = ((get2 b 8 : Nat) : Int) := by rw [w64] <;> omega
        simp (maxSteps := 4000000) only [Try.results10, ek, ew, XX, Nat.reduceBEq, Nat.reduceLT, Nat.reduceAdd, Nat.reduceMul, Nat.reduceSub, Nat.reduceLeDiff, Nat.reduceEqDiff, Int.reduceToNat, Int.reduceLT, Int.reduceLE, Int.reduceAdd, Int.reduceSub, Int.reduceEq, reduceIte, Nat.reduceBNe, Int.reducePow, Nat.reducePow, Int.reduceMul, Int.reduceNeg, isB_i, isB_b, isB_y, isBv_i, isBv_b, eqCells_t, TT]
        refine ⟨9 - 4, by omega, _, ⟨4, _, rfl, by omega, E1.next (M' := MB b 4) ?_, rfl⟩, .inl ⟨rfl, rfl, rfl, rfl, rfl, rfl, rfl, rfl, rfl, rfl, trivial⟩⟩
        rfl
      · simp (maxSteps := 4000000) only [Try.results10, crow, lcr, set_end, List.append_assoc, List.getElem?_append_left, List.getElem?_append_right, List.length_append, List.length_set, List.set_append_left, gset, List.getElem?_set_ne, Nat.add_sub_cancel_left, Nat.sub_self, Nat.le_refl, Nat.le_add_right, List.replicate_one, List.flatten_cons, List.flatten_nil, rep_flat, Int.cast_ofNat_Int, XX, Nat.reduceBEq, Nat.reduceLT, Nat.reduceAdd, Nat.reduceMul, Nat.reduceSub, Nat.reduceLeDiff, Nat.reduceEqDiff, Int.reduceToNat, Int.reduceLT, Int.reduceLE, Int.reduceAdd, Int.reduceSub, Int.reduceEq, reduceIte, Nat.reduceBNe, Int.reducePow, Nat.reducePow, Int.reduceMul, Int.reduceNeg, isB_i, isB_b, isB_y, isBv_i, isBv_b, eqCells_t, TT]
        have uf : (G ++ [⟨true, 66, [i64 10, i64 1, .fn 68 [], .fn 69 []]⟩])[G.length]? = some ⟨true, 66, [i64 10, i64 1, .fn 68 [], .fn 69 []]⟩ := by rw [List.getElem?_append_right (Nat.le_refl _), Nat.sub_self]; rfl
        have E1 := E.app [⟨true, 66, [i64 10, i64 1, .fn 68 [], .fn 69 []]⟩]
        -- [(⟨true, 66, [i64 10, i64 1, .fn 68 [], .fn 69 []]⟩ : SB)]
        have lG1 : (G ++ [(⟨true, 66, [i64 10, i64 1, .fn 68 [], .fn 69 []]⟩ : SB)]).length = G.length + 1 := by simp
        have kG : ∀ k, k < G.length → (G ++ [(⟨true, 66, [i64 10, i64 1, .fn 68 [], .fn 69 []]⟩ : SB)])[k]? = G[k]? := fun k hk => List.getElem?_append_left hk
        generalize G ++ [(⟨true, 66, [i64 10, i64 1, .fn 68 [], .fn 69 []]⟩ : SB)] = F at *
        generalize hwf : G.length = wf at *
        have lm2 := lt_of E1.mm
        have luf := lt_of uf
        refine call_fz [.c (roB b sp c), .c (i64 10), .c (i64 1)] (get1_spec b sp c 10 (by omega) hc (by omega)) (fun t h' h => by obtain ⟨rfl, rfl⟩ := h; exact ⟨rfl, rfl⟩) ⟨.inl ⟨rfl, rfl⟩, .inl ⟨rfl, rfl⟩, .inl ⟨rfl, rfl⟩, trivial⟩ ?_
        rintro _ _ ⟨rfl, rfl⟩
        simp (maxSteps := 4000000) only [Try.results10, uf, luf, E1.mm, List.map_nil, List.append_nil, List.append_assoc, List.getElem?_append_left, List.getElem?_append_right, List.length_append, List.length_set, List.set_append_left, gset, List.getElem?_set_ne, Nat.add_sub_cancel_left, Nat.sub_self, Nat.le_refl, Nat.le_add_right, List.replicate_one, List.flatten_cons, List.flatten_nil, rep_flat, XX, Nat.reduceBEq, Nat.reduceLT, Nat.reduceAdd, Nat.reduceMul, Nat.reduceSub, Nat.reduceLeDiff, Nat.reduceEqDiff, Int.reduceToNat, Int.reduceLT, Int.reduceLE, Int.reduceAdd, Int.reduceSub, Int.reduceEq, reduceIte, Nat.reduceBNe, Int.reducePow, Nat.reducePow, Int.reduceMul, Int.reduceNeg, isB_i, isB_b, isB_y, isBv_i, isBv_b, eqCells_t, TT]
        refine call_is (flag2_spec F im ((b.getD 10 0).toNat : Nat) _ _ E1.mm (by simp)) ?_
        rintro _ _ ⟨rfl, rfl⟩
        have ek : IntKind.i64.wrap 5 = 5 := by decide
        simp (maxSteps := 4000000) only [Try.results10, ek, XX, Nat.reduceBEq, Nat.reduceLT, Nat.reduceAdd, Nat.reduceMul, Nat.reduceSub, Nat.reduceLeDiff, Nat.reduceEqDiff, Int.reduceToNat, Int.reduceLT, Int.reduceLE, Int.reduceAdd, Int.reduceSub, Int.reduceEq, reduceIte, Nat.reduceBNe, Int.reducePow, Nat.reducePow, Int.reduceMul, Int.reduceNeg, isB_i, isB_b, isB_y, isBv_i, isBv_b, eqCells_t, TT]
        refine ⟨9 - 5, by omega, _, ⟨5, _, rfl, by omega, E1.next (M' := MB b 5) ?_, rfl⟩, .inl ⟨rfl, rfl, rfl, rfl, rfl, rfl, rfl, rfl, rfl, rfl, trivial⟩⟩
        rw [boflag b _ rfl]; rfl
      · simp (maxSteps := 4000000) only [Try.results10, crow, lcr, set_end, List.append_assoc, List.getElem?_append_left, List.getElem?_append_right, List.length_append, List.length_set, List.set_append_left, gset, List.getElem?_set_ne, Nat.add_sub_cancel_left, Nat.sub_self, Nat.le_refl, Nat.le_add_right, List.replicate_one, List.flatten_cons, List.flatten_nil, rep_flat, Int.cast_ofNat_Int, XX, Nat.reduceBEq, Nat.reduceLT, Nat.reduceAdd, Nat.reduceMul, Nat.reduceSub, Nat.reduceLeDiff, Nat.reduceEqDiff, Int.reduceToNat, Int.reduceLT, Int.reduceLE, Int.reduceAdd, Int.reduceSub, Int.reduceEq, reduceIte, Nat.reduceBNe, Int.reducePow, Nat.reducePow, Int.reduceMul, Int.reduceNeg, isB_i, isB_b, isB_y, isBv_i, isBv_b, eqCells_t, TT]
        have uf : (G ++ [⟨true, 66, fU (im + 1 + 4) 12⟩])[G.length]? = some ⟨true, 66, fU (im + 1 + 4) 12⟩ := by rw [List.getElem?_append_right (Nat.le_refl _), Nat.sub_self]; rfl
        have E1 := E.app [⟨true, 66, fU (im + 1 + 4) 12⟩]
        -- [(⟨true, 66, fU (im + 1 + 4) 12⟩ : SB)]
        have lG1 : (G ++ [(⟨true, 66, fU (im + 1 + 4) 12⟩ : SB)]).length = G.length + 1 := by simp
        have kG : ∀ k, k < G.length → (G ++ [(⟨true, 66, fU (im + 1 + 4) 12⟩ : SB)])[k]? = G[k]? := fun k hk => List.getElem?_append_left hk
        generalize G ++ [(⟨true, 66, fU (im + 1 + 4) 12⟩ : SB)] = F at *
        generalize hwf : G.length = wf at *
        have m3 := E1.bx 4 _ rfl
        have lm2 := lt_of E1.mm
        have luf := lt_of uf
        refine call_fz [.c (roB b sp c), .c (i64 12), .c (i64 4)] (get4_spec b sp c 12 (by omega) hc (by omega)) (fun t h' h => by obtain ⟨rfl, rfl⟩ := h; exact ⟨rfl, rfl⟩) ⟨.inl ⟨rfl, rfl⟩, .inl ⟨rfl, rfl⟩, .inl ⟨rfl, rfl⟩, trivial⟩ ?_
        rintro _ _ ⟨rfl, rfl⟩
        simp (maxSteps := 4000000) only [Try.results10, uf, luf, E1.mm, m3, List.map_nil, List.append_nil, List.append_assoc, List.getElem?_append_left, List.getElem?_append_right, List.length_append, List.length_set, List.set_append_left, gset, List.getElem?_set_ne, Nat.add_sub_cancel_left, Nat.sub_self, Nat.le_refl, Nat.le_add_right, List.replicate_one, List.flatten_cons, List.flatten_nil, rep_flat, XX, Nat.reduceBEq, Nat.reduceLT, Nat.reduceAdd, Nat.reduceMul, Nat.reduceSub, Nat.reduceLeDiff, Nat.reduceEqDiff, Int.reduceToNat, Int.reduceLT, Int.reduceLE, Int.reduceAdd, Int.reduceSub, Int.reduceEq, reduceIte, Nat.reduceBNe, Int.reducePow, Nat.reducePow, Int.reduceMul, Int.reduceNeg, isB_i, isB_b, isB_y, isBv_i, isBv_b, eqCells_t, TT]
        refine call_is (address2_spec F im (im + 1 + 4) 5 70 (get4 b 12 : Nat) true _ _ m3 E1.mm (by simp) (pF7_spec _ im)) ?_
        rintro _ _ ⟨rfl, rfl⟩
        have ek : IntKind.i64.wrap 6 = 6 := by decide
        have q0 := get4_lt b 12
        have ew : IntKind.u32.wrap ((get4 b 12 : Nat) : Int) = ((get4 b 12 : Nat) : Int) := by rw [wu32] <;> omega
        simp (maxSteps := 4000000) only [Try.results10, ek, ew, XX, Nat.reduceBEq, Nat.reduceLT, Nat.reduceAdd, Nat.reduceMul, Nat.reduceSub, Nat.reduceLeDiff, Nat.reduceEqDiff, Int.reduceToNat, Int.reduceLT, Int.reduceLE, Int.reduceAdd, Int.reduceSub, Int.reduceEq, reduceIte, Nat.reduceBNe, Int.reducePow, Nat.reducePow, Int.reduceMul, Int.reduceNeg, isB_i, isB_b, isB_y, isBv_i, isBv_b, eqCells_t, TT]
        refine ⟨9 - 6, by omega, _, ⟨6, _, rfl, by omega, E1.next (M' := MB b 6) ?_, rfl⟩, .inl ⟨rfl, rfl, rfl, rfl, rfl, rfl, rfl, rfl, rfl, rfl, trivial⟩⟩
        rfl
      · simp (maxSteps := 4000000) only [Try.results10, crow, lcr, set_end, List.append_assoc, List.getElem?_append_left, List.getElem?_append_right, List.length_append, List.length_set, List.set_append_left, gset, List.getElem?_set_ne, Nat.add_sub_cancel_left, Nat.sub_self, Nat.le_refl, Nat.le_add_right, List.replicate_one, List.flatten_cons, List.flatten_nil, rep_flat, Int.cast_ofNat_Int, XX, Nat.reduceBEq, Nat.reduceLT, Nat.reduceAdd, Nat.reduceMul, Nat.reduceSub, Nat.reduceLeDiff, Nat.reduceEqDiff, Int.reduceToNat, Int.reduceLT, Int.reduceLE, Int.reduceAdd, Int.reduceSub, Int.reduceEq, reduceIte, Nat.reduceBNe, Int.reducePow, Nat.reducePow, Int.reduceMul, Int.reduceNeg, isB_i, isB_b, isB_y, isBv_i, isBv_b, eqCells_t, TT]
        have uf : (G ++ [⟨true, 66, fU (im + 1 + 5) 16⟩])[G.length]? = some ⟨true, 66, fU (im + 1 + 5) 16⟩ := by rw [List.getElem?_append_right (Nat.le_refl _), Nat.sub_self]; rfl
        have E1 := E.app [⟨true, 66, fU (im + 1 + 5) 16⟩]
        -- [(⟨true, 66, fU (im + 1 + 5) 16⟩ : SB)]
        have lG1 : (G ++ [(⟨true, 66, fU (im + 1 + 5) 16⟩ : SB)]).length = G.length + 1 := by simp
        have kG : ∀ k, k < G.length → (G ++ [(⟨true, 66, fU (im + 1 + 5) 16⟩ : SB)])[k]? = G[k]? := fun k hk => List.getElem?_append_left hk
        generalize G ++ [(⟨true, 66, fU (im + 1 + 5) 16⟩ : SB)] = F at *
        generalize hwf : G.length = wf at *
        have m3 := E1.bx 5 _ rfl
        have lm2 := lt_of E1.mm
        have luf := lt_of uf
        refine call_fz [.c (roB b sp c), .c (i64 16), .c (i64 4)] (get4_spec b sp c 16 (by omega) hc (by omega)) (fun t h' h => by obtain ⟨rfl, rfl⟩ := h; exact ⟨rfl, rfl⟩) ⟨.inl ⟨rfl, rfl⟩, .inl ⟨rfl, rfl⟩, .inl ⟨rfl, rfl⟩, trivial⟩ ?_
        rintro _ _ ⟨rfl, rfl⟩
        simp (maxSteps := 4000000) only [Try.results10, uf, luf, E1.mm, m3, List.map_nil, List.append_nil, List.append_assoc, List.getElem?_append_left, List.getElem?_append_right, List.length_append, List.length_set, List.set_append_left, gset, List.getElem?_set_ne, Nat.add_sub_cancel_left, Nat.sub_self, Nat.le_refl, Nat.le_add_right, List.replicate_one, List.flatten_cons, List.flatten_nil, rep_flat, XX, Nat.reduceBEq, Nat.reduceLT, Nat.reduceAdd, Nat.reduceMul, Nat.reduceSub, Nat.reduceLeDiff, Nat.reduceEqDiff, Int.reduceToNat, Int.reduceLT, Int.reduceLE, Int.reduceAdd, Int.reduceSub, Int.reduceEq, reduceIte, Nat.reduceBNe, Int.reducePow, Nat.reducePow, Int.reduceMul, Int.reduceNeg, isB_i, isB_b, isB_y, isBv_i, isBv_b, eqCells_t, TT]
        refine call_is (address2_spec F im (im + 1 + 5) 6 71 (get4 b 16 : Nat) true _ _ m3 E1.mm (by simp) (pF8_spec _ im)) ?_
        rintro _ _ ⟨rfl, rfl⟩
        have ek : IntKind.i64.wrap 7 = 7 := by decide
        have q0 := get4_lt b 16
        have ew : IntKind.u32.wrap ((get4 b 16 : Nat) : Int) = ((get4 b 16 : Nat) : Int) := by rw [wu32] <;> omega
        simp (maxSteps := 4000000) only [Try.results10, ek, ew, XX, Nat.reduceBEq, Nat.reduceLT, Nat.reduceAdd, Nat.reduceMul, Nat.reduceSub, Nat.reduceLeDiff, Nat.reduceEqDiff, Int.reduceToNat, Int.reduceLT, Int.reduceLE, Int.reduceAdd, Int.reduceSub, Int.reduceEq, reduceIte, Nat.reduceBNe, Int.reducePow, Nat.reducePow, Int.reduceMul, Int.reduceNeg, isB_i, isB_b, isB_y, isBv_i, isBv_b, eqCells_t, TT]
        refine ⟨9 - 7, by omega, _, ⟨7, _, rfl, by omega, E1.next (M' := MB b 7) ?_, rfl⟩, .inl ⟨rfl, rfl, rfl, rfl, rfl, rfl, rfl, rfl, rfl, rfl, trivial⟩⟩
        rfl
      · simp (maxSteps := 4000000) only [Try.results10, crow, lcr, set_end, List.append_assoc, List.getElem?_append_left, List.getElem?_append_right, List.length_append, List.length_set, List.set_append_left, gset, List.getElem?_set_ne, Nat.add_sub_cancel_left, Nat.sub_self, Nat.le_refl, Nat.le_add_right, List.replicate_one, List.flatten_cons, List.flatten_nil, rep_flat, Int.cast_ofNat_Int, XX, Nat.reduceBEq, Nat.reduceLT, Nat.reduceAdd, Nat.reduceMul, Nat.reduceSub, Nat.reduceLeDiff, Nat.reduceEqDiff, Int.reduceToNat, Int.reduceLT, Int.reduceLE, Int.reduceAdd, Int.reduceSub, Int.reduceEq, reduceIte, Nat.reduceBNe, Int.reducePow, Nat.reducePow, Int.reduceMul, Int.reduceNeg, isB_i, isB_b, isB_y, isBv_i, isBv_b, eqCells_t, TT]
        have uf : (G ++ [⟨true, 66, fU (im + 1 + 6) 20⟩])[G.length]? = some ⟨true, 66, fU (im + 1 + 6) 20⟩ := by rw [List.getElem?_append_right (Nat.le_refl _), Nat.sub_self]; rfl
        have E1 := E.app [⟨true, 66, fU (im + 1 + 6) 20⟩]
        -- [(⟨true, 66, fU (im + 1 + 6) 20⟩ : SB)]
        have lG1 : (G ++ [(⟨true, 66, fU (im + 1 + 6) 20⟩ : SB)]).length = G.length + 1 := by simp
        have kG : ∀ k, k < G.length → (G ++ [(⟨true, 66, fU (im + 1 + 6) 20⟩ : SB)])[k]? = G[k]? := fun k hk => List.getElem?_append_left hk
        generalize G ++ [(⟨true, 66, fU (im + 1 + 6) 20⟩ : SB)] = F at *
        generalize hwf : G.length = wf at *
        have m3 := E1.bx 6 _ rfl
        have lm2 := lt_of E1.mm
        have luf := lt_of uf
        refine call_fz [.c (roB b sp c), .c (i64 20), .c (i64 4)] (get4_spec b sp c 20 (by omega) hc (by omega)) (fun t h' h => by obtain ⟨rfl, rfl⟩ := h; exact ⟨rfl, rfl⟩) ⟨.inl ⟨rfl, rfl⟩, .inl ⟨rfl, rfl⟩, .inl ⟨rfl, rfl⟩, trivial⟩ ?_
        rintro _ _ ⟨rfl, rfl⟩
        simp (maxSteps := 4000000) only [Try.results10, uf, luf, E1.mm, m3, List.map_nil, List.append_nil, List.append_assoc, List.getElem?_append_left, List.getElem?_append_right, List.length_append, List.length_set, List.set_append_left, gset, List.getElem?_set_ne, Nat.add_sub_cancel_left, Nat.sub_self, Nat.le_refl, Nat.le_add_right, List.replicate_one, List.flatten_cons, List.flatten_nil, rep_flat, XX, Nat.reduceBEq, Nat.reduceLT, Nat.reduceAdd, Nat.reduceMul, Nat.reduceSub, Nat.reduceLeDiff, Nat.reduceEqDiff, Int.reduceToNat, Int.reduceLT, Int.reduceLE, Int.reduceAdd, Int.reduceSub, Int.reduceEq, reduceIte, Nat.reduceBNe, Int.reducePow, Nat.reducePow, Int.reduceMul, Int.reduceNeg, isB_i, isB_b, isB_y, isBv_i, isBv_b, eqCells_t, TT]
        refine call_is (address2_spec F im (im + 1 + 6) 7 72 (get4 b 20 : Nat) true _ _ m3 E1.mm (by simp) (pF9_spec _ im)) ?_
        rintro _ _ ⟨rfl, rfl⟩
        have ek : IntKind.i64.wrap 8 = 8 := by decide
        have q0 := get4_lt b 20
        have ew : IntKind.u32.wrap ((get4 b 20 : Nat) : Int) = ((get4 b 20 : Nat) : Int) := by rw [wu32] <;> omega
        simp (maxSteps := 4000000) only [Try.results10, ek, ew, XX, Nat.reduceBEq, Nat.reduceLT, Nat.reduceAdd, Nat.reduceMul, Nat.reduceSub, Nat.reduceLeDiff, Nat.reduceEqDiff, Int.reduceToNat, Int.reduceLT, Int.reduceLE, Int.reduceAdd, Int.reduceSub, Int.reduceEq, reduceIte, Nat.reduceBNe, Int.reducePow, Nat.reducePow, Int.reduceMul, Int.reduceNeg, isB_i, isB_b, isB_y, isBv_i, isBv_b, eqCells_t, TT]
        refine ⟨9 - 8, by omega, _, ⟨8, _, rfl, by omega, E1.next (M' := MB b 8) ?_, rfl⟩, .inl ⟨rfl, rfl, rfl, rfl, rfl, rfl, rfl, rfl, rfl, rfl, trivial⟩⟩
        rfl
      · simp (maxSteps := 4000000) only [Try.results10, crow, lcr, set_end, List.append_assoc, List.getElem?_append_left, List.getElem?_append_right, List.length_append, List.length_set, List.set_append_left, gset, List.getElem?_set_ne, Nat.add_sub_cancel_left, Nat.sub_self, Nat.le_refl, Nat.le_add_right, List.replicate_one, List.flatten_cons, List.flatten_nil, rep_flat, Int.cast_ofNat_Int, XX, Nat.reduceBEq, Nat.reduceLT, Nat.reduceAdd, Nat.reduceMul, Nat.reduceSub, Nat.reduceLeDiff, Nat.reduceEqDiff, Int.reduceToNat, Int.reduceLT, Int.reduceLE, Int.reduceAdd, Int.reduceSub, Int.reduceEq, reduceIte, Nat.reduceBNe, Int.reducePow, Nat.reducePow, Int.reduceMul, Int.reduceNeg, isB_i, isB_b, isB_y, isBv_i, isBv_b, eqCells_t, TT]
        have uf : (G ++ [⟨true, 66, fU (im + 1 + 7) 24⟩])[G.length]? = some ⟨true, 66, fU (im + 1 + 7) 24⟩ := by rw [List.getElem?_append_right (Nat.le_refl _), Nat.sub_self]; rfl
        have E1 := E.app [⟨true, 66, fU (im + 1 + 7) 24⟩]
        -- [(⟨true, 66, fU (im + 1 + 7) 24⟩ : SB)]
        have lG1 : (G ++ [(⟨true, 66, fU (im + 1 + 7) 24⟩ : SB)]).length = G.length + 1 := by simp
        have kG : ∀ k, k < G.length → (G ++ [(⟨true, 66, fU (im + 1 + 7) 24⟩ : SB)])[k]? = G[k]? := fun k hk => List.getElem?_append_left hk
        generalize G ++ [(⟨true, 66, fU (im + 1 + 7) 24⟩ : SB)] = F at *
        generalize hwf : G.length = wf at *
        have m3 := E1.bx 7 _ rfl
        have lm2 := lt_of E1.mm
        have luf := lt_of uf
        refine call_fz [.c (roB b sp c), .c (i64 24), .c (i64 4)] (get4_spec b sp c 24 (by omega) hc (by omega)) (fun t h' h => by obtain ⟨rfl, rfl⟩ := h; exact ⟨rfl, rfl⟩) ⟨.inl ⟨rfl, rfl⟩, .inl ⟨rfl, rfl⟩, .inl ⟨rfl, rfl⟩, trivial⟩ ?_
        rintro _ _ ⟨rfl, rfl⟩
        simp (maxSteps := 4000000) only [Try.results10, uf, luf, E1.mm, m3, List.map_nil, List.append_nil, List.append_assoc, List.getElem?_append_left, List.getElem?_append_right, List.length_append, List.length_set, List.set_append_left, gset, List.getElem?_set_ne, Nat.add_sub_cancel_left, Nat.sub_self, Nat.le_refl, Nat.le_add_right, List.replicate_one, List.flatten_cons, List.flatten_nil, rep_flat, XX, Nat.reduceBEq, Nat.reduceLT, Nat.reduceAdd, Nat.reduceMul, Nat.reduceSub, Nat.reduceLeDiff, Nat.reduceEqDiff, Int.reduceToNat, Int.reduceLT, Int.reduceLE, Int.reduceAdd, Int.reduceSub, Int.reduceEq, reduceIte, Nat.reduceBNe, Int.reducePow, Nat.reducePow, Int.reduceMul, Int.reduceNeg, isB_i, isB_b, isB_y, isBv_i, isBv_b, eqCells_t, TT]
        refine call_is (address2_spec F im (im + 1 + 7) 8 73 (get4 b 24 : Nat) true _ _ m3 E1.mm (by simp) (pF10_spec _ im)) ?_
        rintro _ _ ⟨rfl, rfl⟩
        have ek : IntKind.i64.wrap 9 = 9 := by decide
        have q0 := get4_lt b 24
        have ew : IntKind.u32.wrap ((get4 b 24 : Nat) : Int) = ((get4 b 24 : Nat) : Int) := by rw [wu32] <;> omega
        simp (maxSteps := 4000000) only [Try.results10, ek, ew, XX, Nat.reduceBEq, Nat.reduceLT, Nat.reduceAdd, Nat.reduceMul, Nat.reduceSub, Nat.reduceLeDiff, Nat.reduceEqDiff, Int.reduceToNat, Int.reduceLT, Int.reduceLE, Int.reduceAdd, Int.reduceSub, Int.reduceEq, reduceIte, Nat.reduceBNe, Int.reducePow, Nat.reducePow, Int.reduceMul, Int.reduceNeg, isB_i, isB_b, isB_y, isBv_i, isBv_b, eqCells_t, TT]
        refine ⟨9 - 9, by omega, _, ⟨9, _, rfl, by omega, E1.next (M' := MB b 9) ?_, rfl⟩, .inl ⟨rfl, rfl, rfl, rfl, rfl, rfl, rfl, rfl, rfl, rfl, trivial⟩⟩
        rfl
    obtain rfl : i = 9 := by omega
    obtain ⟨R28, i28⟩ := drop6 (b := b) (sp := sp) (k := 28) (by omega)
    have m28 : min (b.length - 28) 6 = 6 := by omega
    have cm := E.mm
    have lcm := lt_of cm
    have ht6 : List.take 6 (List.map RC.toSC (List.take (b.length - 28) (byteR (b.getD 28 0) :: byteR (b.getD (28 + 1) 0) :: byteR (b.getD (28 + 2) 0) :: byteR (b.getD (28 + 3) 0) :: byteR (b.getD (28 + 4) 0) :: byteR (b.getD (28 + 5) 0) :: R28))) = [byteC (b.getD 28 0), byteC (b.getD 29 0), byteC (b.getD 30 0), byteC (b.getD 31 0), byteC (b.getD 32 0), byteC (b.getD 33 0)] := by
      obtain ⟨n, hn⟩ : ∃ n, b.length - 28 = n + 6 := ⟨b.length - 34, by omega⟩
      rw [hn]
      simp only [List.take_succ_cons, List.map_cons, byteR_sc, List.take_zero]; rfl
    simp only [Nat.reduceAdd] at i28 ht6
    simp (maxSteps := 4000000) only [Try.results10, Int.cast_ofNat_Int, cm, lcm, i28, XX, Nat.reduceBEq, Nat.reduceLT, Nat.reduceAdd, Nat.reduceMul, Nat.reduceSub, Nat.reduceLeDiff, Nat.reduceEqDiff, Int.reduceToNat, Int.reduceLT, Int.reduceLE, Int.reduceAdd, Int.reduceSub, Int.reduceEq, reduceIte, Nat.reduceBNe, Int.reducePow, Nat.reducePow, Int.reduceMul, Int.reduceNeg, isB_i, isB_b, isB_y, isBv_i, isBv_b, eqCells_t, TT]
    refine draw_of cx_ok (by kernel_rfl) 400 [] [(0, true), (1, true), (2, true), (3, true), (4, false)] (by kernel_rfl) (by first | exact hok | simp [*]) ?_
    simp (maxSteps := 4000000) only [Try.results10, cm, lcm, i28, m28, ht6, t240, e240, maskL_nil, unL_nil, List.length_cons, List.length_nil, List.cons_append, List.nil_append, List.drop_succ_cons, List.drop_zero, Nat.reduceAdd, List.append_assoc, List.getElem?_append_left, List.getElem?_append_right, List.length_append, List.length_set, List.set_append_left, gset, List.getElem?_set_ne, Nat.add_sub_cancel_left, Nat.sub_self, Nat.le_refl, Nat.le_add_right, List.replicate_one, List.flatten_cons, List.flatten_nil, rep_flat, XX, Nat.reduceBEq, Nat.reduceLT, Nat.reduceAdd, Nat.reduceMul, Nat.reduceSub, Nat.reduceLeDiff, Nat.reduceEqDiff, Int.reduceToNat, Int.reduceLT, Int.reduceLE, Int.reduceAdd, Int.reduceSub, Int.reduceEq, reduceIte, Nat.reduceBNe, Int.reducePow, Nat.reducePow, Int.reduceMul, Int.reduceNeg, isB_i, isB_b, isB_y, isBv_i, isBv_b, eqCells_t, TT]
    have lR := congrArg List.length i28
    simp only [List.length_drop, rs_len, List.length_append, List.length_cons] at lR
    refine ⟨⟨by omega, by omega, by omega⟩, by omega, ⟨by omega, by omega, by omega⟩, ?_⟩
    obtain ⟨pp, hpp2⟩ : ∃ pp, pp = G.length := ⟨_, rfl⟩
    have ipp : im < pp := by omega
    obtain ⟨M0, hM0⟩ : ∃ M0 : BM, M0 = { MB b 9 with mac := macAt b } := ⟨_, rfl⟩
    have E0 := (E.next (M' := M0) (C := boC M0 nilS) rfl).app [(⟨true, 22, [.ro (bsR (b.drop 240 ++ sp)) (b.drop 240).length (c - 240)]⟩ : SB)]
    have F0 : DecF (G.set im ⟨true, 29, boC M0 nilS⟩ ++ [(⟨true, 22, [.ro (bsR (b.drop 240 ++ sp)) (b.drop 240).length (c - 240)]⟩ : SB)]) im pp M0 [.ro (bsR (b.drop 240 ++ sp)) (b.drop 240).length (c - 240)] := ⟨E0.pos, E0.c0, E0.c1, E0.mm, ipp, by rw [hpp2, List.getElem?_append_right (by simp), List.length_set, Nat.sub_self]; rfl⟩
    rw [← hpp2]
    rw [show ([i64 (MB b 9).op, i64 (MB b 9).hops, i32 (MB b 9).xid, i64 (MB b 9).secs, bC (MB b 9).all, i32 (MB b 9).ci, i32 (MB b 9).yi, i32 (MB b 9).si, i32 (MB b 9).gi, byteC (b.getD 28 0), byteC (b.getD 29 0), byteC (b.getD 30 0), byteC (b.getD 31 0), byteC (b.getD 32 0), byteC (b.getD 33 0), strB (MB b 9).sname, strB (MB b 9).file, nilS] : List SC) = boC M0 nilS by rw [hM0]; rfl]
    refine gen_hpB (fun G => DecF G im pp M0 [.ro (bsR (b.drop 240 ++ sp)) (b.drop 240).length (c - 240)]) F0 ?_
    clear E E0 F0 cm lcm hpp2 lR ht6 i28
    rintro G E
    have r108 := row_n (b := b) (sp := sp) (k := 108) (n := 128) (by omega)
    have r44 := row_n (b := b) (sp := sp) (k := 44) (n := 64) (by omega)
    have l108 : ((b.drop 108).take 128).length = 128 := by rw [List.length_take, List.length_drop]; omega
    have l44 : ((b.drop 44).take 64).length = 64 := by rw [List.length_take, List.length_drop]; omega
    have a1 : decide (bitI BinOp.and .i64 0 1 = 0) = true := by decide
    have a2 : decide (bitI BinOp.and .i64 0 2 = 0) = true := by decide
    obtain ⟨FL, hFL⟩ : ∃ FL, FL = (b.drop 108).take 128 := ⟨_, rfl⟩
    obtain ⟨SN, hSN⟩ : ∃ SN, SN = (b.drop 44).take 64 := ⟨_, rfl⟩
    rw [← hFL] at r108 l108
    rw [← hSN] at r44 l44
    obtain ⟨P2, hP2⟩ : ∃ P2, P2 = b.drop 240 := ⟨_, rfl⟩
    rw [← hP2] at E e240
    generalize b.drop (108 + 128) ++ sp = S1 at *
    generalize b.drop (44 + 64) ++ sp = S2 at *
    have gm := E.mm
    have lgm := lt_of gm
    have gp := E.pt
    have lgp := lt_of gp
    simp (maxSteps := 4000000) only [Try.results10, a1, gm, lgm, gp, lgp, r108, List.length_cons, List.length_nil, List.append_assoc, List.getElem?_append_left, List.getElem?_append_right, List.length_append, List.length_set, List.set_append_left, gset, List.getElem?_set_ne, Nat.add_sub_cancel_left, Nat.sub_self, Nat.le_refl, Nat.le_add_right, List.replicate_one, List.flatten_cons, List.flatten_nil, rep_flat, XX, Nat.reduceBEq, Nat.reduceLT, Nat.reduceAdd, Nat.reduceMul, Nat.reduceSub, Nat.reduceLeDiff, Nat.reduceEqDiff, Int.reduceToNat, Int.reduceLT, Int.reduceLE, Int.reduceAdd, Int.reduceSub, Int.reduceEq, reduceIte, Nat.reduceBNe, Int.reducePow, Nat.reducePow, Int.reduceMul, Int.reduceNeg, isB_i, isB_b, isB_y, isBv_i, isBv_b, eqCells_t, TT]
    refine ⟨by omega, ?_⟩
    refine call_pureF [.c (.ro (bsR (FL ++ S1)) 128 (c - 108))] (btext_n FL S1 (c - 108) 128 l108 (by omega) (by omega)) ⟨.inl ⟨rfl, rfl⟩, trivial⟩ ?_
    rintro _ rfl
    simp (maxSteps := 4000000) only [Try.results10, gm, lgm, XX, Nat.reduceBEq, Nat.reduceLT, Nat.reduceAdd, Nat.reduceMul, Nat.reduceSub, Nat.reduceLeDiff, Nat.reduceEqDiff, Int.reduceToNat, Int.reduceLT, Int.reduceLE, Int.reduceAdd, Int.reduceSub, Int.reduceEq, reduceIte, Nat.reduceBNe, Int.reducePow, Nat.reducePow, Int.reduceMul, Int.reduceNeg, isB_i, isB_b, isB_y, isBv_i, isBv_b, eqCells_t, TT]
    refine gen_hpB (fun G => DecF G im pp { M0 with file := textF FL } (.ro (bsR (P2 ++ sp)) P2.length (c - 240) :: [])) (E.next (M' := { M0 with file := textF FL }) rfl) ?_
    clear E gm lgm gp lgp
    rintro G E
    obtain ⟨M1, hM1⟩ : ∃ X : BM, X = { M0 with file := textF FL } := ⟨_, rfl⟩
    rw [← hM1] at E
    have gm := E.mm
    have lgm := lt_of gm
    have gp := E.pt
    have lgp := lt_of gp
    simp (maxSteps := 4000000) only [Try.results10, a2, gm, lgm, gp, lgp, r44, List.length_cons, List.length_nil, List.append_assoc, List.getElem?_append_left, List.getElem?_append_right, List.length_append, List.length_set, List.set_append_left, gset, List.getElem?_set_ne, Nat.add_sub_cancel_left, Nat.sub_self, Nat.le_refl, Nat.le_add_right, List.replicate_one, List.flatten_cons, List.flatten_nil, rep_flat, XX, Nat.reduceBEq, Nat.reduceLT, Nat.reduceAdd, Nat.reduceMul, Nat.reduceSub, Nat.reduceLeDiff, Nat.reduceEqDiff, Int.reduceToNat, Int.reduceLT, Int.reduceLE, Int.reduceAdd, Int.reduceSub, Int.reduceEq, reduceIte, Nat.reduceBNe, Int.reducePow, Nat.reducePow, Int.reduceMul, Int.reduceNeg, isB_i, isB_b, isB_y, isBv_i, isBv_b, eqCells_t, TT]
    refine ⟨by omega, ?_⟩
    refine call_pureF [.c (.ro (bsR (SN ++ S2)) 64 (c - 44))] (btext_n SN S2 (c - 44) 64 l44 (by omega) (by omega)) ⟨.inl ⟨rfl, rfl⟩, trivial⟩ ?_
    rintro _ rfl
    simp (maxSteps := 4000000) only [Try.results10, gm, lgm, XX, Nat.reduceBEq, Nat.reduceLT, Nat.reduceAdd, Nat.reduceMul, Nat.reduceSub, Nat.reduceLeDiff, Nat.reduceEqDiff, Int.reduceToNat, Int.reduceLT, Int.reduceLE, Int.reduceAdd, Int.reduceSub, Int.reduceEq, reduceIte, Nat.reduceBNe, Int.reducePow, Nat.reducePow, Int.reduceMul, Int.reduceNeg, isB_i, isB_b, isB_y, isBv_i, isBv_b, eqCells_t, TT]
    refine gen_hp (fun G => DecF G im pp { M1 with sname := textF SN } (.ro (bsR (P2 ++ sp)) P2.length (c - 240) :: [])) (E.next (M' := { M1 with sname := textF SN }) rfl) ?_
    clear E gm lgm gp lgp
    rintro G E
    obtain ⟨M2, hM2⟩ : ∃ X : BM, X = { M1 with sname := textF SN } := ⟨_, rfl⟩
    rw [← hM2] at E
    have gm := E.mm
    have lgm := lt_of gm
    have gp := E.pt
    have lgp := lt_of gp
    have c0 := E.c0
    have c1 := E.c1
    have lc0 := lt_of c0
    have lc1 := lt_of c1
    have ipos := E.pos
    have hpk : partsK b 0 = [P2] := by rw [hP2]; rfl
    have q2 := parse_spec [(P2, sp, c - 240)] [] 1 (by intro p hp; simp only [List.mem_cons, List.not_mem_nil, or_false] at hp; rcases hp with rfl <;> exact ⟨by dsimp only; omega, by dsimp only; omega⟩) (by simp) (by simp [lenP]; omega)
    rw [show bytesP [(P2, sp, c - 240)] = [P2] from rfl, ← hpk] at q2
    refine call_opts [.c (partsV [(P2, sp, c - 240)] [] 1)] q2 ⟨fzO_rows gp rfl ⟨frO_ro, trivial⟩, trivial⟩ ?_
    rintro t2 o2 es2 r2 O2 hw2 hpi2
    have G0 : (G ++ t2)[0]? = some ⟨true, 29, boC BM.zero nilS⟩ := (List.getElem?_append_left lc0).trans c0
    have G1 : (G ++ t2)[1]? = some ⟨true, 29, boC BM.zero nilS⟩ := (List.getElem?_append_left lc1).trans c1
    have Gm : (G ++ t2)[im]? = some ⟨true, 29, boC M2 nilS⟩ := (List.getElem?_append_left lgm).trans gm
    refine gen_hp (fun K => K[0]? = some ⟨true, 29, boC BM.zero nilS⟩ ∧ K[1]? = some ⟨true, 29, boC BM.zero nilS⟩ ∧ K[im]? = some ⟨true, 29, boC M2 nilS⟩ ∧ Opts K G.length o2 es2 r2) ⟨G0, G1, Gm, O2⟩ ?_
    rintro K2 ⟨z0, z1, zm, O3⟩
    have lz0 := lt_of z0
    have lz1 := lt_of z1
    have lzm := lt_of zm
    obtain ⟨iR, hiR⟩ : ∃ iR, iR = G.length := ⟨_, rfl⟩
    rw [← hiR] at O3 ⊢
    have iRm : im < iR := by omega
    cases hx2 : parseA (partsK b 0) [] with
    | error e =>
      obtain rfl : es2 = [] := List.map_eq_nil_iff.1 (by rw [hpi2, hx2]; rfl)
      have de : decide (e = 0) = false := by rcases parseA_err _ _ _ hx2 with rfl | rfl <;> rfl
      simp (maxSteps := 4000000) only [Try.results10, parE, de, List.length_nil, z0, z1, lz0, lz1, List.append_assoc, List.getElem?_append_left, List.getElem?_append_right, List.length_append, List.length_set, List.set_append_left, gset, List.getElem?_set_ne, Nat.add_sub_cancel_left, Nat.sub_self, Nat.le_refl, Nat.le_add_right, List.replicate_one, List.flatten_cons, List.flatten_nil, rep_flat, XX, Nat.reduceBEq, Nat.reduceLT, Nat.reduceAdd, Nat.reduceMul, Nat.reduceSub, Nat.reduceLeDiff, Nat.reduceEqDiff, Int.reduceToNat, Int.reduceLT, Int.reduceLE, Int.reduceAdd, Int.reduceSub, Int.reduceEq, reduceIte, Nat.reduceBNe, Int.reducePow, Nat.reducePow, Int.reduceMul, Int.reduceNeg, isB_i, isB_b, isB_y, isBv_i, isBv_b, eqCells_t, TT]
      exact .inl ⟨rfl, rfl⟩
    | ok is2 =>
      rw [hx2] at hpi2
      dsimp only
      obtain ⟨⟨_, _, ln2⟩, _⟩ := parseA_good _ _ _ goodP_nil hx2
      have hpi3 : es2.map PE.pi = is2 := hpi2
      rw [← hpi3, List.length_map] at ln2
      simp (maxSteps := 4000000) only [Try.results10, parE, decide_true, XX, Nat.reduceBEq, Nat.reduceLT, Nat.reduceAdd, Nat.reduceMul, Nat.reduceSub, Nat.reduceLeDiff, Nat.reduceEqDiff, Int.reduceToNat, Int.reduceLT, Int.reduceLE, Int.reduceAdd, Int.reduceSub, Int.reduceEq, reduceIte, Nat.reduceBNe, Int.reducePow, Nat.reducePow, Int.reduceMul, Int.reduceNeg, isB_i, isB_b, isB_y, isBv_i, isBv_b, eqCells_t, TT]
      refine call_is (delete_spec K2 iR o2 es2 r2 O3 ln2) ?_
      rintro _ H9 ⟨rfl, hr9, hl9, hk9⟩
      have O9 := opts_del O3 hr9 hk9
      have y0 := (hk9 0 lz0 (by omega)).trans z0
      have ym := (hk9 im lzm (by omega)).trans zm
      have ly0 := lt_of y0
      have lym := lt_of ym
      have dl := delO_len es2
      have eR : es2.length + r2 = (delO es2).length + (r2 + (es2.length - (delO es2).length)) := by omega
      rw [eR]
      have gs0 : ∀ X, (H9.set im X)[0]? = some ⟨true, 29, boC BM.zero nilS⟩ := fun X => by rw [List.getElem?_set_ne (by omega)]; exact y0
      simp (maxSteps := 4000000) only [Try.results10, y0, ym, ly0, lym, gs0, List.append_assoc, List.getElem?_append_left, List.getElem?_append_right, List.length_append, List.length_set, List.set_append_left, gset, List.getElem?_set_ne, Nat.add_sub_cancel_left, Nat.sub_self, Nat.le_refl, Nat.le_add_right, List.replicate_one, List.flatten_cons, List.flatten_nil, rep_flat, XX, Nat.reduceBEq, Nat.reduceLT, Nat.reduceAdd, Nat.reduceMul, Nat.reduceSub, Nat.reduceLeDiff, Nat.reduceEqDiff, Int.reduceToNat, Int.reduceLT, Int.reduceLE, Int.reduceAdd, Int.reduceSub, Int.reduceEq, reduceIte, Nat.reduceBNe, Int.reducePow, Nat.reducePow, Int.reduceMul, Int.reduceNeg, isB_i, isB_b, isB_y, isBv_i, isBv_b, eqCells_t, TT]
      have ym0 : (H9.set im ⟨true, 29, boC M2 (.sl iR 0 (delO es2).length ((delO es2).length + (r2 + (es2.length - (delO es2).length))))⟩)[0]? = some ⟨true, 29, boC BM.zero nilS⟩ := by rw [List.getElem?_set_ne (by omega)]; exact y0
      have hMd : M2 = decM b 0 := by
        rw [hM2, hM1, hM0, hFL, hSN]; rfl
      rw [← hMd]
      exact .inr ⟨iR, o2, delO es2, _, rfl, opts_set (opts_set O9 ym (fun h => absurd (show (29 : Nat) = 74 from h) (by decide)) (fun h => absurd (show (29 : Nat) = 5 from h) (by decide))) ym0 (fun h => absurd (show (29 : Nat) = 74 from h) (by decide)) (fun h => absurd (show (29 : Nat) = 5 from h) (by decide)), by rw [delO_pi, hpi3]⟩
  | true =>
    rw [both_some g5 hso]
    generalize findD (es.map PE.oi) 52 = d at *
    by_cases hd1 : d.length = 1
    · obtain ⟨x, rfl⟩ := List.length_eq_one_iff.1 hd1
      have hD : K[H.length]? = some ⟨od, 5, .v (.int .u8 x.toNat) :: bsC zd⟩ := hD
      have qx := x.toNat_lt
      by_cases hx3 : 1 ≤ x.toNat ∧ x.toNat ≤ 3
      · have hb1 : (decide ((x.toNat : Int) < 1) || decide (3 < (x.toNat : Int))) = false := by simp; omega
        rw [if_pos ⟨rfl, hx3⟩]
        dsimp only
        have wx : IntKind.i64.wrap (x.toNat : Int) = (x.toNat : Int) := by rw [w64] <;> omega
        simp (maxSteps := 4000000) only [Try.results10, hD, lD, List.length_cons, List.length_nil, hb1, wx, XX, Nat.reduceBEq, Nat.reduceLT, Nat.reduceAdd, Nat.reduceMul, Nat.reduceSub, Nat.reduceLeDiff, Nat.reduceEqDiff, Int.reduceToNat, Int.reduceLT, Int.reduceLE, Int.reduceAdd, Int.reduceSub, Int.reduceEq, reduceIte, Nat.reduceBNe, Int.reducePow, Nat.reducePow, Int.reduceMul, Int.reduceNeg, isB_i, isB_b, isB_y, isBv_i, isBv_b, eqCells_t, TT]
        refine ⟨by simp, fun _ => by simp, by simp, ?_⟩
        clear wx hb1 hD lD hd1
        generalize x.toNat = k at *
        have E00 : (K ++ [(⟨true, 29, boC BM.zero nilS⟩ : SB)])[0]? = some ⟨true, 29, boC BM.zero nilS⟩ := (List.getElem?_append_left (by omega)).trans k0
        have E01 : (K ++ [(⟨true, 29, boC BM.zero nilS⟩ : SB)])[1]? = some ⟨true, 29, boC BM.zero nilS⟩ := (List.getElem?_append_left (by omega)).trans k1
        refine gen_hp (fun K' => K' = K ++ [⟨true, 29, boC BM.zero nilS⟩]) rfl ?_
        rintro _ rfl
        refine call_fz [] fields_spec (fun t h' h => by obtain ⟨rfl, rfl⟩ := h; exact ⟨rfl, rfl⟩) trivial ?_
        rintro _ _ ⟨rfl, rfl⟩
        obtain ⟨im, him⟩ : ∃ im, im = K.length := ⟨_, rfl⟩
        have lK1 : (K ++ [(⟨true, 29, boC BM.zero nilS⟩ : SB)]).length = im + 1 := by rw [him]; simp
        rw [lK1, ← him]
        have E0 : DecS (K ++ [(⟨true, 29, boC BM.zero nilS⟩ : SB)] ++ (boxesL ++ [rowF 0]).map (SB.ren (renF [] (im + 1)))) im (MB b 0) := by
          refine ⟨by omega, (List.getElem?_append_left (by omega)).trans E00, (List.getElem?_append_left (by omega)).trans E01, ?_, fun j x hx => ?_, ?_⟩
          · rw [List.getElem?_append_left (by omega), List.getElem?_append_right (by omega), him, Nat.sub_self]; rfl
          · rw [List.getElem?_append_right (by omega), lK1, Nat.add_sub_cancel_left]
            match j, hx with
            | 0, hx => cases hx; rfl
            | 1, hx => cases hx; rfl
            | 2, hx => cases hx; rfl
            | 3, hx => cases hx; rfl
            | 4, hx => cases hx; rfl
            | 5, hx => cases hx; rfl
            | 6, hx => cases hx; rfl
            | 7, hx => cases hx; rfl
          · rw [List.getElem?_append_right (by omega), lK1, show im + 9 - (im + 1) = 8 by omega]; rfl
        refine gen_hp (fun G => DecS G im (MB b 0)) E0 ?_
        clear E0
        rintro G E0
        simp (maxSteps := 4000000) only [Try.results10, ids_bsC, ren_bsC, noRo_bsC, plain_bsC, lt_bsC, ids_byte, ren_byte, noRo_byte, plain_byte, lt_byte, XX, Nat.reduceBEq, Nat.reduceLT, Nat.reduceAdd, Nat.reduceMul, Nat.reduceSub, Nat.reduceLeDiff, Nat.reduceEqDiff, Int.reduceToNat, Int.reduceLT, Int.reduceLE, Int.reduceAdd, Int.reduceSub, Int.reduceEq, reduceIte, Nat.reduceBNe, Int.reducePow, Nat.reducePow, Int.reduceMul, Int.reduceNeg, isB_i, isB_b, isB_y, isBv_i, isBv_b, eqCells_t, TT]
        refine loop_any cx_ok 400 (fun μ σ => ∃ (i : Nat) (G : List SB), μ = 9 - i ∧ i ≤ 9 ∧ DecS G im (MB b i) ∧ σ = ⟨⟨92, 0⟩, [(0, .c (roB b sp c)), (2, .c (.ptr 0 0)), (4, .c (.ptr 1 0)), (7, .c (i64 (k : Nat))), (10, .c (.ptr im 0)), (89, .c (.sl (im + 9) 0 9 9)), (90, .c (i64 9)), (91, .c (i64 i))], G⟩) 9
          ⟨⟨92, 0⟩, [(0, .c (roB b sp c)), (2, .c (.ptr 0 0)), (4, .c (.ptr 1 0)), (7, .c (i64 (k : Nat))), (10, .c (.ptr im 0)), (89, .c (.sl (im + 9) 0 9 9)), (90, .c (i64 9)), (91, .c (i64 (0 : Nat)))], G⟩ ⟨0, G, rfl, by omega, E0, rfl⟩ (.inl ⟨rfl, rfl, rfl, rfl, rfl, rfl, rfl, rfl, rfl, rfl, trivial⟩) ?_
        clear E0
        rintro μ σ ⟨i, G, rfl, hi, E, rfl⟩
        by_cases hlt : i < 9
        · have cc0 := E.c0
          have lc0 := lt_of cc0
          have cm := E.mm
          have lcm := lt_of cm
          have crow := E.row
          have lcr := lt_of crow
          simp only [rowF, fieldsR, fI, fU, List.cons_append, List.nil_append] at crow
          rcases (by omega : i = 0 ∨ i = 1 ∨ i = 2 ∨ i = 3 ∨ i = 4 ∨ i = 5 ∨ i = 6 ∨ i = 7 ∨ i = 8) with rfl | rfl | rfl | rfl | rfl | rfl | rfl | rfl | rfl
          · simp (maxSteps := 4000000) only [Try.results10, crow, lcr, set_end, List.append_assoc, List.getElem?_append_left, List.getElem?_append_right, List.length_append, List.length_set, List.set_append_left, gset, List.getElem?_set_ne, Nat.add_sub_cancel_left, Nat.sub_self, Nat.le_refl, Nat.le_add_right, List.replicate_one, List.flatten_cons, List.flatten_nil, rep_flat, Int.cast_ofNat_Int, XX, Nat.reduceBEq, Nat.reduceLT, Nat.reduceAdd, Nat.reduceMul, Nat.reduceSub, Nat.reduceLeDiff, Nat.reduceEqDiff, Int.reduceToNat, Int.reduceLT, Int.reduceLE, Int.reduceAdd, Int.reduceSub, Int.reduceEq, reduceIte, Nat.reduceBNe, Int.reducePow, Nat.reducePow, Int.reduceMul, Int.reduceNeg, isB_i, isB_b, isB_y, isBv_i, isBv_b, eqCells_t, TT]
            have uf : (G ++ [⟨true, 66, fI (im + 1 + 0) 0 1⟩])[G.length]? = some ⟨true, 66, fI (im + 1 + 0) 0 1⟩ := by rw [List.getElem?_append_right (Nat.le_refl _), Nat.sub_self]; rfl
            have E1 := E.app [⟨true, 66, fI (im + 1 + 0) 0 1⟩]
            -- [(⟨true, 66, fI (im + 1 + 0) 0 1⟩ : SB)]
            have lG1 : (G ++ [(⟨true, 66, fI (im + 1 + 0) 0 1⟩ : SB)]).length = G.length + 1 := by simp
            have kG : ∀ k, k < G.length → (G ++ [(⟨true, 66, fI (im + 1 + 0) 0 1⟩ : SB)])[k]? = G[k]? := fun k hk => List.getElem?_append_left hk
            generalize G ++ [(⟨true, 66, fI (im + 1 + 0) 0 1⟩ : SB)] = F at *
            generalize hwf : G.length = wf at *
            have m3 := E1.bx 0 _ rfl
            have lm2 := lt_of E1.mm
            have luf := lt_of uf
            refine call_fz [.c (roB b sp c), .c (i64 0), .c (i64 1)] (get1_spec b sp c 0 (by omega) hc (by omega)) (fun t h' h => by obtain ⟨rfl, rfl⟩ := h; exact ⟨rfl, rfl⟩) ⟨.inl ⟨rfl, rfl⟩, .inl ⟨rfl, rfl⟩, .inl ⟨rfl, rfl⟩, trivial⟩ ?_
            rintro _ _ ⟨rfl, rfl⟩
            simp (maxSteps := 4000000) only [Try.results10, uf, luf, E1.mm, m3, List.map_nil, List.append_nil, List.append_assoc, List.getElem?_append_left, List.getElem?_append_right, List.length_append, List.length_set, List.set_append_left, gset, List.getElem?_set_ne, Nat.add_sub_cancel_left, Nat.sub_self, Nat.le_refl, Nat.le_add_right, List.replicate_one, List.flatten_cons, List.flatten_nil, rep_flat, XX, Nat.reduceBEq, Nat.reduceLT, Nat.reduceAdd, Nat.reduceMul, Nat.reduceSub, Nat.reduceLeDiff, Nat.reduceEqDiff, Int.reduceToNat, Int.reduceLT, Int.reduceLE, Int.reduceAdd, Int.reduceSub, Int.reduceEq, reduceIte, Nat.reduceBNe, Int.reducePow, Nat.reducePow, Int.reduceMul, Int.reduceNeg, isB_i, isB_b, isB_y, isBv_i, isBv_b, eqCells_t, TT]
            refine call_is (small2_spec F im (im + 1 + 0) 0 63 ((b.getD 0 0).toNat : Nat) true _ _ m3 E1.mm (by simp) (pF1_spec _ im)) ?_
            rintro _ _ ⟨rfl, rfl⟩
            have ek : IntKind.i64.wrap 1 = 1 := by decide
            have q0 := (b.getD 0 0).toNat_lt
            have ew : IntKind.i64.wrap (((b.getD 0 0).toNat : Nat) : Int) = (((b.getD 0 0).toNat : Nat) : Int) := by rw [w64] <;> omega
            simp (maxSteps := 4000000) only [Try.results10, ek, ew, XX, Nat.reduceBEq, Nat.reduceLT, Nat.reduceAdd, Nat.reduceMul, Nat.reduceSub, Nat.reduceLeDiff, Nat.reduceEqDiff, Int.reduceToNat, Int.reduceLT, Int.reduceLE, Int.reduceAdd, Int.reduceSub, Int.reduceEq, reduceIte, Nat.reduceBNe, Int.reducePow, Nat.reducePow, Int.reduceMul, Int.reduceNeg, isB_i, isB_b, isB_y, isBv_i, isBv_b, eqCells_t, TT]
            refine ⟨9 - 1, by omega, _, ⟨1, _, rfl, by omega, E1.next (M' := MB b 1) ?_, rfl⟩, .inl ⟨rfl, rfl, rfl, rfl, rfl, rfl, rfl, rfl, rfl, rfl, trivial⟩⟩
            rfl
          · simp (maxSteps := 4000000) only [Try.results10, crow, lcr, set_end, List.append_assoc, List.getElem?_append_left, List.getElem?_append_right, List.length_append, List.length_set, List.set_append_left, gset, List.getElem?_set_ne, Nat.add_sub_cancel_left, Nat.sub_self, Nat.le_refl, Nat.le_add_right, List.replicate_one, List.flatten_cons, List.flatten_nil, rep_flat, Int.cast_ofNat_Int, XX, Nat.reduceBEq, Nat.reduceLT, Nat.reduceAdd, Nat.reduceMul, Nat.reduceSub, Nat.reduceLeDiff, Nat.reduceEqDiff, Int.reduceToNat, Int.reduceLT, Int.reduceLE, Int.reduceAdd, Int.reduceSub, Int.reduceEq, reduceIte, Nat.reduceBNe, Int.reducePow, Nat.reducePow, Int.reduceMul, Int.reduceNeg, isB_i, isB_b, isB_y, isBv_i, isBv_b, eqCells_t, TT]
            have uf : (G ++ [⟨true, 66, fI (im + 1 + 1) 3 1⟩])[G.length]? = some ⟨true, 66, fI (im + 1 + 1) 3 1⟩ := by rw [List.getElem?_append_right (Nat.le_refl _), Nat.sub_self]; rfl
            have E1 := E.app [⟨true, 66, fI (im + 1 + 1) 3 1⟩]
            -- [(⟨true, 66, fI (im + 1 + 1) 3 1⟩ : SB)]
            have lG1 : (G ++ [(⟨true, 66, fI (im + 1 + 1) 3 1⟩ : SB)]).length = G.length + 1 := by simp
            have kG : ∀ k, k < G.length → (G ++ [(⟨true, 66, fI (im + 1 + 1) 3 1⟩ : SB)])[k]? = G[k]? := fun k hk => List.getElem?_append_left hk
            generalize G ++ [(⟨true, 66, fI (im + 1 + 1) 3 1⟩ : SB)] = F at *
            generalize hwf : G.length = wf at *
            have m3 := E1.bx 1 _ rfl
            have lm2 := lt_of E1.mm
            have luf := lt_of uf
            refine call_fz [.c (roB b sp c), .c (i64 3), .c (i64 1)] (get1_spec b sp c 3 (by omega) hc (by omega)) (fun t h' h => by obtain ⟨rfl, rfl⟩ := h; exact ⟨rfl, rfl⟩) ⟨.inl ⟨rfl, rfl⟩, .inl ⟨rfl, rfl⟩, .inl ⟨rfl, rfl⟩, trivial⟩ ?_
            rintro _ _ ⟨rfl, rfl⟩
            simp (maxSteps := 4000000) only [Try.results10, uf, luf, E1.mm, m3, List.map_nil, List.append_nil, List.append_assoc, List.getElem?_append_left, List.getElem?_append_right, List.length_append, List.length_set, List.set_append_left, gset, List.getElem?_set_ne, Nat.add_sub_cancel_left, Nat.sub_self, Nat.le_refl, Nat.le_add_right, List.replicate_one, List.flatten_cons, List.flatten_nil, rep_flat, XX, Nat.reduceBEq, Nat.reduceLT, Nat.reduceAdd, Nat.reduceMul, Nat.reduceSub, Nat.reduceLeDiff, Nat.reduceEqDiff, Int.reduceToNat, Int.reduceLT, Int.reduceLE, Int.reduceAdd, Int.reduceSub, Int.reduceEq, reduceIte, Nat.reduceBNe, Int.reducePow, Nat.reducePow, Int.reduceMul, Int.reduceNeg, isB_i, isB_b, isB_y, isBv_i, isBv_b, eqCells_t, TT]
            refine call_is (small2_spec F im (im + 1 + 1) 1 64 ((b.getD 3 0).toNat : Nat) true _ _ m3 E1.mm (by simp) (pF2_spec _ im)) ?_
            rintro _ _ ⟨rfl, rfl⟩
            have ek : IntKind.i64.wrap 2 = 2 := by decide
            have q0 := (b.getD 3 0).toNat_lt
            have ew : IntKind.i64.wrap (((b.getD 3 0).toNat : Nat) : Int) = (((b.getD 3 0).toNat : Nat) : Int) := by rw [w64] <;> omega
            simp (maxSteps := 4000000) only [Try.results10, ek, ew, XX, Nat.reduceBEq, Nat.reduceLT, Nat.reduceAdd, Nat.reduceMul, Nat.reduceSub, Nat.reduceLeDiff, Nat.reduceEqDiff, Int.reduceToNat, Int.reduceLT, Int.reduceLE, Int.reduceAdd, Int.reduceSub, Int.reduceEq, reduceIte, Nat.reduceBNe, Int.reducePow, Nat.reducePow, Int.reduceMul, Int.reduceNeg, isB_i, isB_b, isB_y, isBv_i, isBv_b, eqCells_t, TT]
            refine ⟨9 - 2, by omega, _, ⟨2, _, rfl, by omega, E1.next (M' := MB b 2) ?_, rfl⟩, .inl ⟨rfl, rfl, rfl, rfl, rfl, rfl, rfl, rfl, rfl, rfl, trivial⟩⟩
            rfl
          · simp (maxSteps := 4000000) only [Try.results10, crow, lcr, set_end, List.append_assoc, List.getElem?_append_left, List.getElem?_append_right, List.length_append, List.length_set, List.set_append_left, gset, List.getElem?_set_ne, Nat.add_sub_cancel_left, Nat.sub_self, Nat.le_refl, Nat.le_add_right, List.replicate_one, List.flatten_cons, List.flatten_nil, rep_flat, Int.cast_ofNat_Int, XX, Nat.reduceBEq, Nat.reduceLT, Nat.reduceAdd, Nat.reduceMul, Nat.reduceSub, Nat.reduceLeDiff, Nat.reduceEqDiff, Int.reduceToNat, Int.reduceLT, Int.reduceLE, Int.reduceAdd, Int.reduceSub, Int.reduceEq, reduceIte, Nat.reduceBNe, Int.reducePow, Nat.reducePow, Int.reduceMul, Int.reduceNeg, isB_i, isB_b, isB_y, isBv_i, isBv_b, eqCells_t, TT]
            have uf : (G ++ [⟨true, 66, fU (im + 1 + 2) 4⟩])[G.length]? = some ⟨true, 66, fU (im + 1 + 2) 4⟩ := by rw [List.getElem?_append_right (Nat.le_refl _), Nat.sub_self]; rfl
            have E1 := E.app [⟨true, 66, fU (im + 1 + 2) 4⟩]
            -- [(⟨true, 66, fU (im + 1 + 2) 4⟩ : SB)]
            have lG1 : (G ++ [(⟨true, 66, fU (im + 1 + 2) 4⟩ : SB)]).length = G.length + 1 := by simp
            have kG : ∀ k, k < G.length → (G ++ [(⟨true, 66, fU (im + 1 + 2) 4⟩ : SB)])[k]? = G[k]? := fun k hk => List.getElem?_append_left hk
            generalize G ++ [(⟨true, 66, fU (im + 1 + 2) 4⟩ : SB)] = F at *
            generalize hwf : G.length = wf at *
            have m3 := E1.bx 2 _ rfl
            have lm2 := lt_of E1.mm
            have luf := lt_of uf
            refine call_fz [.c (roB b sp c), .c (i64 4), .c (i64 4)] (get4_spec b sp c 4 (by omega) hc (by omega)) (fun t h' h => by obtain ⟨rfl, rfl⟩ := h; exact ⟨rfl, rfl⟩) ⟨.inl ⟨rfl, rfl⟩, .inl ⟨rfl, rfl⟩, .inl ⟨rfl, rfl⟩, trivial⟩ ?_
            rintro _ _ ⟨rfl, rfl⟩
            simp (maxSteps := 4000000) only [Try.results10, uf, luf, E1.mm, m3, List.map_nil, List.append_nil, List.append_assoc, List.getElem?_append_left, List.getElem?_append_right, List.length_append, List.length_set, List.set_append_left, gset, List.getElem?_set_ne, Nat.add_sub_cancel_left, Nat.sub_self, Nat.le_refl, Nat.le_add_right, List.replicate_one, List.flatten_cons, List.flatten_nil, rep_flat, XX, Nat.reduceBEq, Nat.reduceLT, Nat.reduceAdd, Nat.reduceMul, Nat.reduceSub, Nat.reduceLeDiff, Nat.reduceEqDiff, Int.reduceToNat, Int.reduceLT, Int.reduceLE, Int.reduceAdd, Int.reduceSub, Int.reduceEq, reduceIte, Nat.reduceBNe, Int.reducePow, Nat.reducePow, Int.reduceMul, Int.reduceNeg, isB_i, isB_b, isB_y, isBv_i, isBv_b, eqCells_t, TT]
            refine call_is (address2_spec F im (im + 1 + 2) 2 66 (get4 b 4 : Nat) true _ _ m3 E1.mm (by simp) (pF3_spec _ im)) ?_
            rintro _ _ ⟨rfl, rfl⟩
            have ek : IntKind.i64.wrap 3 = 3 := by decide
            have q0 := get4_lt b 4
            have ew : IntKind.u32.wrap ((get4 b 4 : Nat) : Int) = ((get4 b 4 : Nat) : Int) := by rw [wu32] <;> omega
            simp (maxSteps := 4000000) only [Try.results10, ek, ew, XX, Nat.reduceBEq, Nat.reduceLT, Nat.reduceAdd, Nat.reduceMul, Nat.reduceSub, Nat.reduceLeDiff, Nat.reduceEqDiff, Int.reduceToNat, Int.reduceLT, Int.reduceLE, Int.reduceAdd, Int.reduceSub, Int.reduceEq, reduceIte, Nat.reduceBNe, Int.reducePow, Nat.reducePow, Int.reduceMul, Int.reduceNeg, isB_i, isB_b, isB_y, isBv_i, isBv_b, eqCells_t, TT]
            refine ⟨9 - 3, by omega, _, ⟨3, _, rfl, by omega, E1.next (M' := MB b 3) ?_, rfl⟩, .inl ⟨rfl, rfl, rfl, rfl, rfl, rfl, rfl, rfl, rfl, rfl, trivial⟩⟩
            rfl
          · simp (maxSteps := 4000000) only [Try.results10, crow, lcr, set_end, List.append_assoc, List.getElem?_append_left, List.getElem?_append_right, List.length_append, List.length_set, List.set_append_left, gset, List.getElem?_set_ne, Nat.add_sub_cancel_left, Nat.sub_self, Nat.le_refl, Nat.le_add_right, List.replicate_one, List.flatten_cons, List.flatten_nil, rep_flat, Int.cast_ofNat_Int, XX, Nat.reduceBEq, Nat.reduceLT, Nat.reduceAdd, Nat.reduceMul, Nat.reduceSub, Nat.reduceLeDiff, Nat.reduceEqDiff, Int.reduceToNat, Int.reduceLT, Int.reduceLE, Int.reduceAdd, Int.reduceSub, Int.reduceEq, reduceIte, Nat.reduceBNe, Int.reducePow, Nat.reducePow, Int.reduceMul, Int.reduceNeg, isB_i, isB_b, isB_y, isBv_i, isBv_b, eqCells_t, TT]
            have uf : (G ++ [⟨true, 66, fI (im + 1 + 3) 8 2⟩])[G.length]? = some ⟨true, 66, fI (im + 1 + 3) 8 2⟩ := by rw [List.getElem?_append_right (Nat.le_refl _), Nat.sub_self]; rfl
            have E1 := E.app [⟨true, 66, fI (im + 1 + 3) 8 2⟩]
            -- [(⟨true, 66, fI (im + 1 + 3) 8 2⟩ : SB)]
            have lG1 : (G ++ [(⟨true, 66, fI (im + 1 + 3) 8 2⟩ : SB)]).length = G.length + 1 := by simp
            have kG : ∀ k, k < G.length → (G ++ [(⟨true, 66, fI (im + 1 + 3) 8 2⟩ : SB)])[k]? = G[k]? := fun k hk => List.getElem?_append_left hk
            generalize G ++ [(⟨true, 66, fI (im + 1 + 3) 8 2⟩ : SB)] = F at *
            generalize hwf : G.length = wf at *
            have m3 := E1.bx 3 _ rfl
            have lm2 := lt_of E1.mm
            have luf := lt_of uf
            refine call_fz [.c (roB b sp c), .c (i64 8), .c (i64 2)] (get2_spec b sp c 8 (by omega) hc (by omega)) (fun t h' h => by obtain ⟨rfl, rfl⟩ := h; exact ⟨rfl, rfl⟩) ⟨.inl ⟨rfl, rfl⟩, .inl ⟨rfl, rfl⟩, .inl ⟨rfl, rfl⟩, trivial⟩ ?_
            rintro _ _ ⟨rfl, rfl⟩
            simp (maxSteps := 4000000) only [Try.results10, uf, luf, E1.mm, m3, List.map_nil, List.append_nil, List.append_assoc, List.getElem?_append_left, List.getElem?_append_right, List.length_append, List.length_set, List.set_append_left, gset, List.getElem?_set_ne, Nat.add_sub_cancel_left, Nat.sub_self, Nat.le_refl, Nat.le_add_right, List.replicate_one, List.flatten_cons, List.flatten_nil, rep_flat, XX, Nat.reduceBEq, Nat.reduceLT, Nat.reduceAdd, Nat.reduceMul, Nat.reduceSub, Nat.reduceLeDiff, Nat.reduceEqDiff, Int.reduceToNat, Int.reduceLT, Int.reduceLE, Int.reduceAdd, Int.reduceSub, Int.reduceEq, reduceIte, Nat.reduceBNe, Int.reducePow, Nat.reducePow, Int.reduceMul, Int.reduceNeg, isB_i, isB_b, isB_y, isBv_i, isBv_b, eqCells_t, TT]
            refine call_is (small2_spec F im (im + 1 + 3) 3 67 (get2 b 8 : Nat) true _ _ m3 E1.mm (by simp) (pF4_spec _ im)) ?_
            rintro _ _ ⟨rfl, rfl⟩
            have ek : IntKind.i64.wrap 4 = 4 := by decide
            have q0 := get2_lt b 8
            have ew : IntKind.i64.wrap ((get2 b 8 : Nat) : Int) = ((get2 b 8 : Nat) : Int) := by rw [w64] <;> omega
            simp (maxSteps := 4000000) only [Try.results10, ek, ew, XX, Nat.reduceBEq, Nat.reduceLT, Nat.reduceAdd, Nat.reduceMul, Nat.reduceSub, Nat.reduceLeDiff, Nat.reduceEqDiff, Int.reduceToNat, Int.reduceLT, Int.reduceLE, Int.reduceAdd, Int.reduceSub, Int.reduceEq, reduceIte, Nat.reduceBNe, Int.reducePow, Nat.reducePow, Int.reduceMul, Int.reduceNeg, isB_i, isB_b, isB_y, isBv_i, isBv_b, eqCells_t, TT]
            refine ⟨9 - 4, by omega, _, ⟨4, _, rfl, by omega, E1.next (M' := MB b 4) ?_, rfl⟩, .inl ⟨rfl, rfl, rfl, rfl, rfl, rfl, rfl, rfl, rfl, rfl, trivial⟩⟩
            rfl
          · simp (maxSteps := 4000000) only [Try.results10, crow, lcr, set_end, List.append_assoc, List.getElem?_append_left, List.getElem?_append_right, List.length_append, List.length_set, List.set_append_left, gset, List.getElem?_set_ne, Nat.add_sub_cancel_left, Nat.sub_self, Nat.le_refl, Nat.le_add_right, List.replicate_one, List.flatten_cons, List.flatten_nil, rep_flat, Int.cast_ofNat_Int, XX, Nat.reduceBEq, Nat.reduceLT, Nat.reduceAdd, Nat.reduceMul, Nat.reduceSub, Nat.reduceLeDiff, Nat.reduceEqDiff, Int.reduceToNat, Int.reduceLT, Int.reduceLE, Int.reduceAdd, Int.reduceSub, Int.reduceEq, reduceIte, Nat.reduceBNe, Int.reducePow, Nat.reducePow, Int.reduceMul, Int.reduceNeg, isB_i, isB_b, isB_y, isBv_i, isBv_b, eqCells_t, TT]
            have uf : (G ++ [⟨true, 66, [i64 10, i64 1, .fn 68 [], .fn 69 []]⟩])[G.length]? = some ⟨true, 66, [i64 10, i64 1, .fn 68 [], .fn 69 []]⟩ := by rw [List.getElem?_append_right (Nat.le_refl _), Nat.sub_self]; rfl
            have E1 := E.app [⟨true, 66, [i64 10, i64 1, .fn 68 [], .fn 69 []]⟩]
            -- [(⟨true, 66, [i64 10, i64 1, .fn 68 [], .fn 69 []]⟩ : SB)]
            have lG1 : (G ++ [(⟨true, 66, [i64 10, i64 1, .fn 68 [], .fn 69 []]⟩ : SB)]).length = G.length + 1 := by simp
            have kG : ∀ k, k < G.length → (G ++ [(⟨true, 66, [i64 10, i64 1, .fn 68 [], .fn 69 []]⟩ : SB)])[k]? = G[k]? := fun k hk => List.getElem?_append_left hk
            generalize G ++ [(⟨true, 66, [i64 10, i64 1, .fn 68 [], .fn 69 []]⟩ : SB)] = F at *
            generalize hwf : G.length = wf at *
            have lm2 := lt_of E1.mm
            have luf := lt_of uf
            refine call_fz [.c (roB b sp c), .c (i64 10), .c (i64 1)] (get1_spec b sp c 10 (by omega) hc (by omega)) (fun t h' h => by obtain ⟨rfl, rfl⟩ := h; exact ⟨rfl, rfl⟩) ⟨.inl ⟨rfl, rfl⟩, .inl ⟨rfl, rfl⟩, .inl ⟨rfl, rfl⟩, trivial⟩ ?_
            rintro _ _ ⟨rfl, rfl⟩
            simp (maxSteps := 4000000) only [Try.results10, uf, luf, E1.mm, List.map_nil, List.append_nil, List.append_assoc, List.getElem?_append_left, List.getElem?_append_right, List.length_append, List.length_set, List.set_append_left, gset, List.getElem?_set_ne, Nat.add_sub_cancel_left, Nat.sub_self, Nat.le_refl, Nat.le_add_right, List.replicate_one, List.flatten_cons, List.flatten_nil, rep_flat, XX, Nat.reduceBEq, Nat.reduceLT, Nat.reduceAdd, Nat.reduceMul, Nat.reduceSub, Nat.reduceLeDiff, Nat.reduceEqDiff, Int.reduceToNat, Int.reduceLT, Int.reduceLE, Int.reduceAdd, Int.reduceSub, Int.reduceEq, reduceIte, Nat.reduceBNe, Int.reducePow, Nat.reducePow, Int.reduceMul, Int.reduceNeg, isB_i, isB_b, isB_y, isBv_i, isBv_b, eqCells_t, TT]
            refine call_is (flag2_spec F im ((b.getD 10 0).toNat : Nat) _ _ E1.mm (by simp)) ?_
            rintro _ _ ⟨rfl, rfl⟩
            have ek : IntKind.i64.wrap 5 = 5 := by decide
            simp (maxSteps := 4000000) only [Try.results10, ek, XX, Nat.reduceBEq, Nat.reduceLT, Nat.reduceAdd, Nat.reduceMul, Nat.reduceSub, Nat.reduceLeDiff, Nat.reduceEqDiff, Int.reduceToNat, Int.reduceLT, Int.reduceLE, Int.reduceAdd, Int.reduceSub, Int.reduceEq, reduceIte, Nat.reduceBNe, Int.reducePow, Nat.reducePow, Int.reduceMul, Int.reduceNeg, isB_i, isB_b, isB_y, isBv_i, isBv_b, eqCells_t, TT]
            refine ⟨9 - 5, by omega, _, ⟨5, _, rfl, by omega, E1.next (M' := MB b 5) ?_, rfl⟩, .inl ⟨rfl, rfl, rfl, rfl, rfl, rfl, rfl, rfl, rfl, rfl, trivial⟩⟩
            rw [boflag b _ rfl]; rfl
          · simp (maxSteps := 4000000) only [Try.results10, crow, lcr, set_end, List.append_assoc, List.getElem?_append_left, List.getElem?_append_right, List.length_append, List.length_set, List.set_append_left, gset, List.getElem?_set_ne, Nat.add_sub_cancel_left, Nat.sub_self, Nat.le_refl, Nat.le_add_right, List.replicate_one, List.flatten_cons, List.flatten_nil, rep_flat, Int.cast_ofNat_Int, XX, Nat.reduceBEq, Nat.reduceLT, Nat.reduceAdd, Nat.reduceMul, Nat.reduceSub, Nat.reduceLeDiff, Nat.reduceEqDiff, Int.reduceToNat, Int.reduceLT, Int.reduceLE, Int.reduceAdd, Int.reduceSub, Int.reduceEq, reduceIte, Nat.reduceBNe, Int.reducePow, Nat.reducePow, Int.reduceMul, Int.reduceNeg, isB_i, isB_b, isB_y, isBv_i, isBv_b, eqCells_t, TT]
            have uf : (G ++ [⟨true, 66, fU (im + 1 + 4) 12⟩])[G.length]? = some ⟨true, 66, fU (im + 1 + 4) 12⟩ := by rw [List.getElem?_append_right (Nat.le_refl _), Nat.sub_self]; rfl
            have E1 := E.app [⟨true, 66, fU (im + 1 + 4) 12⟩]
            -- [(⟨true, 66, fU (im + 1 + 4) 12⟩ : SB)]
            have lG1 : (G ++ [(⟨true, 66, fU (im + 1 + 4) 12⟩ : SB)]).length = G.length + 1 := by simp
            have kG : ∀ k, k < G.length → (G ++ [(⟨true, 66, fU (im + 1 + 4) 12⟩ : SB)])[k]? = G[k]? := fun k hk => List.getElem?_append_left hk
            generalize G ++ [(⟨true, 66, fU (im + 1 + 4) 12⟩ : SB)] = F at *
            generalize hwf : G.length = wf at *
            have m3 := E1.bx 4 _ rfl
            have lm2 := lt_of E1.mm
            have luf := lt_of uf
            refine call_fz [.c (roB b sp c), .c (i64 12), .c (i64 4)] (get4_spec b sp c 12 (by omega) hc (by omega)) (fun t h' h => by obtain ⟨rfl, rfl⟩ := h; exact ⟨rfl, rfl⟩) ⟨.inl ⟨rfl, rfl⟩, .inl ⟨rfl, rfl⟩, .inl ⟨rfl, rfl⟩, trivial⟩ ?_
            rintro _ _ ⟨rfl, rfl⟩
            simp (maxSteps := 4000000) only [Try.results10, uf, luf, E1.mm, m3, List.map_nil, List.append_nil, List.append_assoc, List.getElem?_append_left, List.getElem?_append_right, List.length_append, List.length_set, List.set_append_left, gset, List.getElem?_set_ne, Nat.add_sub_cancel_left, Nat.sub_self, Nat.le_refl, Nat.le_add_right, List.replicate_one, List.flatten_cons, List.flatten_nil, rep_flat, XX, Nat.reduceBEq, Nat.reduceLT, Nat.reduceAdd, Nat.reduceMul, Nat.reduceSub, Nat.reduceLeDiff, Nat.reduceEqDiff, Int.reduceToNat, Int.reduceLT, Int.reduceLE, Int.reduceAdd, Int.reduceSub, Int.reduceEq, reduceIte, Nat.reduceBNe, Int.reducePow, Nat.reducePow, Int.reduceMul, Int.reduceNeg, isB_i, isB_b, isB_y, isBv_i, isBv_b, eqCells_t, TT]
            refine call_is (address2_spec F im (im + 1 + 4) 5 70 (get4 b 12 : Nat) true _ _ m3 E1.mm (by simp) (pF7_spec _ im)) ?_
            rintro _ _ ⟨rfl, rfl⟩
            have ek : IntKind.i64.wrap 6 = 6 := by decide
            have q0 := get4_lt b 12
            have ew : IntKind.u32.wrap ((get4 b 12 : Nat) : Int) = ((get4 b 12 : Nat) : Int) := by rw [wu32] <;> omega
            simp (maxSteps := 4000000) only [Try.results10, ek, ew, XX, Nat.reduceBEq, Nat.reduceLT, Nat.reduceAdd, Nat.reduceMul, Nat.reduceSub, Nat.reduceLeDiff, Nat.reduceEqDiff, Int.reduceToNat, Int.reduceLT, Int.reduceLE, Int.reduceAdd, Int.reduceSub, Int.reduceEq, reduceIte, Nat.reduceBNe, Int.reducePow, Nat.reducePow, Int.reduceMul, Int.reduceNeg, isB_i, isB_b, isB_y, isBv_i, isBv_b, eqCells_t, TT]
            refine ⟨9 - 6, by omega, _, ⟨6, _, rfl, by omega, E1.next (M' := MB b 6) ?_, rfl⟩, .inl ⟨rfl, rfl, rfl, rfl, rfl, rfl, rfl, rfl, rfl, rfl, trivial⟩⟩
            rfl
          · simp (maxSteps := 4000000) only [Try.results10, crow, lcr, set_end, List.append_assoc, List.getElem?_append_left, List.getElem?_append_right, List.length_append, List.length_set, List.set_append_left, gset, List.getElem?_set_ne, Nat.add_sub_cancel_left, Nat.sub_self, Nat.le_refl, Nat.le_add_right, List.replicate_one, List.flatten_cons, List.flatten_nil, rep_flat, Int.cast_ofNat_Int, XX, Nat.reduceBEq, Nat.reduceLT, Nat.reduceAdd, Nat.reduceMul, Nat.reduceSub, Nat.reduceLeDiff, Nat.reduceEqDiff, Int.reduceToNat, Int.reduceLT, Int.reduceLE, Int.reduceAdd, Int.reduceSub, Int.reduceEq, reduceIte, Nat.reduceBNe, Int.reducePow, Nat.reducePow, Int.reduceMul, Int.reduceNeg, isB_i, isB_b, isB_y, isBv_i, isBv_b, eqCells_t, TT]
            have uf : (G ++ [⟨true, 66, fU (im + 1 + 5) 16⟩])[G.length]? = some ⟨true, 66, fU (im + 1 + 5) 16⟩ := by rw [List.getElem?_append_right (Nat.le_refl _), Nat.sub_self]; rfl
            have E1 := E.app [⟨true, 66, fU (im + 1 + 5) 16⟩]
            -- [(⟨true, 66, fU (im + 1 + 5) 16⟩ : SB)]
            have lG1 : (G ++ [(⟨true, 66, fU (im + 1 + 5) 16⟩ : SB)]).length = G.length + 1 := by simp
            have kG : ∀ k, k < G.length → (G ++ [(⟨true, 66, fU (im + 1 + 5) 16⟩ : SB)])[k]? = G[k]? := fun k hk => List.getElem?_append_left hk
            generalize G ++ [(⟨true, 66, fU (im + 1 + 5) 16⟩ : SB)] = F at *
            generalize hwf : G.length = wf at *
            have m3 := E1.bx 5 _ rfl
            have lm2 := lt_of E1.mm
            have luf := lt_of uf
            refine call_fz [.c (roB b sp c), .c (i64 16), .c (i64 4)] (get4_spec b sp c 16 (by omega) hc (by omega)) (fun t h' h => by obtain ⟨rfl, rfl⟩ := h; exact ⟨rfl, rfl⟩) ⟨.inl ⟨rfl, rfl⟩, .inl ⟨rfl, rfl⟩, .inl ⟨rfl, rfl⟩, trivial⟩ ?_
            rintro _ _ ⟨rfl, rfl⟩
            simp (maxSteps := 4000000) only [Try.results10, uf, luf, E1.mm, m3, List.map_nil, List.append_nil, List.append_assoc, List.getElem?_append_left, List.getElem?_append_right, List.length_append, List.length_set, List.set_append_left, gset, List.getElem?_set_ne, Nat.add_sub_cancel_left, Nat.sub_self, Nat.le_refl, Nat.le_add_right, List.replicate_one, List.flatten_cons, List.flatten_nil, rep_flat, XX, Nat.reduceBEq, Nat.reduceLT, Nat.reduceAdd, Nat.reduceMul, Nat.reduceSub, Nat.reduceLeDiff, Nat.reduceEqDiff, Int.reduceToNat, Int.reduceLT, Int.reduceLE, Int.reduceAdd, Int.reduceSub, Int.reduceEq, reduceIte, Nat.reduceBNe, Int.reducePow, Nat.reducePow, Int.reduceMul, Int.reduceNeg, isB_i, isB_b, isB_y, isBv_i, isBv_b, eqCells_t, TT]
            refine call_is (address2_spec F im (im + 1 + 5) 6 71 (get4 b 16 : Nat) true _ _ m3 E1.mm (by simp) (pF8_spec _ im)) ?_
            rintro _ _ ⟨rfl, rfl⟩
            have ek : IntKind.i64.wrap 7 = 7 := by decide
            have q0 := get4_lt b 16
            have ew : IntKind.u32.wrap ((get4 b 16 : Nat) : Int) = ((get4 b 16 : Nat) : Int) := by rw [wu32] <;> omega
            simp (maxSteps := 4000000) only [Try.results10, ek, ew, XX, Nat.reduceBEq, Nat.reduceLT, Nat.reduceAdd, Nat.reduceMul, Nat.reduceSub, Nat.reduceLeDiff, Nat.reduceEqDiff, Int.reduceToNat, Int.reduceLT, Int.reduceLE, Int.reduceAdd, Int.reduceSub, Int.reduceEq, reduceIte, Nat.reduceBNe, Int.reducePow, Nat.reducePow, Int.reduceMul, Int.reduceNeg, isB_i, isB_b, isB_y, isBv_i, isBv_b, eqCells_t, TT]
            refine ⟨9 - 7, by omega, _, ⟨7, _, rfl, by omega, E1.next (M' := MB b 7) ?_, rfl⟩, .inl ⟨rfl, rfl, rfl, rfl, rfl, rfl, rfl, rfl, rfl, rfl, trivial⟩⟩
            rfl
          · simp (maxSteps := 4000000) only [Try.results10, crow, lcr, set_end, List.append_assoc, List.getElem?_append_left, List.getElem?_append_right, List.length_append, List.length_set, List.set_append_left, gset, List.getElem?_set_ne, Nat.add_sub_cancel_left, Nat.sub_self, Nat.le_refl, Nat.le_add_right, List.replicate_one, List.flatten_cons, List.flatten_nil, rep_flat, Int.cast_ofNat_Int, XX, Nat.reduceBEq, Nat.reduceLT, Nat.reduceAdd, Nat.reduceMul, Nat.reduceSub, Nat.reduceLeDiff, Nat.reduceEqDiff, Int.reduceToNat, Int.reduceLT, Int.reduceLE, Int.reduceAdd, Int.reduceSub, Int.reduceEq, reduceIte, Nat.reduceBNe, Int.reducePow, Nat.reducePow, Int.reduceMul, Int.reduceNeg, isB_i, isB_b, isB_y, isBv_i, isBv_b, eqCells_t, TT]
            have uf : (G ++ [⟨true, 66, fU (im + 1 + 6) 20⟩])[G.length]? = some ⟨true, 66, fU (im + 1 + 6) 20⟩ := by rw [List.getElem?_append_right (Nat.le_refl _), Nat.sub_self]; rfl
            have E1 := E.app [⟨true, 66, fU (im + 1 + 6) 20⟩]
            -- [(⟨true, 66, fU (im + 1 + 6) 20⟩ : SB)]
            have lG1 : (G ++ [(⟨true, 66, fU (im + 1 + 6) 20⟩ : SB)]).length = G.length + 1 := by simp
            have kG : ∀ k, k < G.length → (G ++ [(⟨true, 66, fU (im + 1 + 6) 20⟩ : SB)])[k]? = G[k]? := fun k hk => List.getElem?_append_left hk
            generalize G ++ [(⟨true, 66, fU (im + 1 + 6) 20⟩ : SB)] = F at *
            generalize hwf : G.length = wf at *
            have m3 := E1.bx 6 _ rfl
            have lm2 := lt_of E1.mm
            have luf := lt_of uf
            refine call_fz [.c (roB b sp c), .c (i64 20), .c (i64 4)] (get4_spec b sp c 20 (by omega) hc (by omega)) (fun t h' h => by obtain ⟨rfl, rfl⟩ := h; exact ⟨rfl, rfl⟩) ⟨.inl ⟨rfl, rfl⟩, .inl ⟨rfl, rfl⟩, .inl ⟨rfl, rfl⟩, trivial⟩ ?_
            rintro _ _ ⟨rfl, rfl⟩
            simp (maxSteps := 4000000) only [Try.results10, uf, luf, E1.mm, m3, List.map_nil, List.append_nil, List.append_assoc, List.getElem?_append_left, List.getElem?_append_right, List.length_append, List.length_set, List.set_append_left, gset, List.getElem?_set_ne, Nat.add_sub_cancel_left, Nat.sub_self, Nat.le_refl, Nat.le_add_right, List.replicate_one, List.flatten_cons, List.flatten_nil, rep_flat, XX, Nat.reduceBEq, Nat.reduceLT, Nat.reduceAdd, Nat.reduceMul, Nat.reduceSub, Nat.reduceLeDiff, Nat.reduceEqDiff, Int.reduceToNat, Int.reduceLT, Int.reduceLE, Int.reduceAdd, Int.reduceSub, Int.reduceEq, reduceIte, Nat.reduceBNe, Int.reducePow, Nat.reducePow, Int.reduceMul, Int.reduceNeg, isB_i, isB_b, isB_y, isBv_i, isBv_b, eqCells_t, TT]
            refine call_is (address2_spec F im (im + 1 + 6) 7 72 (get4 b 20 : Nat) true _ _ m3 E1.mm (by simp) (pF9_spec _ im)) ?_
            rintro _ _ ⟨rfl, rfl⟩
            have ek : IntKind.i64.wrap 8 = 8 := by decide
            have q0 := get4_lt b 20
            have ew : IntKind.u32.wrap ((get4 b 20 : Nat) : Int) = ((get4 b 20 : Nat) : Int) := by rw [wu32] <;> omega
            simp (maxSteps := 4000000) only [Try.results10, ek, ew, XX, Nat.reduceBEq, Nat.reduceLT, Nat.reduceAdd, Nat.reduceMul, Nat.reduceSub, Nat.reduceLeDiff, Nat.reduceEqDiff, Int.reduceToNat, Int.reduceLT, Int.reduceLE, Int.reduceAdd, Int.reduceSub, Int.reduceEq, reduceIte, Nat.reduceBNe, Int.reducePow, Nat.reducePow, Int.reduceMul, Int.reduceNeg, isB_i, isB_b, isB_y, isBv_i, isBv_b, eqCells_t, TT]
            refine ⟨9 - 8, by omega, _, ⟨8, _, rfl, by omega, E1.next (M' := MB b 8) ?_, rfl⟩, .inl ⟨rfl, rfl, rfl, rfl, rfl, rfl, rfl, rfl, rfl, rfl, trivial⟩⟩
            rfl
          · simp (maxSteps := 4000000) only [Try.results10, crow, lcr, set_end, List.append_assoc, List.getElem?_append_left, List.getElem?_append_right, List.length_append, List.length_set, List.set_append_left, gset, List.getElem?_set_ne, Nat.add_sub_cancel_left, Nat.sub_self, Nat.le_refl, Nat.le_add_right, List.replicate_one, List.flatten_cons, List.flatten_nil, rep_flat, Int.cast_ofNat_Int, XX, Nat.reduceBEq, Nat.reduceLT, Nat.reduceAdd, Nat.reduceMul, Nat.reduceSub, Nat.reduceLeDiff, Nat.reduceEqDiff, Int.reduceToNat, Int.reduceLT, Int.reduceLE, Int.reduceAdd, Int.reduceSub, Int.reduceEq, reduceIte, Nat.reduceBNe, Int.reducePow, Nat.reducePow, Int.reduceMul, Int.reduceNeg, isB_i, isB_b, isB_y, isBv_i, isBv_b, eqCells_t, TT]
            have uf : (G ++ [⟨true, 66, fU (im + 1 + 7) 24⟩])[G.length]? = some ⟨true, 66, fU (im + 1 + 7) 24⟩ := by rw [List.getElem?_append_right (Nat.le_refl _), Nat.sub_self]; rfl
            have E1 := E.app [⟨true, 66, fU (im + 1 + 7) 24⟩]
            -- [(⟨true, 66, fU (im + 1 + 7) 24⟩ : SB)]
            have lG1 : (G ++ [(⟨true, 66, fU (im + 1 + 7) 24⟩ : SB)]).length = G.length + 1 := by simp
            have kG : ∀ k, k < G.length → (G ++ [(⟨true, 66, fU (im + 1 + 7) 24⟩ : SB)])[k]? = G[k]? := fun k hk => List.getElem?_append_left hk
            generalize G ++ [(⟨true, 66, fU (im + 1 + 7) 24⟩ : SB)] = F at *
            generalize hwf : G.length = wf at *
            have m3 := E1.bx 7 _ rfl
            have lm2 := lt_of E1.mm
            have luf := lt_of uf
            refine call_fz [.c (roB b sp c), .c (i64 24), .c (i64 4)] (get4_spec b sp c 24 (by omega) hc (by omega)) (fun t h' h => by obtain ⟨rfl, rfl⟩ := h; exact ⟨rfl, rfl⟩) ⟨.inl ⟨rfl, rfl⟩, .inl ⟨rfl, rfl⟩, .inl ⟨rfl, rfl⟩, trivial⟩ ?_
            rintro _ _ ⟨rfl, rfl⟩
            simp (maxSteps := 4000000) only [Try.results10, uf, luf, E1.mm, m3, List.map_nil, List.append_nil, List.append_assoc, List.getElem?_append_left, List.getElem?_append_right, List.length_append, List.length_set, List.set_append_left, gset, List.getElem?_set_ne, Nat.add_sub_cancel_left, Nat.sub_self, Nat.le_refl, Nat.le_add_right, List.replicate_one, List.flatten_cons, List.flatten_nil, rep_flat, XX, Nat.reduceBEq, Nat.reduceLT, Nat.reduceAdd, Nat.reduceMul, Nat.reduceSub, Nat.reduceLeDiff, Nat.reduceEqDiff, Int.reduceToNat, Int.reduceLT, Int.reduceLE, Int.reduceAdd, Int.reduceSub, Int.reduceEq, reduceIte, Nat.reduceBNe, Int.reducePow, Nat.reducePow, Int.reduceMul, Int.reduceNeg, isB_i, isB_b, isB_y, isBv_i, isBv_b, eqCells_t, TT]
            refine call_is (address2_spec F im (im + 1 + 7) 8 73 (get4 b 24 : Nat) true _ _ m3 E1.mm (by simp) (pF10_spec _ im)) ?_
            rintro _ _ ⟨rfl, rfl⟩
            have ek : IntKind.i64.wrap 9 = 9 := by decide
            have q0 := get4_lt b 24
            have ew : IntKind.u32.wrap ((get4 b 24 : Nat) : Int) = ((get4 b 24 : Nat) : Int) := by rw [wu32] <;> omega
            simp (maxSteps := 4000000) only [Try.results10, ek, ew, XX, Nat.reduceBEq, Nat.reduceLT, Nat.reduceAdd, Nat.reduceMul, Nat.reduceSub, Nat.reduceLeDiff, Nat.reduceEqDiff, Int.reduceToNat, Int.reduceLT, Int.reduceLE, Int.reduceAdd, Int.reduceSub, Int.reduceEq, reduceIte, Nat.reduceBNe, Int.reducePow, Nat.reducePow, Int.reduceMul, Int.reduceNeg, isB_i, isB_b, isB_y, isBv_i, isBv_b, eqCells_t, TT]
            refine ⟨9 - 9, by omega, _, ⟨9, _, rfl, by omega, E1.next (M' := MB b 9) ?_, rfl⟩, .inl ⟨rfl, rfl, rfl, rfl, rfl, rfl, rfl, rfl, rfl, rfl, trivial⟩⟩
            rfl
        obtain rfl : i = 9 := by omega
        obtain ⟨R28, i28⟩ := drop6 (b := b) (sp := sp) (k := 28) (by omega)
        have m28 : min (b.length - 28) 6 = 6 := by omega
        have cm := E.mm
        have lcm := lt_of cm
        have ht6 : List.take 6 (List.map RC.toSC (List.take (b.length - 28) (byteR (b.getD 28 0) :: byteR (b.getD (28 + 1) 0) :: byteR (b.getD (28 + 2) 0) :: byteR (b.getD (28 + 3) 0) :: byteR (b.getD (28 + 4) 0) :: byteR (b.getD (28 + 5) 0) :: R28))) = [byteC (b.getD 28 0), byteC (b.getD 29 0), byteC (b.getD 30 0), byteC (b.getD 31 0), byteC (b.getD 32 0), byteC (b.getD 33 0)] := by
          obtain ⟨n, hn⟩ : ∃ n, b.length - 28 = n + 6 := ⟨b.length - 34, by omega⟩
          rw [hn]
          simp only [List.take_succ_cons, List.map_cons, byteR_sc, List.take_zero]; rfl
        simp only [Nat.reduceAdd] at i28 ht6
    
        simp (maxSteps := 4000000) only [Try.results10, Int.cast_ofNat_Int, cm, lcm, i28, XX, Nat.reduceBEq, Nat.reduceLT, Nat.reduceAdd, Nat.reduceMul, Nat.reduceSub, Nat.reduceLeDiff, Nat.reduceEqDiff, Int.reduceToNat, Int.reduceLT, Int.reduceLE, Int.reduceAdd, Int.reduceSub, Int.reduceEq, reduceIte, Nat.reduceBNe, Int.reducePow, Nat.reducePow, Int.reduceMul, Int.reduceNeg, isB_i, isB_b, isB_y, isBv_i, isBv_b, eqCells_t, TT]
        refine draw_of cx_ok (by kernel_rfl) 400 [] [(0, true), (1, true), (2, true), (3, true), (4, false)] (by kernel_rfl) (by first | exact hok | simp [*]) ?_
        simp (maxSteps := 4000000) only [Try.results10, cm, lcm, i28, m28, ht6, t240, e240, maskL_nil, unL_nil, List.length_cons, List.length_nil, List.cons_append, List.nil_append, List.drop_succ_cons, List.drop_zero, Nat.reduceAdd, List.append_assoc, List.getElem?_append_left, List.getElem?_append_right, List.length_append, List.length_set, List.set_append_left, gset, List.getElem?_set_ne, Nat.add_sub_cancel_left, Nat.sub_self, Nat.le_refl, Nat.le_add_right, List.replicate_one, List.flatten_cons, List.flatten_nil, rep_flat, XX, Nat.reduceBEq, Nat.reduceLT, Nat.reduceAdd, Nat.reduceMul, Nat.reduceSub, Nat.reduceLeDiff, Nat.reduceEqDiff, Int.reduceToNat, Int.reduceLT, Int.reduceLE, Int.reduceAdd, Int.reduceSub, Int.reduceEq, reduceIte, Nat.reduceBNe, Int.reducePow, Nat.reducePow, Int.reduceMul, Int.reduceNeg, isB_i, isB_b, isB_y, isBv_i, isBv_b, eqCells_t, TT]
        have lR := congrArg List.length i28
        simp only [List.length_drop, rs_len, List.length_append, List.length_cons] at lR
        refine ⟨⟨by omega, by omega, by omega⟩, by omega, ⟨by omega, by omega, by omega⟩, ?_⟩
        obtain ⟨pp, hpp2⟩ : ∃ pp, pp = G.length := ⟨_, rfl⟩
        have ipp : im < pp := by omega
        obtain ⟨M0, hM0⟩ : ∃ M0 : BM, M0 = { MB b 9 with mac := macAt b } := ⟨_, rfl⟩
        have E0 := (E.next (M' := M0) (C := boC M0 nilS) rfl).app [(⟨true, 22, [.ro (bsR (b.drop 240 ++ sp)) (b.drop 240).length (c - 240)]⟩ : SB)]
        have F0 : DecF (G.set im ⟨true, 29, boC M0 nilS⟩ ++ [(⟨true, 22, [.ro (bsR (b.drop 240 ++ sp)) (b.drop 240).length (c - 240)]⟩ : SB)]) im pp M0 [.ro (bsR (b.drop 240 ++ sp)) (b.drop 240).length (c - 240)] := ⟨E0.pos, E0.c0, E0.c1, E0.mm, ipp, by rw [hpp2, List.getElem?_append_right (by simp), List.length_set, Nat.sub_self]; rfl⟩
        rw [← hpp2]
        rw [show ([i64 (MB b 9).op, i64 (MB b 9).hops, i32 (MB b 9).xid, i64 (MB b 9).secs, bC (MB b 9).all, i32 (MB b 9).ci, i32 (MB b 9).yi, i32 (MB b 9).si, i32 (MB b 9).gi, byteC (b.getD 28 0), byteC (b.getD 29 0), byteC (b.getD 30 0), byteC (b.getD 31 0), byteC (b.getD 32 0), byteC (b.getD 33 0), strB (MB b 9).sname, strB (MB b 9).file, nilS] : List SC) = boC M0 nilS by rw [hM0]; rfl]
        refine gen_hpB (fun G => DecF G im pp M0 [.ro (bsR (b.drop 240 ++ sp)) (b.drop 240).length (c - 240)]) F0 ?_
        clear E E0 F0 cm lcm hpp2 lR ht6 i28
        rintro G E
        have r108 := row_n (b := b) (sp := sp) (k := 108) (n := 128) (by omega)
        have r44 := row_n (b := b) (sp := sp) (k := 44) (n := 64) (by omega)
        have l108 : ((b.drop 108).take 128).length = 128 := by rw [List.length_take, List.length_drop]; omega
        have l44 : ((b.drop 44).take 64).length = 64 := by rw [List.length_take, List.length_drop]; omega
        rcases (by omega : k = 1 ∨ k = 2 ∨ k = 3) with rfl | rfl | rfl
        · have a1 : decide (bitI BinOp.and .i64 1 1 = 0) = false := by decide
          have a2 : decide (bitI BinOp.and .i64 1 2 = 0) = true := by decide
          obtain ⟨FL, hFL⟩ : ∃ FL, FL = (b.drop 108).take 128 := ⟨_, rfl⟩
          obtain ⟨SN, hSN⟩ : ∃ SN, SN = (b.drop 44).take 64 := ⟨_, rfl⟩
          rw [← hFL] at r108 l108
          rw [← hSN] at r44 l44
          obtain ⟨P2, hP2⟩ : ∃ P2, P2 = b.drop 240 := ⟨_, rfl⟩
          rw [← hP2] at E e240
          generalize b.drop (108 + 128) ++ sp = S1 at *
          generalize b.drop (44 + 64) ++ sp = S2 at *
          have gm := E.mm
          have lgm := lt_of gm
          have gp := E.pt
          have lgp := lt_of gp
          simp (maxSteps := 4000000) only [Try.results10, a1, gm, lgm, gp, lgp, r108, List.length_cons, List.length_nil, List.append_assoc, List.getElem?_append_left, List.getElem?_append_right, List.length_append, List.length_set, List.set_append_left, gset, List.getElem?_set_ne, Nat.add_sub_cancel_left, Nat.sub_self, Nat.le_refl, Nat.le_add_right, List.replicate_one, List.flatten_cons, List.flatten_nil, rep_flat, XX, Nat.reduceBEq, Nat.reduceLT, Nat.reduceAdd, Nat.reduceMul, Nat.reduceSub, Nat.reduceLeDiff, Nat.reduceEqDiff, Int.reduceToNat, Int.reduceLT, Int.reduceLE, Int.reduceAdd, Int.reduceSub, Int.reduceEq, reduceIte, Nat.reduceBNe, Int.reducePow, Nat.reducePow, Int.reduceMul, Int.reduceNeg, isB_i, isB_b, isB_y, isBv_i, isBv_b, eqCells_t, TT]
          refine ⟨by omega, by unfold maxLen; omega, ?_⟩
          refine xapp_P (fun s H' => ∃ (pg cg : Nat) (zs : List SC), s = .c (.sl pg 0 2 cg) ∧ zs.length + 2 = cg ∧ cg ≤ maxLen ∧ DecF H' im pg M0 (.ro (bsR (P2 ++ sp)) P2.length (c - 240) :: .ro (bsR (FL ++ S1)) 128 (c - 108) :: zs)) (fun h => absurd h (by omega)) (fun _ c' h1 h2 => ⟨_, _, _, rfl, by rw [List.length_replicate]; omega, h2, E.grow rfl⟩) ?_
          clear E gm lgm gp lgp
          rintro _ G ⟨pg2, cg, zs, rfl, lz, hcg, E⟩
          have hcg2 := hcg
          unfold maxLen at hcg2
          have gm := E.mm
          have lgm := lt_of gm
          have gp := E.pt
          have lgp := lt_of gp
          simp (maxSteps := 4000000) only [Try.results10, a2, gm, lgm, gp, lgp, r44, List.length_cons, List.length_nil, List.append_assoc, List.getElem?_append_left, List.getElem?_append_right, List.length_append, List.length_set, List.set_append_left, gset, List.getElem?_set_ne, Nat.add_sub_cancel_left, Nat.sub_self, Nat.le_refl, Nat.le_add_right, List.replicate_one, List.flatten_cons, List.flatten_nil, rep_flat, XX, Nat.reduceBEq, Nat.reduceLT, Nat.reduceAdd, Nat.reduceMul, Nat.reduceSub, Nat.reduceLeDiff, Nat.reduceEqDiff, Int.reduceToNat, Int.reduceLT, Int.reduceLE, Int.reduceAdd, Int.reduceSub, Int.reduceEq, reduceIte, Nat.reduceBNe, Int.reducePow, Nat.reducePow, Int.reduceMul, Int.reduceNeg, isB_i, isB_b, isB_y, isBv_i, isBv_b, eqCells_t, TT]
          refine ⟨by omega, ?_⟩
          refine call_pureF [.c (.ro (bsR (SN ++ S2)) 64 (c - 44))] (btext_n SN S2 (c - 44) 64 l44 (by omega) (by omega)) ⟨.inl ⟨rfl, rfl⟩, trivial⟩ ?_
          rintro _ rfl
          simp (maxSteps := 4000000) only [Try.results10, gm, lgm, XX, Nat.reduceBEq, Nat.reduceLT, Nat.reduceAdd, Nat.reduceMul, Nat.reduceSub, Nat.reduceLeDiff, Nat.reduceEqDiff, Int.reduceToNat, Int.reduceLT, Int.reduceLE, Int.reduceAdd, Int.reduceSub, Int.reduceEq, reduceIte, Nat.reduceBNe, Int.reducePow, Nat.reducePow, Int.reduceMul, Int.reduceNeg, isB_i, isB_b, isB_y, isBv_i, isBv_b, eqCells_t, TT]
          refine gen_hp (fun G => DecF G im pg2 { M0 with sname := textF SN } (.ro (bsR (P2 ++ sp)) P2.length (c - 240) :: .ro (bsR (FL ++ S1)) 128 (c - 108) :: zs)) (E.next (M' := { M0 with sname := textF SN }) rfl) ?_
          clear E gm lgm gp lgp
          rintro G E
          obtain ⟨M1, hM1⟩ : ∃ X : BM, X = { M0 with sname := textF SN } := ⟨_, rfl⟩
          rw [← hM1] at E
          have gm := E.mm
          have lgm := lt_of gm
          have gp := E.pt
          have lgp := lt_of gp
          have c0 := E.c0
          have c1 := E.c1
          have lc0 := lt_of c0
          have lc1 := lt_of c1
          have ipos := E.pos
          have hpk : partsK b 1 = [P2, FL] := by rw [hP2, hFL]; rfl
          have q2 := parse_spec [(P2, sp, c - 240), (FL, S1, c - 108)] [] cg (by intro p hp; simp only [List.mem_cons, List.not_mem_nil, or_false] at hp; rcases hp with rfl | rfl <;> exact ⟨by dsimp only; omega, by dsimp only; omega⟩) (by simp) (by simp [lenP]; omega)
          rw [show bytesP [(P2, sp, c - 240), (FL, S1, c - 108)] = [P2, FL] from rfl, ← hpk] at q2
          refine call_opts [.c (partsV [(P2, sp, c - 240), (FL, S1, c - 108)] [] cg)] q2 ⟨fzO_rows gp rfl ⟨frO_ro, frO_n l108, trivial⟩, trivial⟩ ?_
          rintro t2 o2 es2 r2 O2 hw2 hpi2
          have G0 : (G ++ t2)[0]? = some ⟨true, 29, boC BM.zero nilS⟩ := (List.getElem?_append_left lc0).trans c0
          have G1 : (G ++ t2)[1]? = some ⟨true, 29, boC BM.zero nilS⟩ := (List.getElem?_append_left lc1).trans c1
          have Gm : (G ++ t2)[im]? = some ⟨true, 29, boC M1 nilS⟩ := (List.getElem?_append_left lgm).trans gm
          refine gen_hp (fun K => K[0]? = some ⟨true, 29, boC BM.zero nilS⟩ ∧ K[1]? = some ⟨true, 29, boC BM.zero nilS⟩ ∧ K[im]? = some ⟨true, 29, boC M1 nilS⟩ ∧ Opts K G.length o2 es2 r2) ⟨G0, G1, Gm, O2⟩ ?_
          rintro K2 ⟨z0, z1, zm, O3⟩
          have lz0 := lt_of z0
          have lz1 := lt_of z1
          have lzm := lt_of zm
          obtain ⟨iR, hiR⟩ : ∃ iR, iR = G.length := ⟨_, rfl⟩
          rw [← hiR] at O3 ⊢
          have iRm : im < iR := by omega
          cases hx2 : parseA (partsK b 1) [] with
          | error e =>
            obtain rfl : es2 = [] := List.map_eq_nil_iff.1 (by rw [hpi2, hx2]; rfl)
            have de : decide (e = 0) = false := by rcases parseA_err _ _ _ hx2 with rfl | rfl <;> rfl
            simp (maxSteps := 4000000) only [Try.results10, parE, de, List.length_nil, z0, z1, lz0, lz1, List.append_assoc, List.getElem?_append_left, List.getElem?_append_right, List.length_append, List.length_set, List.set_append_left, gset, List.getElem?_set_ne, Nat.add_sub_cancel_left, Nat.sub_self, Nat.le_refl, Nat.le_add_right, List.replicate_one, List.flatten_cons, List.flatten_nil, rep_flat, XX, Nat.reduceBEq, Nat.reduceLT, Nat.reduceAdd, Nat.reduceMul, Nat.reduceSub, Nat.reduceLeDiff, Nat.reduceEqDiff, Int.reduceToNat, Int.reduceLT, Int.reduceLE, Int.reduceAdd, Int.reduceSub, Int.reduceEq, reduceIte, Nat.reduceBNe, Int.reducePow, Nat.reducePow, Int.reduceMul, Int.reduceNeg, isB_i, isB_b, isB_y, isBv_i, isBv_b, eqCells_t, TT]
            exact .inl ⟨rfl, rfl⟩
          | ok is2 =>
            rw [hx2] at hpi2
            dsimp only
            obtain ⟨⟨_, _, ln2⟩, _⟩ := parseA_good _ _ _ goodP_nil hx2
            have hpi3 : es2.map PE.pi = is2 := hpi2
            rw [← hpi3, List.length_map] at ln2
            simp (maxSteps := 4000000) only [Try.results10, parE, decide_true, XX, Nat.reduceBEq, Nat.reduceLT, Nat.reduceAdd, Nat.reduceMul, Nat.reduceSub, Nat.reduceLeDiff, Nat.reduceEqDiff, Int.reduceToNat, Int.reduceLT, Int.reduceLE, Int.reduceAdd, Int.reduceSub, Int.reduceEq, reduceIte, Nat.reduceBNe, Int.reducePow, Nat.reducePow, Int.reduceMul, Int.reduceNeg, isB_i, isB_b, isB_y, isBv_i, isBv_b, eqCells_t, TT]
            refine call_is (delete_spec K2 iR o2 es2 r2 O3 ln2) ?_
            rintro _ H9 ⟨rfl, hr9, hl9, hk9⟩
            have O9 := opts_del O3 hr9 hk9
            have y0 := (hk9 0 lz0 (by omega)).trans z0
            have ym := (hk9 im lzm (by omega)).trans zm
            have ly0 := lt_of y0
            have lym := lt_of ym
            have dl := delO_len es2
            have eR : es2.length + r2 = (delO es2).length + (r2 + (es2.length - (delO es2).length)) := by omega
            rw [eR]
            have gs0 : ∀ X, (H9.set im X)[0]? = some ⟨true, 29, boC BM.zero nilS⟩ := fun X => by rw [List.getElem?_set_ne (by omega)]; exact y0
            simp (maxSteps := 4000000) only [Try.results10, y0, ym, ly0, lym, gs0, List.append_assoc, List.getElem?_append_left, List.getElem?_append_right, List.length_append, List.length_set, List.set_append_left, gset, List.getElem?_set_ne, Nat.add_sub_cancel_left, Nat.sub_self, Nat.le_refl, Nat.le_add_right, List.replicate_one, List.flatten_cons, List.flatten_nil, rep_flat, XX, Nat.reduceBEq, Nat.reduceLT, Nat.reduceAdd, Nat.reduceMul, Nat.reduceSub, Nat.reduceLeDiff, Nat.reduceEqDiff, Int.reduceToNat, Int.reduceLT, Int.reduceLE, Int.reduceAdd, Int.reduceSub, Int.reduceEq, reduceIte, Nat.reduceBNe, Int.reducePow, Nat.reducePow, Int.reduceMul, Int.reduceNeg, isB_i, isB_b, isB_y, isBv_i, isBv_b, eqCells_t, TT]
            have ym0 : (H9.set im ⟨true, 29, boC M1 (.sl iR 0 (delO es2).length ((delO es2).length + (r2 + (es2.length - (delO es2).length))))⟩)[0]? = some ⟨true, 29, boC BM.zero nilS⟩ := by rw [List.getElem?_set_ne (by omega)]; exact y0
            have hMd : M1 = decM b 1 := by
              rw [hM1, hM0, hSN]; rfl
            rw [← hMd]
            exact .inr ⟨iR, o2, delO es2, _, rfl, opts_set (opts_set O9 ym (fun h => absurd (show (29 : Nat) = 74 from h) (by decide)) (fun h => absurd (show (29 : Nat) = 5 from h) (by decide))) ym0 (fun h => absurd (show (29 : Nat) = 74 from h) (by decide)) (fun h => absurd (show (29 : Nat) = 5 from h) (by decide)), by rw [delO_pi, hpi3]⟩
        · have a1 : decide (bitI BinOp.and .i64 2 1 = 0) = true := by decide
          have a2 : decide (bitI BinOp.and .i64 2 2 = 0) = false := by decide
          obtain ⟨FL, hFL⟩ : ∃ FL, FL = (b.drop 108).take 128 := ⟨_, rfl⟩
          obtain ⟨SN, hSN⟩ : ∃ SN, SN = (b.drop 44).take 64 := ⟨_, rfl⟩
          rw [← hFL] at r108 l108
          rw [← hSN] at r44 l44
          obtain ⟨P2, hP2⟩ : ∃ P2, P2 = b.drop 240 := ⟨_, rfl⟩
          rw [← hP2] at E e240
          generalize b.drop (108 + 128) ++ sp = S1 at *
          generalize b.drop (44 + 64) ++ sp = S2 at *
          have gm := E.mm
          have lgm := lt_of gm
          have gp := E.pt
          have lgp := lt_of gp
          simp (maxSteps := 4000000) only [Try.results10, a1, gm, lgm, gp, lgp, r108, List.length_cons, List.length_nil, List.append_assoc, List.getElem?_append_left, List.getElem?_append_right, List.length_append, List.length_set, List.set_append_left, gset, List.getElem?_set_ne, Nat.add_sub_cancel_left, Nat.sub_self, Nat.le_refl, Nat.le_add_right, List.replicate_one, List.flatten_cons, List.flatten_nil, rep_flat, XX, Nat.reduceBEq, Nat.reduceLT, Nat.reduceAdd, Nat.reduceMul, Nat.reduceSub, Nat.reduceLeDiff, Nat.reduceEqDiff, Int.reduceToNat, Int.reduceLT, Int.reduceLE, Int.reduceAdd, Int.reduceSub, Int.reduceEq, reduceIte, Nat.reduceBNe, Int.reducePow, Nat.reducePow, Int.reduceMul, Int.reduceNeg, isB_i, isB_b, isB_y, isBv_i, isBv_b, eqCells_t, TT]
          refine ⟨by omega, ?_⟩
          refine call_pureF [.c (.ro (bsR (FL ++ S1)) 128 (c - 108))] (btext_n FL S1 (c - 108) 128 l108 (by omega) (by omega)) ⟨.inl ⟨rfl, rfl⟩, trivial⟩ ?_
          rintro _ rfl
          simp (maxSteps := 4000000) only [Try.results10, gm, lgm, XX, Nat.reduceBEq, Nat.reduceLT, Nat.reduceAdd, Nat.reduceMul, Nat.reduceSub, Nat.reduceLeDiff, Nat.reduceEqDiff, Int.reduceToNat, Int.reduceLT, Int.reduceLE, Int.reduceAdd, Int.reduceSub, Int.reduceEq, reduceIte, Nat.reduceBNe, Int.reducePow, Nat.reducePow, Int.reduceMul, Int.reduceNeg, isB_i, isB_b, isB_y, isBv_i, isBv_b, eqCells_t, TT]
          refine gen_hpB (fun G => DecF G im pp { M0 with file := textF FL } (.ro (bsR (P2 ++ sp)) P2.length (c - 240) :: [])) (E.next (M' := { M0 with file := textF FL }) rfl) ?_
          clear E gm lgm gp lgp
          rintro G E
          obtain ⟨M1, hM1⟩ : ∃ X : BM, X = { M0 with file := textF FL } := ⟨_, rfl⟩
          rw [← hM1] at E
          have gm := E.mm
          have lgm := lt_of gm
          have gp := E.pt
          have lgp := lt_of gp
          simp (maxSteps := 4000000) only [Try.results10, a2, gm, lgm, gp, lgp, r44, List.length_cons, List.length_nil, List.append_assoc, List.getElem?_append_left, List.getElem?_append_right, List.length_append, List.length_set, List.set_append_left, gset, List.getElem?_set_ne, Nat.add_sub_cancel_left, Nat.sub_self, Nat.le_refl, Nat.le_add_right, List.replicate_one, List.flatten_cons, List.flatten_nil, rep_flat, XX, Nat.reduceBEq, Nat.reduceLT, Nat.reduceAdd, Nat.reduceMul, Nat.reduceSub, Nat.reduceLeDiff, Nat.reduceEqDiff, Int.reduceToNat, Int.reduceLT, Int.reduceLE, Int.reduceAdd, Int.reduceSub, Int.reduceEq, reduceIte, Nat.reduceBNe, Int.reducePow, Nat.reducePow, Int.reduceMul, Int.reduceNeg, isB_i, isB_b, isB_y, isBv_i, isBv_b, eqCells_t, TT]
          refine ⟨by omega, by unfold maxLen; omega, ?_⟩
          refine xapp_P (fun s H' => ∃ (pg cg : Nat) (zs : List SC), s = .c (.sl pg 0 2 cg) ∧ zs.length + 2 = cg ∧ cg ≤ maxLen ∧ DecF H' im pg M1 (.ro (bsR (P2 ++ sp)) P2.length (c - 240) :: .ro (bsR (SN ++ S2)) 64 (c - 44) :: zs)) (fun h => absurd h (by omega)) (fun _ c' h1 h2 => ⟨_, _, _, rfl, by rw [List.length_replicate]; omega, h2, E.grow rfl⟩) ?_
          clear E gm lgm gp lgp
          rintro _ G ⟨pg2, cg, zs, rfl, lz, hcg, E⟩
          have hcg2 := hcg
          unfold maxLen at hcg2
          have gm := E.mm
          have lgm := lt_of gm
          have gp := E.pt
          have lgp := lt_of gp
          simp (maxSteps := 4000000) only [Try.results10, XX, Nat.reduceBEq, Nat.reduceLT, Nat.reduceAdd, Nat.reduceMul, Nat.reduceSub, Nat.reduceLeDiff, Nat.reduceEqDiff, Int.reduceToNat, Int.reduceLT, Int.reduceLE, Int.reduceAdd, Int.reduceSub, Int.reduceEq, reduceIte, Nat.reduceBNe, Int.reducePow, Nat.reducePow, Int.reduceMul, Int.reduceNeg, isB_i, isB_b, isB_y, isBv_i, isBv_b, eqCells_t, TT]
          have c0 := E.c0
          have c1 := E.c1
          have lc0 := lt_of c0
          have lc1 := lt_of c1
          have ipos := E.pos
          have hpk : partsK b 2 = [P2, SN] := by rw [hP2, hSN]; rfl
          have q2 := parse_spec [(P2, sp, c - 240), (SN, S2, c - 44)] [] cg (by intro p hp; simp only [List.mem_cons, List.not_mem_nil, or_false] at hp; rcases hp with rfl | rfl <;> exact ⟨by dsimp only; omega, by dsimp only; omega⟩) (by simp) (by simp [lenP]; omega)
          rw [show bytesP [(P2, sp, c - 240), (SN, S2, c - 44)] = [P2, SN] from rfl, ← hpk] at q2
          refine call_opts [.c (partsV [(P2, sp, c - 240), (SN, S2, c - 44)] [] cg)] q2 ⟨fzO_rows gp rfl ⟨frO_ro, frO_n l44, trivial⟩, trivial⟩ ?_
          rintro t2 o2 es2 r2 O2 hw2 hpi2
          have G0 : (G ++ t2)[0]? = some ⟨true, 29, boC BM.zero nilS⟩ := (List.getElem?_append_left lc0).trans c0
          have G1 : (G ++ t2)[1]? = some ⟨true, 29, boC BM.zero nilS⟩ := (List.getElem?_append_left lc1).trans c1
          have Gm : (G ++ t2)[im]? = some ⟨true, 29, boC M1 nilS⟩ := (List.getElem?_append_left lgm).trans gm
          refine gen_hp (fun K => K[0]? = some ⟨true, 29, boC BM.zero nilS⟩ ∧ K[1]? = some ⟨true, 29, boC BM.zero nilS⟩ ∧ K[im]? = some ⟨true, 29, boC M1 nilS⟩ ∧ Opts K G.length o2 es2 r2) ⟨G0, G1, Gm, O2⟩ ?_
          rintro K2 ⟨z0, z1, zm, O3⟩
          have lz0 := lt_of z0
          have lz1 := lt_of z1
          have lzm := lt_of zm
          obtain ⟨iR, hiR⟩ : ∃ iR, iR = G.length := ⟨_, rfl⟩
          rw [← hiR] at O3 ⊢
          have iRm : im < iR := by omega
          cases hx2 : parseA (partsK b 2) [] with
          | error e =>
            obtain rfl : es2 = [] := List.map_eq_nil_iff.1 (by rw [hpi2, hx2]; rfl)
            have de : decide (e = 0) = false := by rcases parseA_err _ _ _ hx2 with rfl | rfl <;> rfl
            simp (maxSteps := 4000000) only [Try.results10, parE, de, List.length_nil, z0, z1, lz0, lz1, List.append_assoc, List.getElem?_append_left, List.getElem?_append_right, List.length_append, List.length_set, List.set_append_left, gset, List.getElem?_set_ne, Nat.add_sub_cancel_left, Nat.sub_self, Nat.le_refl, Nat.le_add_right, List.replicate_one, List.flatten_cons, List.flatten_nil, rep_flat, XX, Nat.reduceBEq, Nat.reduceLT, Nat.reduceAdd, Nat.reduceMul, Nat.reduceSub, Nat.reduceLeDiff, Nat.reduceEqDiff, Int.reduceToNat, Int.reduceLT, Int.reduceLE, Int.reduceAdd, Int.reduceSub, Int.reduceEq, reduceIte, Nat.reduceBNe, Int.reducePow, Nat.reducePow, Int.reduceMul, Int.reduceNeg, isB_i, isB_b, isB_y, isBv_i, isBv_b, eqCells_t, TT]
            exact .inl ⟨rfl, rfl⟩
          | ok is2 =>
            rw [hx2] at hpi2
            dsimp only
            obtain ⟨⟨_, _, ln2⟩, _⟩ := parseA_good _ _ _ goodP_nil hx2
            have hpi3 : es2.map PE.pi = is2 := hpi2
            rw [← hpi3, List.length_map] at ln2
            simp (maxSteps := 4000000) only [Try.results10, parE, decide_true, XX, Nat.reduceBEq, Nat.reduceLT, Nat.reduceAdd, Nat.reduceMul, Nat.reduceSub, Nat.reduceLeDiff, Nat.reduceEqDiff, Int.reduceToNat, Int.reduceLT, Int.reduceLE, Int.reduceAdd, Int.reduceSub, Int.reduceEq, reduceIte, Nat.reduceBNe, Int.reducePow, Nat.reducePow, Int.reduceMul, Int.reduceNeg, isB_i, isB_b, isB_y, isBv_i, isBv_b, eqCells_t, TT]
            refine call_is (delete_spec K2 iR o2 es2 r2 O3 ln2) ?_
            rintro _ H9 ⟨rfl, hr9, hl9, hk9⟩
            have O9 := opts_del O3 hr9 hk9
            have y0 := (hk9 0 lz0 (by omega)).trans z0
            have ym := (hk9 im lzm (by omega)).trans zm
            have ly0 := lt_of y0
            have lym := lt_of ym
            have dl := delO_len es2
            have eR : es2.length + r2 = (delO es2).length + (r2 + (es2.length - (delO es2).length)) := by omega
            rw [eR]
            have gs0 : ∀ X, (H9.set im X)[0]? = some ⟨true, 29, boC BM.zero nilS⟩ := fun X => by rw [List.getElem?_set_ne (by omega)]; exact y0
            simp (maxSteps := 4000000) only [Try.results10, y0, ym, ly0, lym, gs0, List.append_assoc, List.getElem?_append_left, List.getElem?_append_right, List.length_append, List.length_set, List.set_append_left, gset, List.getElem?_set_ne, Nat.add_sub_cancel_left, Nat.sub_self, Nat.le_refl, Nat.le_add_right, List.replicate_one, List.flatten_cons, List.flatten_nil, rep_flat, XX, Nat.reduceBEq, Nat.reduceLT, Nat.reduceAdd, Nat.reduceMul, Nat.reduceSub, Nat.reduceLeDiff, Nat.reduceEqDiff, Int.reduceToNat, Int.reduceLT, Int.reduceLE, Int.reduceAdd, Int.reduceSub, Int.reduceEq, reduceIte, Nat.reduceBNe, Int.reducePow, Nat.reducePow, Int.reduceMul, Int.reduceNeg, isB_i, isB_b, isB_y, isBv_i, isBv_b, eqCells_t, TT]
            have ym0 : (H9.set im ⟨true, 29, boC M1 (.sl iR 0 (delO es2).length ((delO es2).length + (r2 + (es2.length - (delO es2).length))))⟩)[0]? = some ⟨true, 29, boC BM.zero nilS⟩ := by rw [List.getElem?_set_ne (by omega)]; exact y0
            have hMd : M1 = decM b 2 := by
              rw [hM1, hM0, hFL]; rfl
            rw [← hMd]
            exact .inr ⟨iR, o2, delO es2, _, rfl, opts_set (opts_set O9 ym (fun h => absurd (show (29 : Nat) = 74 from h) (by decide)) (fun h => absurd (show (29 : Nat) = 5 from h) (by decide))) ym0 (fun h => absurd (show (29 : Nat) = 74 from h) (by decide)) (fun h => absurd (show (29 : Nat) = 5 from h) (by decide)), by rw [delO_pi, hpi3]⟩
        · have a1 : decide (bitI BinOp.and .i64 3 1 = 0) = false := by decide
          have a2 : decide (bitI BinOp.and .i64 3 2 = 0) = false := by decide
          obtain ⟨FL, hFL⟩ : ∃ FL, FL = (b.drop 108).take 128 := ⟨_, rfl⟩
          obtain ⟨SN, hSN⟩ : ∃ SN, SN = (b.drop 44).take 64 := ⟨_, rfl⟩
          rw [← hFL] at r108 l108
          rw [← hSN] at r44 l44
          obtain ⟨P2, hP2⟩ : ∃ P2, P2 = b.drop 240 := ⟨_, rfl⟩
          rw [← hP2] at E e240
          generalize b.drop (108 + 128) ++ sp = S1 at *
          generalize b.drop (44 + 64) ++ sp = S2 at *
          have gm := E.mm
          have lgm := lt_of gm
          have gp := E.pt
          have lgp := lt_of gp
          simp (maxSteps := 4000000) only [Try.results10, a1, gm, lgm, gp, lgp, r108, List.length_cons, List.length_nil, List.append_assoc, List.getElem?_append_left, List.getElem?_append_right, List.length_append, List.length_set, List.set_append_left, gset, List.getElem?_set_ne, Nat.add_sub_cancel_left, Nat.sub_self, Nat.le_refl, Nat.le_add_right, List.replicate_one, List.flatten_cons, List.flatten_nil, rep_flat, XX, Nat.reduceBEq, Nat.reduceLT, Nat.reduceAdd, Nat.reduceMul, Nat.reduceSub, Nat.reduceLeDiff, Nat.reduceEqDiff, Int.reduceToNat, Int.reduceLT, Int.reduceLE, Int.reduceAdd, Int.reduceSub, Int.reduceEq, reduceIte, Nat.reduceBNe, Int.reducePow, Nat.reducePow, Int.reduceMul, Int.reduceNeg, isB_i, isB_b, isB_y, isBv_i, isBv_b, eqCells_t, TT]
          refine ⟨by omega, by unfold maxLen; omega, ?_⟩
          refine xapp_P (fun s H' => ∃ (pg cg : Nat) (zs : List SC), s = .c (.sl pg 0 2 cg) ∧ zs.length + 2 = cg ∧ cg ≤ maxLen ∧ DecF H' im pg M0 (.ro (bsR (P2 ++ sp)) P2.length (c - 240) :: .ro (bsR (FL ++ S1)) 128 (c - 108) :: zs)) (fun h => absurd h (by omega)) (fun _ c' h1 h2 => ⟨_, _, _, rfl, by rw [List.length_replicate]; omega, h2, E.grow rfl⟩) ?_
          clear E gm lgm gp lgp
          rintro _ G ⟨pg2, cg, zs, rfl, lz, hcg, E⟩
          have hcg2 := hcg
          unfold maxLen at hcg2
          have gm := E.mm
          have lgm := lt_of gm
          have gp := E.pt
          have lgp := lt_of gp
          simp (maxSteps := 4000000) only [Try.results10, a2, gm, lgm, gp, lgp, r44, List.length_cons, List.length_nil, List.append_assoc, List.getElem?_append_left, List.getElem?_append_right, List.length_append, List.length_set, List.set_append_left, gset, List.getElem?_set_ne, Nat.add_sub_cancel_left, Nat.sub_self, Nat.le_refl, Nat.le_add_right, List.replicate_one, List.flatten_cons, List.flatten_nil, rep_flat, XX, Nat.reduceBEq, Nat.reduceLT, Nat.reduceAdd, Nat.reduceMul, Nat.reduceSub, Nat.reduceLeDiff, Nat.reduceEqDiff, Int.reduceToNat, Int.reduceLT, Int.reduceLE, Int.reduceAdd, Int.reduceSub, Int.reduceEq, reduceIte, Nat.reduceBNe, Int.reducePow, Nat.reducePow, Int.reduceMul, Int.reduceNeg, isB_i, isB_b, isB_y, isBv_i, isBv_b, eqCells_t, TT]
          refine ⟨by omega, ⟨by unfold maxLen; omega, fun h => by omega⟩, ?_⟩
          refine xapp_P (fun s H' => ∃ (pg cg : Nat) (zs : List SC), s = .c (.sl pg 0 3 cg) ∧ zs.length + 3 = cg ∧ cg ≤ maxLen ∧ DecF H' im pg M0 (.ro (bsR (P2 ++ sp)) P2.length (c - 240) :: .ro (bsR (FL ++ S1)) 128 (c - 108) :: .ro (bsR (SN ++ S2)) 64 (c - 44) :: zs)) (fun h => ⟨_, _, _, rfl, by simp only [List.length_drop]; omega, by omega, E.setp⟩) (fun _ c' h1 h2 => ⟨_, _, _, rfl, by rw [List.length_replicate]; omega, h2, E.grow rfl⟩) ?_
          clear E gm lgm gp lgp
          rintro _ G ⟨pg3, cg, zs, rfl, lz, hcg, E⟩
          have hcg2 := hcg
          unfold maxLen at hcg2
          have gm := E.mm
          have lgm := lt_of gm
          have gp := E.pt
          have lgp := lt_of gp
          simp (maxSteps := 4000000) only [Try.results10, XX, Nat.reduceBEq, Nat.reduceLT, Nat.reduceAdd, Nat.reduceMul, Nat.reduceSub, Nat.reduceLeDiff, Nat.reduceEqDiff, Int.reduceToNat, Int.reduceLT, Int.reduceLE, Int.reduceAdd, Int.reduceSub, Int.reduceEq, reduceIte, Nat.reduceBNe, Int.reducePow, Nat.reducePow, Int.reduceMul, Int.reduceNeg, isB_i, isB_b, isB_y, isBv_i, isBv_b, eqCells_t, TT]
          have c0 := E.c0
          have c1 := E.c1
          have lc0 := lt_of c0
          have lc1 := lt_of c1
          have ipos := E.pos
          have hpk : partsK b 3 = [P2, FL, SN] := by rw [hP2, hFL, hSN]; rfl
          have q2 := parse_spec [(P2, sp, c - 240), (FL, S1, c - 108), (SN, S2, c - 44)] [] cg (by intro p hp; simp only [List.mem_cons, List.not_mem_nil, or_false] at hp; rcases hp with rfl | rfl | rfl <;> exact ⟨by dsimp only; omega, by dsimp only; omega⟩) (by simp) (by simp [lenP]; omega)
          rw [show bytesP [(P2, sp, c - 240), (FL, S1, c - 108), (SN, S2, c - 44)] = [P2, FL, SN] from rfl, ← hpk] at q2
          refine call_opts [.c (partsV [(P2, sp, c - 240), (FL, S1, c - 108), (SN, S2, c - 44)] [] cg)] q2 ⟨fzO_rows gp rfl ⟨frO_ro, frO_n l108, frO_n l44, trivial⟩, trivial⟩ ?_
          rintro t2 o2 es2 r2 O2 hw2 hpi2
          have G0 : (G ++ t2)[0]? = some ⟨true, 29, boC BM.zero nilS⟩ := (List.getElem?_append_left lc0).trans c0
          have G1 : (G ++ t2)[1]? = some ⟨true, 29, boC BM.zero nilS⟩ := (List.getElem?_append_left lc1).trans c1
          have Gm : (G ++ t2)[im]? = some ⟨true, 29, boC M0 nilS⟩ := (List.getElem?_append_left lgm).trans gm
          refine gen_hp (fun K => K[0]? = some ⟨true, 29, boC BM.zero nilS⟩ ∧ K[1]? = some ⟨true, 29, boC BM.zero nilS⟩ ∧ K[im]? = some ⟨true, 29, boC M0 nilS⟩ ∧ Opts K G.length o2 es2 r2) ⟨G0, G1, Gm, O2⟩ ?_
          rintro K2 ⟨z0, z1, zm, O3⟩
          have lz0 := lt_of z0
          have lz1 := lt_of z1
          have lzm := lt_of zm
          obtain ⟨iR, hiR⟩ : ∃ iR, iR = G.length := ⟨_, rfl⟩
          rw [← hiR] at O3 ⊢
          have iRm : im < iR := by omega
          cases hx2 : parseA (partsK b 3) [] with
          | error e =>
            obtain rfl : es2 = [] := List.map_eq_nil_iff.1 (by rw [hpi2, hx2]; rfl)
            have de : decide (e = 0) = false := by rcases parseA_err _ _ _ hx2 with rfl | rfl <;> rfl
            simp (maxSteps := 4000000) only [Try.results10, parE, de, List.length_nil, z0, z1, lz0, lz1, List.append_assoc, List.getElem?_append_left, List.getElem?_append_right, List.length_append, List.length_set, List.set_append_left, gset, List.getElem?_set_ne, Nat.add_sub_cancel_left, Nat.sub_self, Nat.le_refl, Nat.le_add_right, List.replicate_one, List.flatten_cons, List.flatten_nil, rep_flat, XX, Nat.reduceBEq, Nat.reduceLT, Nat.reduceAdd, Nat.reduceMul, Nat.reduceSub, Nat.reduceLeDiff, Nat.reduceEqDiff, Int.reduceToNat, Int.reduceLT, Int.reduceLE, Int.reduceAdd, Int.reduceSub, Int.reduceEq, reduceIte, Nat.reduceBNe, Int.reducePow, Nat.reducePow, Int.reduceMul, Int.reduceNeg, isB_i, isB_b, isB_y, isBv_i, isBv_b, eqCells_t, TT]
            exact .inl ⟨rfl, rfl⟩
          | ok is2 =>
            rw [hx2] at hpi2
            dsimp only
            obtain ⟨⟨_, _, ln2⟩, _⟩ := parseA_good _ _ _ goodP_nil hx2
            have hpi3 : es2.map PE.pi = is2 := hpi2
            rw [← hpi3, List.length_map] at ln2
            simp (maxSteps := 4000000) only [Try.results10, parE, decide_true, XX, Nat.reduceBEq, Nat.reduceLT, Nat.reduceAdd, Nat.reduceMul, Nat.reduceSub, Nat.reduceLeDiff, Nat.reduceEqDiff, Int.reduceToNat, Int.reduceLT, Int.reduceLE, Int.reduceAdd, Int.reduceSub, Int.reduceEq, reduceIte, Nat.reduceBNe, Int.reducePow, Nat.reducePow, Int.reduceMul, Int.reduceNeg, isB_i, isB_b, isB_y, isBv_i, isBv_b, eqCells_t, TT]
            refine call_is (delete_spec K2 iR o2 es2 r2 O3 ln2) ?_
            rintro _ H9 ⟨rfl, hr9, hl9, hk9⟩
            have O9 := opts_del O3 hr9 hk9
            have y0 := (hk9 0 lz0 (by omega)).trans z0
            have ym := (hk9 im lzm (by omega)).trans zm
            have ly0 := lt_of y0
            have lym := lt_of ym
            have dl := delO_len es2
            have eR : es2.length + r2 = (delO es2).length + (r2 + (es2.length - (delO es2).length)) := by omega
            rw [eR]
            have gs0 : ∀ X, (H9.set im X)[0]? = some ⟨true, 29, boC BM.zero nilS⟩ := fun X => by rw [List.getElem?_set_ne (by omega)]; exact y0
            simp (maxSteps := 4000000) only [Try.results10, y0, ym, ly0, lym, gs0, List.append_assoc, List.getElem?_append_left, List.getElem?_append_right, List.length_append, List.length_set, List.set_append_left, gset, List.getElem?_set_ne, Nat.add_sub_cancel_left, Nat.sub_self, Nat.le_refl, Nat.le_add_right, List.replicate_one, List.flatten_cons, List.flatten_nil, rep_flat, XX, Nat.reduceBEq, Nat.reduceLT, Nat.reduceAdd, Nat.reduceMul, Nat.reduceSub, Nat.reduceLeDiff, Nat.reduceEqDiff, Int.reduceToNat, Int.reduceLT, Int.reduceLE, Int.reduceAdd, Int.reduceSub, Int.reduceEq, reduceIte, Nat.reduceBNe, Int.reducePow, Nat.reducePow, Int.reduceMul, Int.reduceNeg, isB_i, isB_b, isB_y, isBv_i, isBv_b, eqCells_t, TT]
            have ym0 : (H9.set im ⟨true, 29, boC M0 (.sl iR 0 (delO es2).length ((delO es2).length + (r2 + (es2.length - (delO es2).length))))⟩)[0]? = some ⟨true, 29, boC BM.zero nilS⟩ := by rw [List.getElem?_set_ne (by omega)]; exact y0
            have hMd : M0 = decM b 3 := by
              rw [hM0]; rfl
            rw [← hMd]
            exact .inr ⟨iR, o2, delO es2, _, rfl, opts_set (opts_set O9 ym (fun h => absurd (show (29 : Nat) = 74 from h) (by decide)) (fun h => absurd (show (29 : Nat) = 5 from h) (by decide))) ym0 (fun h => absurd (show (29 : Nat) = 74 from h) (by decide)) (fun h => absurd (show (29 : Nat) = 5 from h) (by decide)), by rw [delO_pi, hpi3]⟩
      · rw [if_neg (fun h => hx3 h.2)]
        have hb1 : (decide ((x.toNat : Int) < 1) || decide (3 < (x.toNat : Int))) = true := by simp; omega
        simp (maxSteps := 4000000) only [Try.results10, hD, lD, List.length_cons, List.length_nil, hb1, k1, k0, lk0, lk1, List.append_assoc, List.getElem?_append_left, List.getElem?_append_right, List.length_append, List.length_set, List.set_append_left, gset, List.getElem?_set_ne, Nat.add_sub_cancel_left, Nat.sub_self, Nat.le_refl, Nat.le_add_right, List.replicate_one, List.flatten_cons, List.flatten_nil, rep_flat, XX, Nat.reduceBEq, Nat.reduceLT, Nat.reduceAdd, Nat.reduceMul, Nat.reduceSub, Nat.reduceLeDiff, Nat.reduceEqDiff, Int.reduceToNat, Int.reduceLT, Int.reduceLE, Int.reduceAdd, Int.reduceSub, Int.reduceEq, reduceIte, Nat.reduceBNe, Int.reducePow, Nat.reducePow, Int.reduceMul, Int.reduceNeg, isB_i, isB_b, isB_y, isBv_i, isBv_b, eqCells_t, TT]
        exact ⟨by simp, fun _ => by simp, .inl ⟨rfl, rfl⟩⟩
    · rw [if_neg (fun h => hd1 h.1)]
      have dd : decide ((d.length : Int) = 1) = false := by simp only [decide_eq_false_iff_not]; omega
      cases hdz : d ++ zd with
      | nil =>
        rw [hdz] at hD
        have hA1 : ∀ f, binS (.int .u8) [false] f .lss (.c (([] : List SC).getD 0 .any)) (.c (.v (.int .u8 1))) = .bad := fun _ => rfl
        have hA2 : ∀ f, binS (.int .u8) [false] f .gtr (.c (([] : List SC).getD 0 .any)) (.c (.v (.int .u8 3))) = .bad := fun _ => rfl
        simp (maxSteps := 4000000) only [Try.results10, hD, lD, dd, hdz, k1, k0, lk0, lk1, hA1, hA2, List.append_assoc, List.getElem?_append_left, List.getElem?_append_right, List.length_append, List.length_set, List.set_append_left, gset, List.getElem?_set_ne, Nat.add_sub_cancel_left, Nat.sub_self, Nat.le_refl, Nat.le_add_right, List.replicate_one, List.flatten_cons, List.flatten_nil, rep_flat, XX, Nat.reduceBEq, Nat.reduceLT, Nat.reduceAdd, Nat.reduceMul, Nat.reduceSub, Nat.reduceLeDiff, Nat.reduceEqDiff, Int.reduceToNat, Int.reduceLT, Int.reduceLE, Int.reduceAdd, Int.reduceSub, Int.reduceEq, reduceIte, Nat.reduceBNe, Int.reducePow, Nat.reducePow, Int.reduceMul, Int.reduceNeg, isB_i, isB_b, isB_y, isBv_i, isBv_b, eqCells_t, TT]
        exact .inl ⟨rfl, rfl⟩
      | cons y t =>
        rw [hdz] at hD
        have hD : K[H.length]? = some ⟨od, 5, .v (.int .u8 y.toNat) :: bsC t⟩ := hD
        simp (maxSteps := 4000000) only [Try.results10, hD, lD, dd, hdz, k1, k0, lk0, lk1, List.append_assoc, List.getElem?_append_left, List.getElem?_append_right, List.length_append, List.length_set, List.set_append_left, gset, List.getElem?_set_ne, Nat.add_sub_cancel_left, Nat.sub_self, Nat.le_refl, Nat.le_add_right, List.replicate_one, List.flatten_cons, List.flatten_nil, rep_flat, XX, Nat.reduceBEq, Nat.reduceLT, Nat.reduceAdd, Nat.reduceMul, Nat.reduceSub, Nat.reduceLeDiff, Nat.reduceEqDiff, Int.reduceToNat, Int.reduceLT, Int.reduceLE, Int.reduceAdd, Int.reduceSub, Int.reduceEq, reduceIte, Nat.reduceBNe, Int.reducePow, Nat.reducePow, Int.reduceMul, Int.reduceNeg, isB_i, isB_b, isB_y, isBv_i, isBv_b, eqCells_t, TT]
        exact .inl ⟨rfl, rfl⟩
end Go.Proofs.Ytgegddefcgfhgaa.Sx
