/- The symbolic executor, at work: parts as their owner hands them in. No condition. -/
import Derived.Test.YtflccffjfnfoiaaOpVX
import Derived.Test.YtflccffjfnfoiaaOpI
namespace Go.Proofs.Ytflccffjfnfoiaa.Sx
open Go
set_option linter.unusedSimpArgs false
set_option linter.unusedVariables false
set_option maxRecDepth 10000
set_option maxHeartbeats 2000000

abbrev behindB : List UInt8 := [98, 101, 104, 105, 110, 100]
abbrev wL (d : List UInt8) : SB := wB true (d ++ [71, 72])
abbrev slotB (l : List SC) : SB := ⟨true, 25, l⟩
def cellsL : Nat → List (List UInt8) → List SC
  | _, [] => []
  | k, d :: ds => slB k d [71, 72] :: cellsL (k + 1) ds
theorem cellsL_len : ∀ (k : Nat) (ds : List (List UInt8)), (cellsL k ds).length = ds.length
  | _, [] => rfl
  | k, d :: ds => by simp [cellsL, cellsL_len (k + 1) ds]
theorem cellsL_app : ∀ (k : Nat) (ds : List (List UInt8)) (d : List UInt8), cellsL k (ds ++ [d]) = cellsL k ds ++ [slB (k + ds.length) d [71, 72]]
  | k, [], d => rfl
  | k, e :: ds, d => by
    simp only [cellsL, List.cons_append, cellsL_app (k + 1) ds d, List.length_cons]
    rw [show k + 1 + ds.length = k + (ds.length + 1) by omega]
theorem cellsL_at : ∀ {k : Nat} {ds : List (List UInt8)} {i : Nat} {d : List UInt8} {R : List SC}, ds[i]? = some d → (cellsL k ds ++ R).getD i .any = slB (k + i) d [71, 72]
  | k, e :: ds, 0, d, R, h => by cases h; rfl
  | k, e :: ds, i + 1, d, R, h => by
    have := cellsL_at (k := k + 1) (R := R) (show ds[i]? = some d by simpa using h)
    rw [show k + (i + 1) = k + 1 + i by omega]; exact this
theorem cellsL_ren (n : Nat) : ∀ (k : Nat) (ds : List (List UInt8)), (cellsL k ds).map (SC.ren (renF [] n)) = cellsL (n + k) ds
  | _, [] => rfl
  | k, d :: ds => by
    simp only [cellsL, List.map_cons, cellsL_ren n (k + 1) ds]
    rfl
abbrev rowP (k : Nat) (ds : List (List UInt8)) : List SC := cellsL k ds ++ [slB (k + ds.length) behindB []]
/-- Parts that were lent, from window b on. -/
structure LentP (H : List SB) (b : Nat) (ds : List (List UInt8)) : Prop where
  row : H[b]? = some (slotB (rowP (b + 1) ds))
  at_ : ∀ (i : Nat) (d : List UInt8), ds[i]? = some d → H[b + 1 + i]? = some (wL d)
  bh : H[b + 1 + ds.length]? = some (wB false behindB)
theorem LentP.mono {H H' : List SB} {b : Nat} {ds : List (List UInt8)} (L : LentP H b ds) (h : ∀ k, b ≤ k → k ≤ b + 1 + ds.length → H'[k]? = H[k]?) : LentP H' b ds :=
  ⟨(h b (Nat.le_refl _) (by omega)).trans L.row, fun i d hd => (h _ (by omega) (by have := (List.getElem?_eq_some_iff.1 hd).1; omega)).trans (L.at_ i d hd), (h _ (by omega) (by omega)).trans L.bh⟩
theorem LentP.app {H : List SB} {b : Nat} {ds : List (List UInt8)} (L : LentP H b ds) (t : List SB) : LentP (H ++ t) b ds := by
  have lb := lt_of L.bh
  exact L.mono fun k _ hk => List.getElem?_append_left (by omega)
def resLP (ds : List (List UInt8)) (s : SV) (h' : List SB) : Prop := s = .c (.sl 0 0 ds.length (ds.length + 1)) ∧ h' = slotB (rowP 1 ds) :: (ds.map wL ++ [wB false behindB])
theorem cellsL_noRo : ∀ (k : Nat) (ds : List (List UInt8)), ((cellsL k ds).all SC.noRo) = true
  | _, [] => rfl
  | k, d :: ds => by simp only [cellsL, List.all_cons, cellsL_noRo (k + 1) ds]; rfl
theorem resLP_noRo {ds : List (List UInt8)} {t : SV} {h' : List SB} (h : resLP ds t h') : t.noRo = true ∧ (h'.all fun b => b.cells.all SC.noRo) = true := by
  obtain ⟨rfl, rfl⟩ := h
  refine ⟨rfl, ?_⟩
  rw [List.all_cons, Bool.and_eq_true]
  refine ⟨?_, ?_⟩
  · show (rowP 1 ds).all SC.noRo = true
    rw [List.all_append, cellsL_noRo]; rfl
  · rw [List.all_append, Bool.and_eq_true]
    refine ⟨?_, rfl⟩
    rw [List.all_map, List.all_eq_true]
    intro e _
    exact noRo_bsC _
theorem stepL {C : List SC} {n i : Nat} {z v : SC} (hC : C.length = i) (hi : i < n) : (C ++ List.replicate (n - i) z).take i ++ [v] ++ (C ++ List.replicate (n - i) z).drop (i + 1) = C ++ [v] ++ List.replicate (n - (i + 1)) z := by
  rw [List.take_left' hC, List.drop_append, List.drop_of_length_le (by omega), List.nil_append, List.drop_replicate]
  congr 2
  omega
/-- A call that lends parts. -/
theorem call_lentP {P : Program} {xn : XN} {f : FuncId} {args : List SV} (args0 : List SV) {dst : Option Tmp} {k : List KI} {nm : NB} {tm : List (Nat × SV)} {hp : List SB} {Q : XE → St → Prop} {ds : List (List UInt8)}
    (s : Spec P f args0 [] (resLP ds)) (ha : frA true (fun _ => true) (renF [] hp.length) 0 hp args args0)
    (hk : ∀ (t : List SB), t.length = ds.length + 2 → LentP (hp ++ t) hp.length ds → xn k ⟨nm, put dst (.c (.sl hp.length 0 ds.length (ds.length + 1))) tm, hp ++ t⟩ Q) : CallGoal P xn f args dst k ⟨nm, tm, hp⟩ Q := by
  refine call_fz args0 s (fun t h' => resLP_noRo) ha ?_
  rintro _ _ ⟨rfl, rfl⟩
  have e2 : (rowP 1 ds).map (SC.ren (renF [] hp.length)) = rowP (hp.length + 1) ds := by
    rw [rowP, List.map_append, cellsL_ren]
    show _ ++ [SC.sl (renF [] hp.length (1 + ds.length)) _ _ _] = _
    rw [show renF [] hp.length (1 + ds.length) = hp.length + 1 + ds.length from (by show hp.length + (1 + ds.length - 0) = _; omega)]
  have e3 : (ds.map wL ++ [wB false behindB]).map (SB.ren (renF [] hp.length)) = ds.map wL ++ [wB false behindB] := by
    rw [List.map_append, List.map_map]
    congr 1
    refine List.map_congr_left fun e he => ?_
    show SB.mk _ _ (List.map _ (bsC _)) = _
    rw [ren_bsC]
  have := hk (slotB (rowP (hp.length + 1) ds) :: (ds.map wL ++ [wB false behindB])) (by simp) ⟨?_, fun i d hd => ?_, ?_⟩
  · simp only [List.map_cons, e3]
    show xn k ⟨nm, put dst (.c (SC.sl (renF [] hp.length 0) 0 ds.length (ds.length + 1))) tm, hp ++ (⟨true, _, (rowP 1 ds).map (SC.ren (renF [] hp.length))⟩ :: (ds.map wL ++ [wB false behindB]))⟩ Q
    rw [e2]
    exact this
  · rw [List.getElem?_append_right (Nat.le_refl _), Nat.sub_self]; rfl
  · rw [List.getElem?_append_right (by omega), show hp.length + 1 + i - hp.length = i + 1 by omega, List.getElem?_cons_succ, List.getElem?_append_left (by rw [List.length_map]; exact (List.getElem?_eq_some_iff.1 hd).1), List.getElem?_map, hd]; rfl
  · rw [List.getElem?_append_right (by omega), show hp.length + 1 + ds.length - hp.length = ds.length + 1 by omega, List.getElem?_cons_succ, List.getElem?_append_right (by rw [List.length_map]; exact Nat.le_refl _), List.length_map, Nat.sub_self]; rfl

theorem lentP_spec (ps : List PT4) (rs : List RC) (c : Nat) (hok : ∀ p ∈ ps, p.ok) (hn : ps.length ≤ 5864062014805) : Spec cx.P 19 [.c (partsV ps rs c)] [] (resLP (bytesP ps)) := by
  have e1 : IntKind.i64.wrap ((ps.length : Int) + 1) = ((ps.length + 1 : Nat) : Int) := by rw [w64] <;> omega
  have e2 : (((ps.length + 1 : Nat) : Int)).toNat = ps.length + 1 := by omega
  have lD : (bytesP ps).length = ps.length := List.length_map ..
  refine spec_of_X cx_ok Try.func19 rfl (by kernel_rfl) (by kernel_rfl) (Nat.le_of_ble_eq_true rfl) 400 5 ?_
  simp (maxSteps := 4000000) only [Try.results19, XX, Nat.reduceBEq, Nat.reduceLT, Nat.reduceAdd, Nat.reduceMul, Nat.reduceSub, Nat.reduceLeDiff, Nat.reduceEqDiff, Int.reduceToNat, Int.reduceLT, Int.reduceLE, Int.reduceAdd, Int.reduceSub, Int.reduceEq, reduceIte, Nat.reduceBNe, Int.reducePow, Nat.reducePow, Int.reduceMul, Int.reduceNeg, isB_i, isB_b, isB_y, isBv_i, isBv_b, eqCells_t, TT]
  simp (maxSteps := 4000000) only [Try.results19, e1, e2, rep_flat, XX, Nat.reduceBEq, Nat.reduceLT, Nat.reduceAdd, Nat.reduceMul, Nat.reduceSub, Nat.reduceLeDiff, Nat.reduceEqDiff, Int.reduceToNat, Int.reduceLT, Int.reduceLE, Int.reduceAdd, Int.reduceSub, Int.reduceEq, reduceIte, Nat.reduceBNe, Int.reducePow, Nat.reducePow, Int.reduceMul, Int.reduceNeg, isB_i, isB_b, isB_y, isBv_i, isBv_b, eqCells_t, TT]
  refine ⟨by omega, ?_⟩
  refine loop_any cx_ok 400 (fun μ σ => ∃ i : Nat, μ = ps.length - i ∧ i ≤ ps.length ∧
      σ = ⟨⟨5, 0⟩, [(0, .c (partsV ps rs c)), (3, .c (.sl 0 0 (ps.length + 1) (ps.length + 1))), (4, .c (i64 i))], slotB (cellsL 1 ((bytesP ps).take i) ++ List.replicate (ps.length + 1 - i) nilS) :: ((bytesP ps).take i).map wL⟩) ps.length
    ⟨⟨5, 0⟩, [(0, .c (partsV ps rs c)), (3, .c (.sl 0 0 (ps.length + 1) (ps.length + 1))), (4, .c (i64 (0 : Nat)))], slotB (cellsL 1 ((bytesP ps).take 0) ++ List.replicate (ps.length + 1 - 0) nilS) :: ((bytesP ps).take 0).map wL⟩ ⟨0, rfl, Nat.zero_le _, rfl⟩ (.inl ⟨rfl, rfl, rfl, rfl, rfl, trivial⟩) ?_
  rintro μ σ ⟨i, rfl, hi, rfl⟩
  have lT : ((bytesP ps).take i).length = i := by rw [List.length_take, lD]; omega
  have lC : (cellsL 1 ((bytesP ps).take i)).length = i := by rw [cellsL_len, lT]
  by_cases hlt : i < ps.length
  · have hd : decide ((i : Int) < (ps.length : Int)) = true := by simp only [decide_eq_true_eq]; omega
    have e3 : IntKind.i64.wrap ((i : Int) + 1) = ((i + 1 : Nat) : Int) := by rw [w64] <;> omega
    obtain ⟨p, hp⟩ : ∃ p, ps[i]? = some p := ⟨_, List.getElem?_eq_getElem hlt⟩
    obtain ⟨R, hR⟩ := dropO (rs := rs) hp
    obtain ⟨q1, q2⟩ := hok p (List.mem_of_getElem? hp)
    have hT : (bytesP ps).take (i + 1) = (bytesP ps).take i ++ [p.1] := by rw [List.take_add_one, List.getElem?_map, hp]; rfl
    simp (maxSteps := 4000000) only [Try.results19, hd, hR, XX, Nat.reduceBEq, Nat.reduceLT, Nat.reduceAdd, Nat.reduceMul, Nat.reduceSub, Nat.reduceLeDiff, Nat.reduceEqDiff, Int.reduceToNat, Int.reduceLT, Int.reduceLE, Int.reduceAdd, Int.reduceSub, Int.reduceEq, reduceIte, Nat.reduceBNe, Int.reducePow, Nat.reducePow, Int.reduceMul, Int.reduceNeg, isB_i, isB_b, isB_y, isBv_i, isBv_b, eqCells_t, TT]
    refine ⟨by omega, by omega, ?_⟩
    refine call_fz [.c (roB p.1 p.2.1 p.2.2)] (lent_spec p.1 p.2.1 p.2.2 (by omega)) (fun t h' h => by obtain ⟨rfl, rfl⟩ := h; exact ⟨rfl, by simp only [XX, Nat.reduceBEq, Nat.reduceLT, Nat.reduceAdd, Nat.reduceMul, Nat.reduceSub, Nat.reduceLeDiff, Nat.reduceEqDiff, Int.reduceToNat, Int.reduceLT, Int.reduceLE, Int.reduceAdd, Int.reduceSub, Int.reduceEq, reduceIte, Nat.reduceBNe, Int.reducePow, Nat.reducePow, Int.reduceMul, Int.reduceNeg, isB_i, isB_b, isB_y, isBv_i, isBv_b, eqCells_t, TT, ids_bsC, ren_bsC, noRo_bsC, plain_bsC, lt_bsC, ids_byte, ren_byte, noRo_byte, plain_byte, lt_byte]⟩) ⟨.inl ⟨rfl, rfl⟩, trivial⟩ ?_
    rintro _ _ ⟨rfl, rfl⟩
    generalize hX : (bytesP ps).take i = X at *
    simp (maxSteps := 4000000) only [Try.results19, e3, ids_bsC, ren_bsC, noRo_bsC, plain_bsC, lt_bsC, ids_byte, ren_byte, noRo_byte, plain_byte, lt_byte, List.length_cons, List.length_map, lT, List.cons_append, XX, Nat.reduceBEq, Nat.reduceLT, Nat.reduceAdd, Nat.reduceMul, Nat.reduceSub, Nat.reduceLeDiff, Nat.reduceEqDiff, Int.reduceToNat, Int.reduceLT, Int.reduceLE, Int.reduceAdd, Int.reduceSub, Int.reduceEq, reduceIte, Nat.reduceBNe, Int.reducePow, Nat.reducePow, Int.reduceMul, Int.reduceNeg, isB_i, isB_b, isB_y, isBv_i, isBv_b, eqCells_t, TT]
    refine ⟨by omega, by rw [List.length_append, lC, List.length_replicate]; omega, ps.length - (i + 1), by omega, _, ⟨i + 1, rfl, by omega, rfl⟩, .inl ⟨rfl, ?_, rfl, rfl, rfl, trivial⟩⟩
    show _ = slotB (cellsL 1 ((bytesP ps).take (i + 1)) ++ List.replicate (ps.length + 1 - (i + 1)) nilS) :: ((bytesP ps).take (i + 1)).map wL
    rw [hT, cellsL_app, List.map_append, lT, stepL lC (by omega), Nat.add_comm 1 i]; rfl
  obtain rfl : i = ps.length := by omega
  have hd : decide ((ps.length : Int) < (ps.length : Int)) = false := by simp
  rw [show (bytesP ps).take ps.length = bytesP ps from List.take_of_length_le (by omega)] at *
  generalize hX : bytesP ps = X at *
  rw [show ps.length + 1 - ps.length = 1 by omega]
  have u1 : ∀ w : SB, (X.map wL ++ [w])[ps.length]? = some w := fun w => by rw [List.getElem?_append_right (by rw [List.length_map]; omega), List.length_map, show ps.length - X.length = 0 by omega]; rfl
  have u2 : ∀ w v : SB, (X.map wL ++ [w]).set ps.length v = X.map wL ++ [v] := fun w v => by rw [List.set_append_right _ _ (by rw [List.length_map]; omega), List.length_map, show ps.length - X.length = 0 by omega]; rfl
  have u3 : (cellsL 1 X).length = ps.length := by rw [cellsL_len]; omega
  have u4 : ∀ v : SC, (cellsL 1 X ++ [nilS]).take ps.length ++ [v] ++ (cellsL 1 X ++ [nilS]).drop (ps.length + 1) = cellsL 1 X ++ [v] := fun v => by
    have := stepL (z := nilS) (v := v) (n := ps.length + 1) u3 (Nat.lt_succ_self _)
    rw [show ps.length + 1 - ps.length = 1 by omega, show ps.length + 1 - (ps.length + 1) = 0 by omega] at this
    rw [List.replicate_one, List.replicate_zero, List.append_nil] at this
    exact this
  simp (maxSteps := 4000000) only [Try.results19, hd, List.flatten_cons, List.flatten_nil, List.cons_append, List.nil_append, List.append_nil, List.replicate_succ, List.replicate_zero, List.drop_succ_cons, List.drop_zero, List.length_cons, List.length_nil, Nat.reduceAdd, Nat.reduceLeDiff, reduceIte, List.length_map, lT, u1, u2, XX, Nat.reduceBEq, Nat.reduceLT, Nat.reduceAdd, Nat.reduceMul, Nat.reduceSub, Nat.reduceLeDiff, Nat.reduceEqDiff, Int.reduceToNat, Int.reduceLT, Int.reduceLE, Int.reduceAdd, Int.reduceSub, Int.reduceEq, reduceIte, Nat.reduceBNe, Int.reducePow, Nat.reducePow, Int.reduceMul, Int.reduceNeg, isB_i, isB_b, isB_y, isBv_i, isBv_b, eqCells_t, TT]
  refine ⟨by omega, by rw [List.length_append, u3]; exact Nat.le_refl _, by omega, ?_⟩
  rw [u4]
  refine ⟨by rw [lD], ?_⟩
  rw [rowP, lD, Nat.add_comm 1]; rfl

theorem asLentP_spec (H : List SB) (b : Nat) (ds : List (List UInt8)) (L : LentP H b ds) (ps : List PT4) (rs : List RC) (c : Nat) (hds : bytesP ps = ds) (hok : ∀ p ∈ ps, p.ok) (hn : ps.length ≤ 5864062014805) :
    Spec cx.P 21 [.c (.sl b 0 ds.length (ds.length + 1)), .c (partsV ps rs c)] H fun s h' => s = .c (bC true) ∧ h'.length = H.length ∧ ∀ k, (k < b ∨ b + ds.length < k) → h'[k]? = H[k]? := by
  have lD : ds.length = ps.length := by rw [← hds]; exact List.length_map ..
  have dl : decide ((ds.length : Int) = (ps.length : Int)) = true := by simp only [decide_eq_true_eq]; omega
  have e1 : IntKind.i64.wrap ((ps.length : Int) + 1) = ((ps.length + 1 : Nat) : Int) := by rw [w64] <;> omega
  have e2 : (((ps.length + 1 : Nat) : Int)).toNat = ps.length + 1 := by omega
  have hrow := L.row
  have hbh := L.bh
  have lrow := lt_of hrow
  have lbh := lt_of hbh
  have m1 : (rowP (b + 1) ds).getD ps.length .any = slB (b + 1 + ds.length) behindB [] := by
    rw [List.getD_eq_getElem?_getD, List.getElem?_append_right (by rw [cellsL_len]; omega), cellsL_len, show ps.length - ds.length = 0 by omega]; rfl
  have lR : (rowP (b + 1) ds).length = ps.length + 1 := by rw [List.length_append, cellsL_len, lD]; rfl
  have gA : ∀ (i : Nat) (d : List UInt8), ds[i]? = some d → (rowP (b + 1) ds).getD i .any = slB (b + 1 + i) d [71, 72] := fun i d h => cellsL_at h
  obtain ⟨BB, hBB⟩ : ∃ B : List UInt8, B = behindB := ⟨_, rfl⟩
  rw [← hBB] at m1 hbh
  obtain ⟨RP, hRP⟩ : ∃ R, R = rowP (b + 1) ds := ⟨_, rfl⟩
  rw [← hRP] at hrow m1 lR
  simp only [← hRP] at gA
  have tB : (bsC BB).take BB.length = bsC BB := by rw [bs_take, List.take_of_length_le (Nat.le_refl _)]
  have zB : ((⟨BB.toArray⟩ : ByteArray).toList == (⟨#[98, 101, 104, 105, 110, 100]⟩ : ByteArray).toList) = true := by rw [str_eq, hBB]; rfl
  clear hBB hRP
  refine spec_of_X cx_ok Try.func21 rfl (by kernel_rfl) (by kernel_rfl) (Nat.le_of_ble_eq_true rfl) 400 9 ?_
  simp (maxSteps := 4000000) only [Try.results21, XX, Nat.reduceBEq, Nat.reduceLT, Nat.reduceAdd, Nat.reduceMul, Nat.reduceSub, Nat.reduceLeDiff, Nat.reduceEqDiff, Int.reduceToNat, Int.reduceLT, Int.reduceLE, Int.reduceAdd, Int.reduceSub, Int.reduceEq, reduceIte, Nat.reduceBNe, Int.reducePow, Nat.reducePow, Int.reduceMul, Int.reduceNeg, isB_i, isB_b, isB_y, isBv_i, isBv_b, eqCells_t, TT]
  simp (maxSteps := 4000000) only [Try.results21, dl, e1, e2, hrow, lrow, m1, hbh, lbh, tB, strOf_bsC, zB, XX, Nat.reduceBEq, Nat.reduceLT, Nat.reduceAdd, Nat.reduceMul, Nat.reduceSub, Nat.reduceLeDiff, Nat.reduceEqDiff, Int.reduceToNat, Int.reduceLT, Int.reduceLE, Int.reduceAdd, Int.reduceSub, Int.reduceEq, reduceIte, Nat.reduceBNe, Int.reducePow, Nat.reducePow, Int.reduceMul, Int.reduceNeg, isB_i, isB_b, isB_y, isBv_i, isBv_b, eqCells_t, TT]
  refine ⟨by omega, by omega, by omega, ⟨by simp, isByte_bsC BB⟩, ?_⟩
  refine loop_any cx_ok 400 (fun μ σ => ∃ (i : Nat) (H1 : List SB), μ = ps.length - i ∧ i ≤ ps.length ∧ H1.length = H.length ∧ H1[b]? = some (slotB (List.replicate i nilS ++ RP.drop i)) ∧ (∀ k, k ≠ b → (k < b + 1 ∨ b + i < k) → H1[k]? = H[k]?) ∧
      σ = ⟨⟨9, H.length⟩, [(1, .c (partsV ps rs c)), (5, .c (.sl b 0 (ps.length + 1) (ds.length + 1))), (6, .c (bC true)), (7, .c (i64 i))], H1⟩) ps.length
    ⟨⟨9, H.length⟩, [(1, .c (partsV ps rs c)), (5, .c (.sl b 0 (ps.length + 1) (ds.length + 1))), (6, .c (bC true)), (7, .c (i64 (0 : Nat)))], H⟩ ⟨0, H, rfl, Nat.zero_le _, rfl, by simpa using hrow, fun _ _ _ => rfl, rfl⟩ (.inl ⟨rfl, rfl, rfl, rfl, rfl, rfl, trivial⟩) ?_
  rintro μ σ ⟨i, H1, rfl, hi, hl1, hrow1, hk1, rfl⟩
  have lrow1 := lt_of hrow1
  by_cases hlt : i < ps.length
  · have hd : decide ((i : Int) < (ps.length : Int)) = true := by simp only [decide_eq_true_eq]; omega
    have e3 : IntKind.i64.wrap ((i : Int) + 1) = ((i + 1 : Nat) : Int) := by rw [w64] <;> omega
    obtain ⟨p, hp⟩ : ∃ p, ps[i]? = some p := ⟨_, List.getElem?_eq_getElem hlt⟩
    obtain ⟨R, hR⟩ := dropO (rs := rs) hp
    obtain ⟨q1, q2⟩ := hok p (List.mem_of_getElem? hp)
    have hdi : ds[i]? = some p.1 := by rw [← hds, List.getElem?_map, hp]; rfl
    have g2 : (List.replicate i nilS ++ RP.drop i).getD i .any = slB (b + 1 + i) p.1 [71, 72] := by
      rw [List.getD_eq_getElem?_getD, List.getElem?_append_right (by simp), List.length_replicate, Nat.sub_self, List.getElem?_drop, Nat.add_zero, ← List.getD_eq_getElem?_getD]
      exact gA i _ hdi
    have hw1 : H1[b + 1 + i]? = some (wL p.1) := (hk1 _ (by omega) (by omega)).trans (L.at_ i _ hdi)
    have lw1 := lt_of hw1
    simp (maxSteps := 4000000) only [Try.results21, hd, XX, Nat.reduceBEq, Nat.reduceLT, Nat.reduceAdd, Nat.reduceMul, Nat.reduceSub, Nat.reduceLeDiff, Nat.reduceEqDiff, Int.reduceToNat, Int.reduceLT, Int.reduceLE, Int.reduceAdd, Int.reduceSub, Int.reduceEq, reduceIte, Nat.reduceBNe, Int.reducePow, Nat.reducePow, Int.reduceMul, Int.reduceNeg, isB_i, isB_b, isB_y, isBv_i, isBv_b, eqCells_t, TT]
    refine draw_of cx_ok (by kernel_rfl) 400 [] [(0, true), (1, true), (2, true), (4, true), (5, true), (6, true), (7, true), (3, false), (8, false), (9, true)] (by kernel_rfl) (by first | exact hok | simp [*]) ?_
    simp (maxSteps := 4000000) only [Try.results21, hR, hrow1, lrow1, g2, maskL_nil, unL_nil, List.append_assoc, List.getElem?_append_left, List.getElem?_append_right, List.length_append, List.length_set, List.set_append_left, gset, List.getElem?_set_ne, Nat.add_sub_cancel_left, Nat.sub_self, Nat.le_refl, Nat.le_add_right, List.replicate_one, List.flatten_cons, List.flatten_nil, rep_flat, XX, Nat.reduceBEq, Nat.reduceLT, Nat.reduceAdd, Nat.reduceMul, Nat.reduceSub, Nat.reduceLeDiff, Nat.reduceEqDiff, Int.reduceToNat, Int.reduceLT, Int.reduceLE, Int.reduceAdd, Int.reduceSub, Int.reduceEq, reduceIte, Nat.reduceBNe, Int.reducePow, Nat.reducePow, Int.reduceMul, Int.reduceNeg, isB_i, isB_b, isB_y, isBv_i, isBv_b, eqCells_t, TT]
    refine ⟨by omega, by omega, by omega, by rw [List.length_replicate, List.length_drop]; omega, ?_⟩
    refine call_frame (asLent_spec p.1 p.2.1 p.2.2 (by omega)) [b + 1 + i] rfl rfl ?_ rfl ?_ ?_
    · simp only [XX, Nat.reduceBEq, Nat.reduceLT, Nat.reduceAdd, Nat.reduceMul, Nat.reduceSub, Nat.reduceLeDiff, Nat.reduceEqDiff, Int.reduceToNat, Int.reduceLT, Int.reduceLE, Int.reduceAdd, Int.reduceSub, Int.reduceEq, reduceIte, Nat.reduceBNe, Int.reducePow, Nat.reducePow, Int.reduceMul, Int.reduceNeg, isB_i, isB_b, isB_y, isBv_i, isBv_b, eqCells_t, TT, preOk, hw1, ids_bsC, ren_bsC, noRo_bsC, plain_bsC, lt_bsC, ids_byte, ren_byte, noRo_byte, plain_byte, lt_byte]
    · simp only [XX, Nat.reduceBEq, Nat.reduceLT, Nat.reduceAdd, Nat.reduceMul, Nat.reduceSub, Nat.reduceLeDiff, Nat.reduceEqDiff, Int.reduceToNat, Int.reduceLT, Int.reduceLE, Int.reduceAdd, Int.reduceSub, Int.reduceEq, reduceIte, Nat.reduceBNe, Int.reducePow, Nat.reducePow, Int.reduceMul, Int.reduceNeg, isB_i, isB_b, isB_y, isBv_i, isBv_b, eqCells_t, TT, ids_bsC, ren_bsC, noRo_bsC, plain_bsC, lt_bsC, ids_byte, ren_byte, noRo_byte, plain_byte, lt_byte]
    rintro _ _ ⟨rfl, rfl⟩
    simp (maxSteps := 4000000) only [Try.results21, hw1, lw1, ids_bsC, ren_bsC, noRo_bsC, plain_bsC, lt_bsC, ids_byte, ren_byte, noRo_byte, plain_byte, lt_byte, maskL_nil, unL_nil, XX, Nat.reduceBEq, Nat.reduceLT, Nat.reduceAdd, Nat.reduceMul, Nat.reduceSub, Nat.reduceLeDiff, Nat.reduceEqDiff, Int.reduceToNat, Int.reduceLT, Int.reduceLE, Int.reduceAdd, Int.reduceSub, Int.reduceEq, reduceIte, Nat.reduceBNe, Int.reducePow, Nat.reducePow, Int.reduceMul, Int.reduceNeg, isB_i, isB_b, isB_y, isBv_i, isBv_b, eqCells_t, TT]
    have hrow2 : (H1.set (b + 1 + i) ⟨true, 5, bsC (List.replicate (p.1.length + 2) 83)⟩)[b]? = some (slotB (List.replicate i nilS ++ RP.drop i)) := by rw [List.getElem?_set_ne (by omega)]; exact hrow1
    have hl2 : (H1.set (b + 1 + i) ⟨true, 5, bsC (List.replicate (p.1.length + 2) 83)⟩).length = H.length := by rw [List.length_set]; exact hl1
    have hk2 : ∀ k, k ≠ b → (k < b + 1 ∨ b + (i + 1) < k) → (H1.set (b + 1 + i) ⟨true, 5, bsC (List.replicate (p.1.length + 2) 83)⟩)[k]? = H[k]? := fun k hk1' hk2' => by
      rw [List.getElem?_set_ne (by omega)]
      exact hk1 k hk1' (by omega)
    generalize H1.set (b + 1 + i) ⟨true, 5, bsC (List.replicate (p.1.length + 2) 83)⟩ = H2 at hrow2 hl2 hk2 ⊢
    have lrow2 := lt_of hrow2
    simp (maxSteps := 4000000) only [Try.results21, hrow2, lrow2, e3, List.append_assoc, List.getElem?_append_left, List.getElem?_append_right, List.length_append, List.length_set, List.set_append_left, gset, List.getElem?_set_ne, Nat.add_sub_cancel_left, Nat.sub_self, Nat.le_refl, Nat.le_add_right, List.replicate_one, List.flatten_cons, List.flatten_nil, rep_flat, XX, Nat.reduceBEq, Nat.reduceLT, Nat.reduceAdd, Nat.reduceMul, Nat.reduceSub, Nat.reduceLeDiff, Nat.reduceEqDiff, Int.reduceToNat, Int.reduceLT, Int.reduceLE, Int.reduceAdd, Int.reduceSub, Int.reduceEq, reduceIte, Nat.reduceBNe, Int.reducePow, Nat.reducePow, Int.reduceMul, Int.reduceNeg, isB_i, isB_b, isB_y, isBv_i, isBv_b, eqCells_t, TT]
    have hst : (List.replicate i nilS ++ RP.drop i).take i ++ nilS :: (List.replicate i nilS ++ RP.drop i).drop (i + 1) = List.replicate (i + 1) nilS ++ RP.drop (i + 1) := by
      rw [List.take_left' List.length_replicate, List.drop_append, List.drop_of_length_le (by simp), List.nil_append, List.length_replicate, Nat.add_sub_cancel_left, List.drop_drop, List.replicate_succ', List.append_assoc]; rfl
    exact ⟨by omega, by rw [List.length_replicate, List.length_drop]; omega, ps.length - (i + 1), by omega, _, ⟨i + 1, _, rfl, by omega, by rw [List.length_set]; exact hl2, by rw [List.getElem?_set_self lrow2]; exact congrArg (fun l => some (slotB l)) hst, fun k h1 h2 => by rw [List.getElem?_set_ne (Ne.symm h1)]; exact hk2 k h1 h2, rfl⟩, .inl ⟨rfl, rfl, rfl, rfl, rfl, rfl, trivial⟩⟩
  obtain rfl : i = ps.length := by omega
  have hd : decide ((ps.length : Int) < (ps.length : Int)) = false := by simp
  simp (maxSteps := 4000000) only [Try.results21, hd, XX, Nat.reduceBEq, Nat.reduceLT, Nat.reduceAdd, Nat.reduceMul, Nat.reduceSub, Nat.reduceLeDiff, Nat.reduceEqDiff, Int.reduceToNat, Int.reduceLT, Int.reduceLE, Int.reduceAdd, Int.reduceSub, Int.reduceEq, reduceIte, Nat.reduceBNe, Int.reducePow, Nat.reducePow, Int.reduceMul, Int.reduceNeg, isB_i, isB_b, isB_y, isBv_i, isBv_b, eqCells_t, TT]
  exact ⟨hl1, fun k hk => hk1 k (by omega) (by omega)⟩
end Go.Proofs.Ytflccffjfnfoiaa.Sx
