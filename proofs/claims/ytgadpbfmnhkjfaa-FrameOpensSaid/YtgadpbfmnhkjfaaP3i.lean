/- The symbolic executor, at work: frames are opened as the reference opens them. No condition. -/
import Derived.Test.YtgadpbfmnhkjfaaP3h
namespace Go.Proofs.Ytgadpbfmnhkjfaa.Sx
open Go
set_option linter.unusedSimpArgs false
set_option linter.unusedVariables false
set_option maxRecDepth 10000
set_option maxHeartbeats 2000000

theorem ropenS_spec (l sp : List UInt8) (c : Nat) (hl : l.length < 60) : Spec cx.P 15 [.c (roB l sp c)] [] fun s _ => s.plain = true ∧ s = errFr 5 := by
  have d0 : decide ((l.length : Int) < 60) = true := by simp only [decide_eq_true_eq]; omega
  refine spec_of_X cx_ok Try.func15 rfl (by kernel_rfl) (by kernel_rfl) (Nat.le_of_ble_eq_true rfl) 400 7 ?_
  simp (maxSteps := 4000000) only [Try.results15, XX, Nat.reduceBEq, Nat.reduceLT, Nat.reduceAdd, Nat.reduceMul, Nat.reduceSub, Nat.reduceLeDiff, Nat.reduceEqDiff, Int.reduceToNat, Int.reduceLT, Int.reduceLE, Int.reduceAdd, Int.reduceSub, Int.reduceEq, reduceIte, Nat.reduceBNe, Int.reducePow, Nat.reducePow, Int.reduceMul, Int.reduceNeg, isB_i, isB_b, isB_y, isBv_i, isBv_b, eqCells_t, TT]
  simp (maxSteps := 4000000) only [Try.results15, d0, XX, Nat.reduceBEq, Nat.reduceLT, Nat.reduceAdd, Nat.reduceMul, Nat.reduceSub, Nat.reduceLeDiff, Nat.reduceEqDiff, Int.reduceToNat, Int.reduceLT, Int.reduceLE, Int.reduceAdd, Int.reduceSub, Int.reduceEq, reduceIte, Nat.reduceBNe, Int.reducePow, Nat.reducePow, Int.reduceMul, Int.reduceNeg, isB_i, isB_b, isB_y, isBv_i, isBv_b, eqCells_t, TT]
  rfl

theorem ropenL_spec (l sp : List UInt8) (c : Nat) (hl : 1514 < l.length) : Spec cx.P 15 [.c (roB l sp c)] [] fun s _ => s.plain = true ∧ s = errFr 2 := by
  have d0 : decide ((l.length : Int) < 60) = false := by simp only [decide_eq_false_iff_not]; omega
  have d1 : decide (1514 < (l.length : Int)) = true := by simp only [decide_eq_true_eq]; omega
  refine spec_of_X cx_ok Try.func15 rfl (by kernel_rfl) (by kernel_rfl) (Nat.le_of_ble_eq_true rfl) 400 7 ?_
  simp (maxSteps := 4000000) only [Try.results15, XX, Nat.reduceBEq, Nat.reduceLT, Nat.reduceAdd, Nat.reduceMul, Nat.reduceSub, Nat.reduceLeDiff, Nat.reduceEqDiff, Int.reduceToNat, Int.reduceLT, Int.reduceLE, Int.reduceAdd, Int.reduceSub, Int.reduceEq, reduceIte, Nat.reduceBNe, Int.reducePow, Nat.reducePow, Int.reduceMul, Int.reduceNeg, isB_i, isB_b, isB_y, isBv_i, isBv_b, eqCells_t, TT]
  simp (maxSteps := 4000000) only [Try.results15, d0, d1, XX, Nat.reduceBEq, Nat.reduceLT, Nat.reduceAdd, Nat.reduceMul, Nat.reduceSub, Nat.reduceLeDiff, Nat.reduceEqDiff, Int.reduceToNat, Int.reduceLT, Int.reduceLE, Int.reduceAdd, Int.reduceSub, Int.reduceEq, reduceIte, Nat.reduceBNe, Int.reducePow, Nat.reducePow, Int.reduceMul, Int.reduceNeg, isB_i, isB_b, isB_y, isBv_i, isBv_b, eqCells_t, TT]
  rfl

theorem two_mul (a b : UInt8) : IntKind.i64.wrap (IntKind.i64.wrap (IntKind.i64.wrap (a.toNat : Int) * 256) + IntKind.i64.wrap (b.toNat : Int)) = ((a.toNat * 256 + b.toNat : Nat) : Int) := by
  have := a.toNat_lt
  have := b.toNat_lt
  rw [w64 (x := (a.toNat : Int)) (by omega) (by omega), w64 (x := (b.toNat : Int)) (by omega) (by omega), w64 (x := (a.toNat : Int) * 256) (by omega) (by omega), w64 (by omega) (by omega)]
  omega

theorem ropenK_spec (d s : M6) (k1 k0 : UInt8) (t sp l : List UInt8) (he : l = rawL d s k1 k0 t) (c : Nat) (ht : 46 ≤ t.length) (ht' : t.length ≤ 1500) (hc : l.length ≤ c) (hk : k1.toNat * 256 + k0.toNat < 1536) : Spec cx.P 15 [.c (roB l sp c)] [] fun s _ => s.plain = true ∧ s = errFr 30 := by
  have hl : l.length = 14 + t.length := by rw [he]; simp; omega
  have d0 : decide ((l.length : Int) < 60) = false := by simp only [decide_eq_false_iff_not]; omega
  have d1 : decide (1514 < (l.length : Int)) = false := by simp only [decide_eq_false_iff_not]; omega
  have d2 : decide (((k1.toNat * 256 + k0.toNat : Nat) : Int) < 1536) = true := by simp only [decide_eq_true_eq]; omega
  have e4 : bsR (l ++ sp) = byteR d.a :: byteR d.b :: byteR d.c :: byteR d.d :: byteR d.e :: byteR d.f :: byteR s.a :: byteR s.b :: byteR s.c :: byteR s.d :: byteR s.e :: byteR s.f :: byteR k1 :: byteR k0 :: bsR (t ++ sp) := by subst he; rfl
  have eb : ∀ b : UInt8, (byteR b).toSC = SC.v (.int .u8 b.toNat) := fun _ => rfl
  refine spec_of_X cx_ok Try.func15 rfl (by kernel_rfl) (by kernel_rfl) (Nat.le_of_ble_eq_true rfl) 400 7 ?_
  simp (maxSteps := 4000000) only [Try.results15, XX, Nat.reduceBEq, Nat.reduceLT, Nat.reduceAdd, Nat.reduceMul, Nat.reduceSub, Nat.reduceLeDiff, Nat.reduceEqDiff, Int.reduceToNat, Int.reduceLT, Int.reduceLE, Int.reduceAdd, Int.reduceSub, Int.reduceEq, reduceIte, Nat.reduceBNe, Int.reducePow, Nat.reducePow, Int.reduceMul, Int.reduceNeg, isB_i, isB_b, isB_y, isBv_i, isBv_b, eqCells_t, TT]
  simp (maxSteps := 4000000) only [Try.results15, d0, d1, XX, Nat.reduceBEq, Nat.reduceLT, Nat.reduceAdd, Nat.reduceMul, Nat.reduceSub, Nat.reduceLeDiff, Nat.reduceEqDiff, Int.reduceToNat, Int.reduceLT, Int.reduceLE, Int.reduceAdd, Int.reduceSub, Int.reduceEq, reduceIte, Nat.reduceBNe, Int.reducePow, Nat.reducePow, Int.reduceMul, Int.reduceNeg, isB_i, isB_b, isB_y, isBv_i, isBv_b, eqCells_t, TT]
  refine draw_of cx_ok (by kernel_rfl) 400 [] [(0, true), (1, true), (2, true), (3, true), (4, true), (5, true), (6, true), (7, true), (8, true), (9, true), (10, true)] (by kernel_rfl) rfl ?_
  simp (maxSteps := 4000000) only [Try.results15, e4, eb, two_mul, d2, XX, Nat.reduceBEq, Nat.reduceLT, Nat.reduceAdd, Nat.reduceMul, Nat.reduceSub, Nat.reduceLeDiff, Nat.reduceEqDiff, Int.reduceToNat, Int.reduceLT, Int.reduceLE, Int.reduceAdd, Int.reduceSub, Int.reduceEq, reduceIte, Nat.reduceBNe, Int.reducePow, Nat.reducePow, Int.reduceMul, Int.reduceNeg, isB_i, isB_b, isB_y, isBv_i, isBv_b, eqCells_t, TT]
  refine ⟨by omega, by omega, by omega, by omega, rfl⟩

/-- What opening comes to. -/
structure FR where
  d : M6
  s : M6
  k : Nat
  l : List UInt8
  e : Int
def resF (q : FR) (t : SV) (h' : List SB) : Prop := ∃ sp o, t = .tup [(true, fraC q.d q.s q.k (slB 0 q.l sp)), (false, [i64 q.e])] ∧ h' = [wB o (q.l ++ sp)] ∧ (0 < q.l.length + sp.length → o = true)
theorem resF_nil {P : Program} {f : FuncId} {args : List SV} {e : Int} (s : Spec P f args [] fun s _ => s.plain = true ∧ s = errFr e) : Spec P f args [] (resF ⟨.nul, .nul, 0, [], e⟩) :=
  s.wk fun t h' ⟨_, h1⟩ => ⟨.tup [(true, fraC .nul .nul (0 : Nat) (slB 0 [] [])), (false, [i64 e])], [wB false ([] ++ [])], [none], rfl, by simp only [XX, Nat.reduceBEq, Nat.reduceLT, Nat.reduceAdd, Nat.reduceMul, Nat.reduceSub, Nat.reduceLeDiff, Nat.reduceEqDiff, Int.reduceToNat, Int.reduceLT, Int.reduceLE, Int.reduceAdd, Int.reduceSub, Int.reduceEq, reduceIte, Nat.reduceBNe, Int.reducePow, Nat.reducePow, Int.reduceMul, Int.reduceNeg, isB_i, isB_b, isB_y, isBv_i, isBv_b, eqCells_t, TT, List.map_nil], by
    subst h1
    exact .inr ⟨rfl, ⟨.inl ⟨rfl, rfl⟩, .inl ⟨rfl, rfl⟩, .inl ⟨rfl, rfl⟩, .inl ⟨rfl, rfl⟩, .inl ⟨rfl, rfl⟩, .inl ⟨rfl, rfl⟩, .inl ⟨rfl, rfl⟩, .inl ⟨rfl, rfl⟩, .inl ⟨rfl, rfl⟩, .inl ⟨rfl, rfl⟩, .inl ⟨rfl, rfl⟩, .inl ⟨rfl, rfl⟩, .inl ⟨rfl, rfl⟩, .inr (.inr ⟨_, _, rfl, .inl rfl⟩), trivial⟩, rfl, ⟨.inl ⟨rfl, rfl⟩, trivial⟩, trivial⟩, [], false, rfl, rfl, fun h => absurd h (by simp)⟩

theorem ropen_spec (d s : M6) (k1 k0 : UInt8) (t sp l : List UInt8) (he : l = rawL d s k1 k0 t) (c : Nat) (ht : 46 ≤ t.length) (ht' : t.length ≤ 1500) (hc : l.length ≤ c) (hk : 1536 ≤ k1.toNat * 256 + k0.toNat) : Spec cx.P 15 [.c (roB l sp c)] [] (resF ⟨d, s, k1.toNat * 256 + k0.toNat, t, 0⟩) := by
  have hl : l.length = 14 + t.length := by rw [he]; simp; omega
  have d0 : decide ((l.length : Int) < 60) = false := by simp only [decide_eq_false_iff_not]; omega
  have d1 : decide (1514 < (l.length : Int)) = false := by simp only [decide_eq_false_iff_not]; omega
  have d2 : decide (((k1.toNat * 256 + k0.toNat : Nat) : Int) < 1536) = false := by simp only [decide_eq_false_iff_not]; omega
  have e4 : bsR (l ++ sp) = byteR d.a :: byteR d.b :: byteR d.c :: byteR d.d :: byteR d.e :: byteR d.f :: byteR s.a :: byteR s.b :: byteR s.c :: byteR s.d :: byteR s.e :: byteR s.f :: byteR k1 :: byteR k0 :: bsR (t ++ sp) := by subst he; rfl
  have eb : ∀ b : UInt8, (byteR b).toSC = byteC b := fun _ => rfl
  have eb' : ∀ b : UInt8, (byteR b).toSC = SC.v (.int .u8 b.toNat) := fun _ => rfl
  have key : Spec cx.P 15 [.c (roB l sp c)] [] fun q h' => ∃ r, q = .tup [(true, fraC d s (k1.toNat * 256 + k0.toNat : Nat) (.sl 2 0 t.length (t.length + r))), (false, [i64 0])] ∧ ∃ a b, h' = [a, b, wB true (t ++ List.replicate r 0)] := by
    refine spec_of_X cx_ok Try.func15 rfl (by kernel_rfl) (by kernel_rfl) (Nat.le_of_ble_eq_true rfl) 400 7 ?_
    simp (maxSteps := 4000000) only [Try.results15, XX, Nat.reduceBEq, Nat.reduceLT, Nat.reduceAdd, Nat.reduceMul, Nat.reduceSub, Nat.reduceLeDiff, Nat.reduceEqDiff, Int.reduceToNat, Int.reduceLT, Int.reduceLE, Int.reduceAdd, Int.reduceSub, Int.reduceEq, reduceIte, Nat.reduceBNe, Int.reducePow, Nat.reducePow, Int.reduceMul, Int.reduceNeg, isB_i, isB_b, isB_y, isBv_i, isBv_b, eqCells_t, TT]
    simp (maxSteps := 4000000) only [Try.results15, d0, d1, XX, Nat.reduceBEq, Nat.reduceLT, Nat.reduceAdd, Nat.reduceMul, Nat.reduceSub, Nat.reduceLeDiff, Nat.reduceEqDiff, Int.reduceToNat, Int.reduceLT, Int.reduceLE, Int.reduceAdd, Int.reduceSub, Int.reduceEq, reduceIte, Nat.reduceBNe, Int.reducePow, Nat.reducePow, Int.reduceMul, Int.reduceNeg, isB_i, isB_b, isB_y, isBv_i, isBv_b, eqCells_t, TT]
    refine draw_of cx_ok (by kernel_rfl) 400 [] [(0, true), (1, true), (2, true), (3, true), (4, true), (5, true), (6, true), (7, true), (8, true), (9, true), (10, true)] (by kernel_rfl) rfl ?_
    simp (maxSteps := 4000000) only [Try.results15, e4, eb', two_mul, d2, XX, Nat.reduceBEq, Nat.reduceLT, Nat.reduceAdd, Nat.reduceMul, Nat.reduceSub, Nat.reduceLeDiff, Nat.reduceEqDiff, Int.reduceToNat, Int.reduceLT, Int.reduceLE, Int.reduceAdd, Int.reduceSub, Int.reduceEq, reduceIte, Nat.reduceBNe, Int.reducePow, Nat.reducePow, Int.reduceMul, Int.reduceNeg, isB_i, isB_b, isB_y, isBv_i, isBv_b, eqCells_t, TT]
    refine ⟨by omega, by omega, by omega, by omega, ?_⟩
    refine loop_rounds cx_ok 600 7 ?_
    simp (maxSteps := 4000000) only [Try.results15, e4, eb, w64, XX, Nat.reduceBEq, Nat.reduceLT, Nat.reduceAdd, Nat.reduceMul, Nat.reduceSub, Nat.reduceLeDiff, Nat.reduceEqDiff, Int.reduceToNat, Int.reduceLT, Int.reduceLE, Int.reduceAdd, Int.reduceSub, Int.reduceEq, reduceIte, Nat.reduceBNe, Int.reducePow, Nat.reducePow, Int.reduceMul, Int.reduceNeg, isB_i, isB_b, isB_y, isBv_i, isBv_b, eqCells_t, TT]
    refine ⟨by omega, by omega, by omega, by omega, by omega, by omega, by omega, by omega, by omega, by omega, by omega, by omega, by omega, by omega, by omega, by omega, by omega, by omega, by omega, by omega, by omega, by omega, by omega, by omega, ?_⟩
    have e2 : l.length - 14 = t.length := by omega
    have tk : (bsR (t ++ sp)).take t.length = bsR t := by rw [rs_take, List.take_left' rfl]
    refine draw_of cx_ok (by kernel_rfl) 400 [] [(0, true), (2, true), (3, true), (1, false), (4, false), (5, true), (6, false)] (by kernel_rfl) rfl ?_
    simp (maxSteps := 4000000) only [Try.results15, e4, e2, tk, bsR_toSC, bsC_len, XX, Nat.reduceBEq, Nat.reduceLT, Nat.reduceAdd, Nat.reduceMul, Nat.reduceSub, Nat.reduceLeDiff, Nat.reduceEqDiff, Int.reduceToNat, Int.reduceLT, Int.reduceLE, Int.reduceAdd, Int.reduceSub, Int.reduceEq, reduceIte, Nat.reduceBNe, Int.reducePow, Nat.reducePow, Int.reduceMul, Int.reduceNeg, isB_i, isB_b, isB_y, isBv_i, isBv_b, eqCells_t, TT]
    refine ⟨by omega, ⟨⟨by omega, by unfold maxLen; omega⟩, by simp⟩, xapp_grow (by omega) fun c3 hc3 _ => ?_⟩
    obtain ⟨r3, rfl⟩ := Nat.exists_eq_add_of_le hc3
    simp (maxSteps := 4000000) only [Try.results15, Nat.add_sub_cancel_left, zeros_flat, bs_app, XX, Nat.reduceBEq, Nat.reduceLT, Nat.reduceAdd, Nat.reduceMul, Nat.reduceSub, Nat.reduceLeDiff, Nat.reduceEqDiff, Int.reduceToNat, Int.reduceLT, Int.reduceLE, Int.reduceAdd, Int.reduceSub, Int.reduceEq, reduceIte, Nat.reduceBNe, Int.reducePow, Nat.reducePow, Int.reduceMul, Int.reduceNeg, isB_i, isB_b, isB_y, isBv_i, isBv_b, eqCells_t, TT]
    exact ⟨r3, rfl, _, _, rfl⟩
  exact key.wk fun q h' ⟨r, h1, a, b, h2⟩ => ⟨.tup [(true, fraC d s (k1.toNat * 256 + k0.toNat : Nat) (slB 0 t (List.replicate r 0))), (false, [i64 0])], [wB true (t ++ List.replicate r 0)], [some 2], rfl, by subst h2; simp only [XX, Nat.reduceBEq, Nat.reduceLT, Nat.reduceAdd, Nat.reduceMul, Nat.reduceSub, Nat.reduceLeDiff, Nat.reduceEqDiff, Int.reduceToNat, Int.reduceLT, Int.reduceLE, Int.reduceAdd, Int.reduceSub, Int.reduceEq, reduceIte, Nat.reduceBNe, Int.reducePow, Nat.reducePow, Int.reduceMul, Int.reduceNeg, isB_i, isB_b, isB_y, isBv_i, isBv_b, eqCells_t, TT, ids_bsC, ren_bsC, noRo_bsC, plain_bsC, lt_bsC, ids_byte, ren_byte, noRo_byte, plain_byte, lt_byte], by subst h1; simp only [XX, Nat.reduceBEq, Nat.reduceLT, Nat.reduceAdd, Nat.reduceMul, Nat.reduceSub, Nat.reduceLeDiff, Nat.reduceEqDiff, Int.reduceToNat, Int.reduceLT, Int.reduceLE, Int.reduceAdd, Int.reduceSub, Int.reduceEq, reduceIte, Nat.reduceBNe, Int.reducePow, Nat.reducePow, Int.reduceMul, Int.reduceNeg, isB_i, isB_b, isB_y, isBv_i, isBv_b, eqCells_t, TT, ids_bsC, ren_bsC, noRo_bsC, plain_bsC, lt_bsC, ids_byte, ren_byte, noRo_byte, plain_byte, lt_byte, slB, List.length_replicate], List.replicate r 0, true, rfl, rfl, fun _ => rfl⟩

def openR (l : List UInt8) : FR :=
  if l.length < 60 then ⟨.nul, .nul, 0, [], 5⟩ else if 1514 < l.length then ⟨.nul, .nul, 0, [], 2⟩
  else match l with
    | a :: b :: c :: d :: e :: f :: a' :: b' :: c' :: d' :: e' :: f' :: k1 :: k0 :: t => if k1.toNat * 256 + k0.toNat < 1536 then ⟨.nul, .nul, 0, [], 30⟩ else ⟨⟨a, b, c, d, e, f⟩, ⟨a', b', c', d', e', f'⟩, k1.toNat * 256 + k0.toNat, t, 0⟩
    | _ => ⟨.nul, .nul, 0, [], 5⟩
theorem openR_len (l : List UInt8) : (openR l).l.length ≤ 1600 := by
  unfold openR
  split
  · simp
  · split
    · simp
    · split
      · split
        · simp
        · rename_i h _; simp at h ⊢; omega
      · simp

theorem raw_form' {l : List UInt8} (h : 14 ≤ l.length) : ∃ d s k1 k0 t, l = rawL d s k1 k0 t := by
  match l, h with
  | a :: b :: c :: d :: e :: f :: a' :: b' :: c' :: d' :: e' :: f' :: k1 :: k0 :: t, _ => exact ⟨⟨a, b, c, d, e, f⟩, ⟨a', b', c', d', e', f'⟩, k1, k0, t, rfl⟩

theorem fopenA_spec (l sp : List UInt8) (c : Nat) (hc : l.length ≤ c) : Spec cx.P 16 [.c (roB l sp c)] [] (resF (openR l)) := by
  by_cases h1 : l.length < 60
  · unfold openR; rw [if_pos h1]; exact resF_nil (fopenS_spec l sp c h1)
  by_cases h2 : 1514 < l.length
  · unfold openR; rw [if_neg h1, if_pos h2]; exact resF_nil (fopenL_spec l sp c h2)
  obtain ⟨d, s, k1, k0, t, hl⟩ := raw_form' (l := l) (by omega)
  have hlt : l.length = 14 + t.length := by rw [hl]; simp; omega
  unfold openR
  rw [if_neg h1, if_neg h2]
  by_cases h3 : k1.toNat * 256 + k0.toNat < 1536
  · have := resF_nil (fopenK_spec d s k1 k0 t sp l hl c (by omega) (by omega) hc h3)
    subst hl
    dsimp only
    rw [if_pos h3]
    exact this
  · have := fopen_spec d s k1 k0 t sp l hl c (by omega) (by omega) hc (by omega)
    subst hl
    dsimp only
    rw [if_neg h3]
    refine this.mono fun t h' ⟨r, h1, h2⟩ => ⟨List.replicate r 0, true, by subst h1; simp only [slB, List.length_replicate], h2, fun _ => rfl⟩

theorem ropenA_spec (l sp : List UInt8) (c : Nat) (hc : l.length ≤ c) : Spec cx.P 15 [.c (roB l sp c)] [] (resF (openR l)) := by
  by_cases h1 : l.length < 60
  · unfold openR; rw [if_pos h1]; exact resF_nil (ropenS_spec l sp c h1)
  by_cases h2 : 1514 < l.length
  · unfold openR; rw [if_neg h1, if_pos h2]; exact resF_nil (ropenL_spec l sp c h2)
  obtain ⟨d, s, k1, k0, t, hl⟩ := raw_form' (l := l) (by omega)
  have hlt : l.length = 14 + t.length := by rw [hl]; simp; omega
  unfold openR
  rw [if_neg h1, if_neg h2]
  by_cases h3 : k1.toNat * 256 + k0.toNat < 1536
  · have := resF_nil (ropenK_spec d s k1 k0 t sp l hl c (by omega) (by omega) hc h3)
    subst hl
    dsimp only
    rw [if_pos h3]
    exact this
  · have := ropen_spec d s k1 k0 t sp l hl c (by omega) (by omega) hc (by omega)
    subst hl
    dsimp only
    rw [if_neg h3]
    exact this

theorem rsame_spec (d s : M6) (k : Int) (l z z' : List UInt8) (c c' : Nat) : Spec cx.P 17 [.agg (fraC d s k (roB l z c)), .agg (fraC d s k (roB l z' c'))] [] fun t _ => t.plain = true ∧ t = .c (bC true) := by
  have m9 : ∀ l sp : List UInt8, (bsR (l ++ sp)).take l.length = bsR l := fun l sp => by rw [rs_take, List.take_left' rfl]
  refine spec_of_X cx_ok Try.func17 rfl (by kernel_rfl) (by kernel_rfl) (Nat.le_of_ble_eq_true rfl) 400 5 ?_
  simp (maxSteps := 4000000) only [Try.results17, XX, Nat.reduceBEq, Nat.reduceLT, Nat.reduceAdd, Nat.reduceMul, Nat.reduceSub, Nat.reduceLeDiff, Nat.reduceEqDiff, Int.reduceToNat, Int.reduceLT, Int.reduceLE, Int.reduceAdd, Int.reduceSub, Int.reduceEq, reduceIte, Nat.reduceBNe, Int.reducePow, Nat.reducePow, Int.reduceMul, Int.reduceNeg, isB_i, isB_b, isB_y, isBv_i, isBv_b, eqCells_t, TT]
  simp (maxSteps := 4000000) only [Try.results17, eqM, m9, bsR_toSC, strOf_bsC, str_eq, XX, Nat.reduceBEq, Nat.reduceLT, Nat.reduceAdd, Nat.reduceMul, Nat.reduceSub, Nat.reduceLeDiff, Nat.reduceEqDiff, Int.reduceToNat, Int.reduceLT, Int.reduceLE, Int.reduceAdd, Int.reduceSub, Int.reduceEq, reduceIte, Nat.reduceBNe, Int.reducePow, Nat.reducePow, Int.reduceMul, Int.reduceNeg, isB_i, isB_b, isB_y, isBv_i, isBv_b, eqCells_t, TT]
  exact ⟨⟨by simp, isByte_bsC l⟩, by simp, isByte_bsC l⟩

theorem resF_noRo {q : FR} {t : SV} {h' : List SB} (h : resF q t h') : t.noRo = true ∧ (h'.all fun b => b.cells.all SC.noRo) = true := by
  obtain ⟨sp, o, rfl, rfl, _⟩ := h
  exact ⟨rfl, by simp only [XX, Nat.reduceBEq, Nat.reduceLT, Nat.reduceAdd, Nat.reduceMul, Nat.reduceSub, Nat.reduceLeDiff, Nat.reduceEqDiff, Int.reduceToNat, Int.reduceLT, Int.reduceLE, Int.reduceAdd, Int.reduceSub, Int.reduceEq, reduceIte, Nat.reduceBNe, Int.reducePow, Nat.reducePow, Int.reduceMul, Int.reduceNeg, isB_i, isB_b, isB_y, isBv_i, isBv_b, eqCells_t, TT, ids_bsC, ren_bsC, noRo_bsC, plain_bsC, lt_bsC, ids_byte, ren_byte, noRo_byte, plain_byte, lt_byte]⟩
/-- A window, or none, is read alone. -/
theorem fz_any {r : Nat → Nat} {n : Nat} {h : List SB} {i : Nat} {l sp : List UInt8} {o : Bool} (hb : h[i]? = some (wB o (l ++ sp))) (ho : 0 < l.length + sp.length → o = true) : frC true (fun _ => true) r n h (slB i l sp) (roB l sp (l.length + sp.length)) := by
  by_cases hp : 0 < l.length + sp.length
  · have := ho hp
    subst this
    exact fz_sl hb rfl rfl
  · have h1 : l = [] := List.eq_nil_of_length_eq_zero (by omega)
    have h2 : sp = [] := List.eq_nil_of_length_eq_zero (by omega)
    subst h1; subst h2
    exact .inr ⟨rfl, .inl ⟨_, _, _, rfl, .inr (.inr ⟨i, 0, rfl, .inl ⟨rfl, rfl⟩⟩)⟩⟩
theorem lent_noRo {l : List UInt8} {n c : Nat} {t : SV} {h' : List SB} (h : t = .c (.sl 0 0 n c) ∧ h' = [wB true l]) : t.noRo = true ∧ (h'.all fun b => b.cells.all SC.noRo) = true := by
  obtain ⟨rfl, rfl⟩ := h
  exact ⟨rfl, by simp only [XX, Nat.reduceBEq, Nat.reduceLT, Nat.reduceAdd, Nat.reduceMul, Nat.reduceSub, Nat.reduceLeDiff, Nat.reduceEqDiff, Int.reduceToNat, Int.reduceLT, Int.reduceLE, Int.reduceAdd, Int.reduceSub, Int.reduceEq, reduceIte, Nat.reduceBNe, Int.reducePow, Nat.reducePow, Int.reduceMul, Int.reduceNeg, isB_i, isB_b, isB_y, isBv_i, isBv_b, eqCells_t, TT, ids_bsC, ren_bsC, noRo_bsC, plain_bsC, lt_bsC, ids_byte, ren_byte, noRo_byte, plain_byte, lt_byte]⟩

theorem frameOpens_walk : ∀ css, RTyL (RTy T reachBytes DEPTH) [25, 25] css → Spec Try.prog 5 (svs T [25, 25] css) [] fun r _ => r = .c (.v (.bool true)) := by
  intro css h
  obtain ⟨x3, xs3, rfl, h3, g3⟩ := RTyL_cons h
  obtain ⟨x4, xs4, rfl, h4, g4⟩ := RTyL_cons g3
  obtain rfl := RTyL_nil g4
  obtain ⟨l, sp, c, rfl, hl1, hl2, hl3, hl4⟩ := RTy_bytes h3
  obtain ⟨l', sp', c', rfl, hl1', hl2', hl3', hl4'⟩ := RTy_bytes h4
  have e3 : svOf T 25 [.sl (bsR (l ++ sp)) l.length c] = .c (roB l sp c) := rfl
  have e4 : svOf T 25 [.sl (bsR (l' ++ sp')) l'.length c'] = .c (roB l' sp' c') := rfl
  simp only [svs, e3, e4]
  clear h3 h4 g3 g4 h e3 e4
  unfold reachBytes at hl4 hl4'
  refine spec_of_X cx_ok Try.func5 rfl (by kernel_rfl) (by kernel_rfl) (Nat.le_of_ble_eq_true rfl) 400 24 ?_
  simp (maxSteps := 4000000) only [Try.results5, XX, Nat.reduceBEq, Nat.reduceLT, Nat.reduceAdd, Nat.reduceMul, Nat.reduceSub, Nat.reduceLeDiff, Nat.reduceEqDiff, Int.reduceToNat, Int.reduceLT, Int.reduceLE, Int.reduceAdd, Int.reduceSub, Int.reduceEq, reduceIte, Nat.reduceBNe, Int.reducePow, Nat.reducePow, Int.reduceMul, Int.reduceNeg, isB_i, isB_b, isB_y, isBv_i, isBv_b, eqCells_t, TT]
  refine call_plain (awake_spec) rfl ?_
  rintro _ rfl
  simp (maxSteps := 4000000) only [Try.results5, XX, Nat.reduceBEq, Nat.reduceLT, Nat.reduceAdd, Nat.reduceMul, Nat.reduceSub, Nat.reduceLeDiff, Nat.reduceEqDiff, Int.reduceToNat, Int.reduceLT, Int.reduceLE, Int.reduceAdd, Int.reduceSub, Int.reduceEq, reduceIte, Nat.reduceBNe, Int.reducePow, Nat.reducePow, Int.reduceMul, Int.reduceNeg, isB_i, isB_b, isB_y, isBv_i, isBv_b, eqCells_t, TT]
  have hF := ropenA_spec l sp c hl1
  have hG := ropenA_spec l' sp' c' hl1'
  have hA := fopenA_spec l [71, 72] (l.length + 2) (by omega)
  have hB := fopenA_spec l' [71, 72] (l'.length + 2) (by omega)
  have n1 := openR_len l
  have n2 := openR_len l'
  generalize openR l = R at *
  generalize openR l' = R' at *
  obtain ⟨d, s, k, L, E⟩ := R
  obtain ⟨d', s', k', L', E'⟩ := R'
  dsimp only at n1 n2
  refine call_fz [.c (roB l sp c)] hF (fun t h' h => resF_noRo h) ⟨.inl ⟨rfl, rfl⟩, trivial⟩ ?_
  rintro _ _ ⟨z1, o1, rfl, rfl, ho1⟩
  dsimp only at ho1 ⊢
  simp (maxSteps := 4000000) only [Try.results5, ids_bsC, ren_bsC, noRo_bsC, plain_bsC, lt_bsC, ids_byte, ren_byte, noRo_byte, plain_byte, lt_byte, XX, Nat.reduceBEq, Nat.reduceLT, Nat.reduceAdd, Nat.reduceMul, Nat.reduceSub, Nat.reduceLeDiff, Nat.reduceEqDiff, Int.reduceToNat, Int.reduceLT, Int.reduceLE, Int.reduceAdd, Int.reduceSub, Int.reduceEq, reduceIte, Nat.reduceBNe, Int.reducePow, Nat.reducePow, Int.reduceMul, Int.reduceNeg, isB_i, isB_b, isB_y, isBv_i, isBv_b, eqCells_t, TT]
  refine call_fz [.c (roB l' sp' c')] hG (fun t h' h => resF_noRo h) ⟨.inl ⟨rfl, rfl⟩, trivial⟩ ?_
  rintro _ _ ⟨z2, o2, rfl, rfl, ho2⟩
  dsimp only at ho2 ⊢
  simp (maxSteps := 4000000) only [Try.results5, ids_bsC, ren_bsC, noRo_bsC, plain_bsC, lt_bsC, ids_byte, ren_byte, noRo_byte, plain_byte, lt_byte, XX, Nat.reduceBEq, Nat.reduceLT, Nat.reduceAdd, Nat.reduceMul, Nat.reduceSub, Nat.reduceLeDiff, Nat.reduceEqDiff, Int.reduceToNat, Int.reduceLT, Int.reduceLE, Int.reduceAdd, Int.reduceSub, Int.reduceEq, reduceIte, Nat.reduceBNe, Int.reducePow, Nat.reducePow, Int.reduceMul, Int.reduceNeg, isB_i, isB_b, isB_y, isBv_i, isBv_b, eqCells_t, TT]
  refine call_fz [.c (roB l sp c)] (lent_spec l sp c (by omega)) (fun t h' h => lent_noRo h) ⟨.inl ⟨rfl, rfl⟩, trivial⟩ ?_
  rintro _ _ ⟨rfl, rfl⟩
  simp (maxSteps := 4000000) only [Try.results5, ids_bsC, ren_bsC, noRo_bsC, plain_bsC, lt_bsC, ids_byte, ren_byte, noRo_byte, plain_byte, lt_byte, XX, Nat.reduceBEq, Nat.reduceLT, Nat.reduceAdd, Nat.reduceMul, Nat.reduceSub, Nat.reduceLeDiff, Nat.reduceEqDiff, Int.reduceToNat, Int.reduceLT, Int.reduceLE, Int.reduceAdd, Int.reduceSub, Int.reduceEq, reduceIte, Nat.reduceBNe, Int.reducePow, Nat.reducePow, Int.reduceMul, Int.reduceNeg, isB_i, isB_b, isB_y, isBv_i, isBv_b, eqCells_t, TT]
  refine call_fz [.c (roB l' sp' c')] (lent_spec l' sp' c' (by omega)) (fun t h' h => lent_noRo h) ⟨.inl ⟨rfl, rfl⟩, trivial⟩ ?_
  rintro _ _ ⟨rfl, rfl⟩
  simp (maxSteps := 4000000) only [Try.results5, ids_bsC, ren_bsC, noRo_bsC, plain_bsC, lt_bsC, ids_byte, ren_byte, noRo_byte, plain_byte, lt_byte, XX, Nat.reduceBEq, Nat.reduceLT, Nat.reduceAdd, Nat.reduceMul, Nat.reduceSub, Nat.reduceLeDiff, Nat.reduceEqDiff, Int.reduceToNat, Int.reduceLT, Int.reduceLE, Int.reduceAdd, Int.reduceSub, Int.reduceEq, reduceIte, Nat.reduceBNe, Int.reducePow, Nat.reducePow, Int.reduceMul, Int.reduceNeg, isB_i, isB_b, isB_y, isBv_i, isBv_b, eqCells_t, TT]
  have hx : ∀ {r : Nat → Nat} {n : Nat} {h : List SB} {i : Nat}, h[i]? = some (wB true (l ++ [71, 72])) → frC true (fun _ => true) r n h (.sl i 0 l.length (l.length + 2)) (roB l [71, 72] (l.length + 2)) := fun hb => fz_sl hb rfl rfl
  have hy : ∀ {r : Nat → Nat} {n : Nat} {h : List SB} {i : Nat}, h[i]? = some (wB true (l' ++ [71, 72])) → frC true (fun _ => true) r n h (.sl i 0 l'.length (l'.length + 2)) (roB l' [71, 72] (l'.length + 2)) := fun hb => fz_sl hb rfl rfl
  refine call_fz [.c (roB l [71, 72] (l.length + 2))] hA (fun t h' h => resF_noRo h) ⟨fz_c (hx rfl), trivial⟩ ?_
  rintro _ _ ⟨z3, o3, rfl, rfl, ho3⟩
  dsimp only at ho3 ⊢
  simp (maxSteps := 4000000) only [Try.results5, ids_bsC, ren_bsC, noRo_bsC, plain_bsC, lt_bsC, ids_byte, ren_byte, noRo_byte, plain_byte, lt_byte, XX, Nat.reduceBEq, Nat.reduceLT, Nat.reduceAdd, Nat.reduceMul, Nat.reduceSub, Nat.reduceLeDiff, Nat.reduceEqDiff, Int.reduceToNat, Int.reduceLT, Int.reduceLE, Int.reduceAdd, Int.reduceSub, Int.reduceEq, reduceIte, Nat.reduceBNe, Int.reducePow, Nat.reducePow, Int.reduceMul, Int.reduceNeg, isB_i, isB_b, isB_y, isBv_i, isBv_b, eqCells_t, TT]
  refine call_fz [.c (roB l' [71, 72] (l'.length + 2))] hB (fun t h' h => resF_noRo h) ⟨fz_c (hy rfl), trivial⟩ ?_
  rintro _ _ ⟨z4, o4, rfl, rfl, ho4⟩
  dsimp only at ho4 ⊢
  simp (maxSteps := 4000000) only [Try.results5, ids_bsC, ren_bsC, noRo_bsC, plain_bsC, lt_bsC, ids_byte, ren_byte, noRo_byte, plain_byte, lt_byte, XX, Nat.reduceBEq, Nat.reduceLT, Nat.reduceAdd, Nat.reduceMul, Nat.reduceSub, Nat.reduceLeDiff, Nat.reduceEqDiff, Int.reduceToNat, Int.reduceLT, Int.reduceLE, Int.reduceAdd, Int.reduceSub, Int.reduceEq, reduceIte, Nat.reduceBNe, Int.reducePow, Nat.reducePow, Int.reduceMul, Int.reduceNeg, isB_i, isB_b, isB_y, isBv_i, isBv_b, eqCells_t, TT]
  refine call_fz [.c (roB l [71, 72] (l.length + 2))] hA (fun t h' h => resF_noRo h) ⟨fz_c (hx rfl), trivial⟩ ?_
  rintro _ _ ⟨z5, o5, rfl, rfl, ho5⟩
  dsimp only at ho5 ⊢
  simp (maxSteps := 4000000) only [Try.results5, ids_bsC, ren_bsC, noRo_bsC, plain_bsC, lt_bsC, ids_byte, ren_byte, noRo_byte, plain_byte, lt_byte, XX, Nat.reduceBEq, Nat.reduceLT, Nat.reduceAdd, Nat.reduceMul, Nat.reduceSub, Nat.reduceLeDiff, Nat.reduceEqDiff, Int.reduceToNat, Int.reduceLT, Int.reduceLE, Int.reduceAdd, Int.reduceSub, Int.reduceEq, reduceIte, Nat.reduceBNe, Int.reducePow, Nat.reducePow, Int.reduceMul, Int.reduceNeg, isB_i, isB_b, isB_y, isBv_i, isBv_b, eqCells_t, TT]
  refine call_frame (asLent_spec l sp c (by omega)) [4] rfl rfl ?_ rfl ?_ ?_
  · simp only [XX, Nat.reduceBEq, Nat.reduceLT, Nat.reduceAdd, Nat.reduceMul, Nat.reduceSub, Nat.reduceLeDiff, Nat.reduceEqDiff, Int.reduceToNat, Int.reduceLT, Int.reduceLE, Int.reduceAdd, Int.reduceSub, Int.reduceEq, reduceIte, Nat.reduceBNe, Int.reducePow, Nat.reducePow, Int.reduceMul, Int.reduceNeg, isB_i, isB_b, isB_y, isBv_i, isBv_b, eqCells_t, TT, preOk, ids_bsC, ren_bsC, noRo_bsC, plain_bsC, lt_bsC, ids_byte, ren_byte, noRo_byte, plain_byte, lt_byte]
  · simp only [XX, Nat.reduceBEq, Nat.reduceLT, Nat.reduceAdd, Nat.reduceMul, Nat.reduceSub, Nat.reduceLeDiff, Nat.reduceEqDiff, Int.reduceToNat, Int.reduceLT, Int.reduceLE, Int.reduceAdd, Int.reduceSub, Int.reduceEq, reduceIte, Nat.reduceBNe, Int.reducePow, Nat.reducePow, Int.reduceMul, Int.reduceNeg, isB_i, isB_b, isB_y, isBv_i, isBv_b, eqCells_t, TT, ids_bsC, ren_bsC, noRo_bsC, plain_bsC, lt_bsC, ids_byte, ren_byte, noRo_byte, plain_byte, lt_byte]
  rintro _ _ ⟨rfl, rfl⟩
  simp (maxSteps := 4000000) only [Try.results5, ids_bsC, ren_bsC, noRo_bsC, plain_bsC, lt_bsC, ids_byte, ren_byte, noRo_byte, plain_byte, lt_byte, XX, Nat.reduceBEq, Nat.reduceLT, Nat.reduceAdd, Nat.reduceMul, Nat.reduceSub, Nat.reduceLeDiff, Nat.reduceEqDiff, Int.reduceToNat, Int.reduceLT, Int.reduceLE, Int.reduceAdd, Int.reduceSub, Int.reduceEq, reduceIte, Nat.reduceBNe, Int.reducePow, Nat.reducePow, Int.reduceMul, Int.reduceNeg, isB_i, isB_b, isB_y, isBv_i, isBv_b, eqCells_t, TT]
  refine call_frame (asLent_spec l' sp' c' (by omega)) [5] rfl rfl ?_ rfl ?_ ?_
  · simp only [XX, Nat.reduceBEq, Nat.reduceLT, Nat.reduceAdd, Nat.reduceMul, Nat.reduceSub, Nat.reduceLeDiff, Nat.reduceEqDiff, Int.reduceToNat, Int.reduceLT, Int.reduceLE, Int.reduceAdd, Int.reduceSub, Int.reduceEq, reduceIte, Nat.reduceBNe, Int.reducePow, Nat.reducePow, Int.reduceMul, Int.reduceNeg, isB_i, isB_b, isB_y, isBv_i, isBv_b, eqCells_t, TT, preOk, ids_bsC, ren_bsC, noRo_bsC, plain_bsC, lt_bsC, ids_byte, ren_byte, noRo_byte, plain_byte, lt_byte]
  · simp only [XX, Nat.reduceBEq, Nat.reduceLT, Nat.reduceAdd, Nat.reduceMul, Nat.reduceSub, Nat.reduceLeDiff, Nat.reduceEqDiff, Int.reduceToNat, Int.reduceLT, Int.reduceLE, Int.reduceAdd, Int.reduceSub, Int.reduceEq, reduceIte, Nat.reduceBNe, Int.reducePow, Nat.reducePow, Int.reduceMul, Int.reduceNeg, isB_i, isB_b, isB_y, isBv_i, isBv_b, eqCells_t, TT, ids_bsC, ren_bsC, noRo_bsC, plain_bsC, lt_bsC, ids_byte, ren_byte, noRo_byte, plain_byte, lt_byte]
  rintro _ _ ⟨rfl, rfl⟩
  simp (maxSteps := 4000000) only [Try.results5, ids_bsC, ren_bsC, noRo_bsC, plain_bsC, lt_bsC, ids_byte, ren_byte, noRo_byte, plain_byte, lt_byte, XX, Nat.reduceBEq, Nat.reduceLT, Nat.reduceAdd, Nat.reduceMul, Nat.reduceSub, Nat.reduceLeDiff, Nat.reduceEqDiff, Int.reduceToNat, Int.reduceLT, Int.reduceLE, Int.reduceAdd, Int.reduceSub, Int.reduceEq, reduceIte, Nat.reduceBNe, Int.reducePow, Nat.reducePow, Int.reduceMul, Int.reduceNeg, isB_i, isB_b, isB_y, isBv_i, isBv_b, eqCells_t, TT]
  refine call_pureF [.agg (fraC d s k (roB L z3 (L.length + z3.length))), .agg (fraC d s k (roB L z1 (L.length + z1.length)))] (rsame_spec d s k L z3 z1 _ _) ⟨fra_fz (fz_any rfl ho3), fra_fz (fz_any rfl ho1), trivial⟩ ?_
  rintro _ rfl
  simp (maxSteps := 4000000) only [Try.results5, XX, Nat.reduceBEq, Nat.reduceLT, Nat.reduceAdd, Nat.reduceMul, Nat.reduceSub, Nat.reduceLeDiff, Nat.reduceEqDiff, Int.reduceToNat, Int.reduceLT, Int.reduceLE, Int.reduceAdd, Int.reduceSub, Int.reduceEq, reduceIte, Nat.reduceBNe, Int.reducePow, Nat.reducePow, Int.reduceMul, Int.reduceNeg, isB_i, isB_b, isB_y, isBv_i, isBv_b, eqCells_t, TT]
  refine call_pureF [.agg (fraC d' s' k' (roB L' z4 (L'.length + z4.length))), .agg (fraC d' s' k' (roB L' z2 (L'.length + z2.length)))] (rsame_spec d' s' k' L' z4 z2 _ _) ⟨fra_fz (fz_any rfl ho4), fra_fz (fz_any rfl ho2), trivial⟩ ?_
  rintro _ rfl
  simp (maxSteps := 4000000) only [Try.results5, XX, Nat.reduceBEq, Nat.reduceLT, Nat.reduceAdd, Nat.reduceMul, Nat.reduceSub, Nat.reduceLeDiff, Nat.reduceEqDiff, Int.reduceToNat, Int.reduceLT, Int.reduceLE, Int.reduceAdd, Int.reduceSub, Int.reduceEq, reduceIte, Nat.reduceBNe, Int.reducePow, Nat.reducePow, Int.reduceMul, Int.reduceNeg, isB_i, isB_b, isB_y, isBv_i, isBv_b, eqCells_t, TT]
  refine call_pureF [.agg (fraC d s k (roB L z5 (L.length + z5.length))), .agg (fraC d s k (roB L z1 (L.length + z1.length)))] (rsame_spec d s k L z5 z1 _ _) ⟨fra_fz (fz_any rfl ho5), fra_fz (fz_any rfl ho1), trivial⟩ ?_
  rintro _ rfl
  simp (maxSteps := 4000000) only [Try.results5, XX, Nat.reduceBEq, Nat.reduceLT, Nat.reduceAdd, Nat.reduceMul, Nat.reduceSub, Nat.reduceLeDiff, Nat.reduceEqDiff, Int.reduceToNat, Int.reduceLT, Int.reduceLE, Int.reduceAdd, Int.reduceSub, Int.reduceEq, reduceIte, Nat.reduceBNe, Int.reducePow, Nat.reducePow, Int.reduceMul, Int.reduceNeg, isB_i, isB_b, isB_y, isBv_i, isBv_b, eqCells_t, TT]
  generalize hhp : ([_, _, _, _, _, _, _, _, _, _, _, _, _] : List SB) = hp
  have w1 : hp[6]? = some (wB o3 (L ++ z3)) := by rw [← hhp]; rfl
  have w2 : hp[8]? = some (wB o4 (L' ++ z4)) := by rw [← hhp]; rfl
  have w3 : hp[10]? = some (wB o5 (L ++ z5)) := by rw [← hhp]; rfl
  have wb : hp[12]? = some (bookB nilC nilC) := by rw [← hhp]; rfl
  have y2 : hp[9]? = some ⟨true, 27, fraC d' s' k' (slB 8 L' z4)⟩ := by rw [← hhp]; rfl
  have y3 : hp[11]? = some ⟨true, 27, fraC d s k (slB 10 L z5)⟩ := by rw [← hhp]; rfl
  clear hhp
  refine call_is (take0_spec hp 12 6 L z3 o3 _ (by omega) wb w1) ?_
  rintro _ h1 ⟨rfl, iL, cL, iW, cW, B1, b1, l1, m1⟩
  have lt8 := lt_of w2
  have lt10 := lt_of w3
  have lt9 := lt_of y2
  have lt11 := lt_of y3
  have y2' := (b1.2 9 lt9 (by decide)).trans y2
  simp (maxSteps := 4000000) only [Try.results5, y2', XX, Nat.reduceBEq, Nat.reduceLT, Nat.reduceAdd, Nat.reduceMul, Nat.reduceSub, Nat.reduceLeDiff, Nat.reduceEqDiff, Int.reduceToNat, Int.reduceLT, Int.reduceLE, Int.reduceAdd, Int.reduceSub, Int.reduceEq, reduceIte, Nat.reduceBNe, Int.reducePow, Nat.reducePow, Int.reduceMul, Int.reduceNeg, isB_i, isB_b, isB_y, isBv_i, isBv_b, eqCells_t, TT]
  refine call_is (take_spec h1 12 8 _ _ _ _ _ _ L' z4 o4 _ (by omega) B1 (by simp) ((b1.2 8 lt8 (by decide)).trans w2)) ?_
  rintro _ h2 ⟨rfl, iL2, cL2, iW2, cW2, B2, b2, l2, m2⟩
  have y3' := ((b2.2 11 (by have := b1.1; omega) (by rintro (h | h | h) <;> omega)).trans (b1.2 11 lt11 (by decide))).trans y3
  simp (maxSteps := 4000000) only [Try.results5, y3', XX, Nat.reduceBEq, Nat.reduceLT, Nat.reduceAdd, Nat.reduceMul, Nat.reduceSub, Nat.reduceLeDiff, Nat.reduceEqDiff, Int.reduceToNat, Int.reduceLT, Int.reduceLE, Int.reduceAdd, Int.reduceSub, Int.reduceEq, reduceIte, Nat.reduceBNe, Int.reducePow, Nat.reducePow, Int.reduceMul, Int.reduceNeg, isB_i, isB_b, isB_y, isBv_i, isBv_b, eqCells_t, TT]
  refine call_is (take_spec h2 12 10 _ _ _ _ _ _ L z5 o5 _ (by omega) B2 (by simp) (((b2.2 10 (by have := b1.1; omega) (by rintro (h | h | h) <;> omega)).trans (b1.2 10 lt10 (by decide))).trans w3)) ?_
  rintro _ h3 ⟨rfl, iL3, cL3, iW3, cW3, B3, b3, l3, m3⟩
  simp (maxSteps := 4000000) only [Try.results5, XX, Nat.reduceBEq, Nat.reduceLT, Nat.reduceAdd, Nat.reduceMul, Nat.reduceSub, Nat.reduceLeDiff, Nat.reduceEqDiff, Int.reduceToNat, Int.reduceLT, Int.reduceLE, Int.reduceAdd, Int.reduceSub, Int.reduceEq, reduceIte, Nat.reduceBNe, Int.reducePow, Nat.reducePow, Int.reduceMul, Int.reduceNeg, isB_i, isB_b, isB_y, isBv_i, isBv_b, eqCells_t, TT]
  refine call_is (owned_spec h3 12 [⟨6, L, z3, o3⟩, ⟨8, L', z4, o4⟩, ⟨10, L, z5, o5⟩] iL3 cL3 iW3 cW3 B3 (owns3 (lt_of wb) b1 l1 m1 b2 l2 m2 b3 w1 w2 w3 (by decide) (by decide) (by decide) ho3 ho4 ho5 (by omega) (by omega) (by omega) (by decide) (by decide) (by decide)) (by simp)) ?_
  rintro _ _ rfl
  simp (maxSteps := 4000000) only [Try.results5, XX, Nat.reduceBEq, Nat.reduceLT, Nat.reduceAdd, Nat.reduceMul, Nat.reduceSub, Nat.reduceLeDiff, Nat.reduceEqDiff, Int.reduceToNat, Int.reduceLT, Int.reduceLE, Int.reduceAdd, Int.reduceSub, Int.reduceEq, reduceIte, Nat.reduceBNe, Int.reducePow, Nat.reducePow, Int.reduceMul, Int.reduceNeg, isB_i, isB_b, isB_y, isBv_i, isBv_b, eqCells_t, TT]

end Go.Proofs.Ytgadpbfmnhkjfaa.Sx
