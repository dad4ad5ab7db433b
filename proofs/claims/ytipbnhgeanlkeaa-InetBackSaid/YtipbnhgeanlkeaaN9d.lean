/- The symbolic executor, at work: heads are read. No condition. -/
import Derived.Test.YtipbnhgeanlkeaaN9c
import Derived.Test.YtipbnhgeanlkeaaSm
import Derived.Test.YtipbnhgeanlkeaaGr
import Derived.Test.YtipbnhgeanlkeaaCn
namespace Go.Proofs.Ytipbnhgeanlkeaa.Sx
open Go
set_option linter.unusedSimpArgs false
set_option linter.unusedVariables false
set_option maxRecDepth 10000
set_option maxHeartbeats 2000000

abbrev noC : SC := .v (.slice none 0 0)
structure IP where
  tos : Int
  id : Int
  ttl : Int
  proto : Int
  keep : Bool
  src : Nat
  dst : Nat
abbrev ipC (h : IP) : List SC := [i64 h.tos, i64 h.id, i64 h.ttl, i64 h.proto, bC h.keep, i32 h.src, i32 h.dst]
def IP.z : IP := ⟨0, 0, 0, 0, false, 0, 0⟩
def n16 (l : List UInt8) (k : Nat) : Nat := (l.getD k 0).toNat * 256 + (l.getD (k + 1) 0).toNat
theorem n16_lt (l : List UInt8) (k : Nat) : n16 l k < 65536 := by
  have := (l.getD k 0).toNat_lt
  have := (l.getD (k + 1) 0).toNat_lt
  unfold n16; omega
theorem get4_lt (l : List UInt8) (k : Nat) : get4 l k < 4294967296 := by
  have := (l.getD k 0).toNat_lt
  have := (l.getD (k + 1) 0).toNat_lt
  have := (l.getD (k + 2) 0).toNat_lt
  have := (l.getD (k + 3) 0).toNat_lt
  unfold get4; omega

/-- The first error of bytes. -/
def decE (l : List UInt8) : Int :=
  if l.length < 20 then 5 else if (l.getD 0 0).toNat / 16 ≠ 4 then 90 else if 5 < (l.getD 0 0).toNat % 16 then 91
  else if (l.getD 0 0).toNat % 16 ≠ 5 ∨ n16 l 2 < 20 ∨ l.length < n16 l 2 then 92 else if isum (l.take 20) ≠ 0 then 93
  else if n16 l 6 % 16384 ≠ 0 then 94 else if (l.getD 8 0).toNat = 0 then 95 else 0
def decH0 (l : List UInt8) : IP := ⟨(l.getD 1 0).toNat, n16 l 4, (l.getD 8 0).toNat, (l.getD 9 0).toNat, decide (n16 l 6 / 16384 % 2 = 1), get4 l 12, get4 l 16⟩
def decI (l : List UInt8) : IP := if decE l = 0 then decH0 l else IP.z
def decD (l : List UInt8) : List UInt8 := if decE l = 0 then (l.take (n16 l 2)).drop 20 else []

/-- What is read: a head, data, an error. -/
def resP (h : IP) (l : List UInt8) (e : Int) (t : SV) (h' : List SB) : Prop := ∃ sp o, t = .tup [(true, ipC h), (false, [slB 0 l sp]), (false, [i64 e])] ∧ h' = [wB o (l ++ sp)] ∧ (0 < l.length + sp.length → o = true)
theorem resP_noRo {h : IP} {l : List UInt8} {e : Int} {t : SV} {h' : List SB} (hh : resP h l e t h') : t.noRo = true ∧ (h'.all fun b => b.cells.all SC.noRo) = true := by
  obtain ⟨sp, o, rfl, rfl, _⟩ := hh
  exact ⟨rfl, by simp only [XX, Nat.reduceBEq, Nat.reduceLT, Nat.reduceAdd, Nat.reduceMul, Nat.reduceSub, Nat.reduceLeDiff, Nat.reduceEqDiff, Int.reduceToNat, Int.reduceLT, Int.reduceLE, Int.reduceAdd, Int.reduceSub, Int.reduceEq, reduceIte, Nat.reduceBNe, Int.reducePow, Nat.reducePow, Int.reduceMul, Int.reduceNeg, isB_i, isB_b, isB_y, isBv_i, isBv_b, eqCells_t, TT, ids_bsC, ren_bsC, noRo_bsC, plain_bsC, lt_bsC, ids_byte, ren_byte, noRo_byte, plain_byte, lt_byte]⟩
theorem resP_of {P : Program} {f : FuncId} {args : List SV} {h : IP} {l : List UInt8} {e : Int} (s : Spec P f args [] fun s h' => ∃ w sp o, s = .tup [(true, ipC h), (false, [slB w l sp]), (false, [i64 e])] ∧ Buf h' w o l sp) : Spec P f args [] (resP h l e) :=
  s.wk fun t h' ⟨w, sp, o, h1, b⟩ => ⟨.tup [(true, ipC h), (false, [slB 0 l sp]), (false, [i64 e])], [wB o (l ++ sp)], [some w], rfl, by simp only [XX, Nat.reduceBEq, Nat.reduceLT, Nat.reduceAdd, Nat.reduceMul, Nat.reduceSub, Nat.reduceLeDiff, Nat.reduceEqDiff, Int.reduceToNat, Int.reduceLT, Int.reduceLE, Int.reduceAdd, Int.reduceSub, Int.reduceEq, reduceIte, Nat.reduceBNe, Int.reducePow, Nat.reducePow, Int.reduceMul, Int.reduceNeg, isB_i, isB_b, isB_y, isBv_i, isBv_b, eqCells_t, TT, ids_bsC, ren_bsC, noRo_bsC, plain_bsC, lt_bsC, ids_byte, ren_byte, noRo_byte, plain_byte, lt_byte, b.at_], by subst h1; simp only [XX, Nat.reduceBEq, Nat.reduceLT, Nat.reduceAdd, Nat.reduceMul, Nat.reduceSub, Nat.reduceLeDiff, Nat.reduceEqDiff, Int.reduceToNat, Int.reduceLT, Int.reduceLE, Int.reduceAdd, Int.reduceSub, Int.reduceEq, reduceIte, Nat.reduceBNe, Int.reducePow, Nat.reducePow, Int.reduceMul, Int.reduceNeg, isB_i, isB_b, isB_y, isBv_i, isBv_b, eqCells_t, TT, ids_bsC, ren_bsC, noRo_bsC, plain_bsC, lt_bsC, ids_byte, ren_byte, noRo_byte, plain_byte, lt_byte], sp, o, rfl, rfl, b.own⟩
def rawP (h : IP) (l : List UInt8) (e : Int) (t : SV) (h' : List SB) : Prop := (l = [] ∧ t = .tup [(true, ipC h), (false, [noC]), (false, [i64 e])]) ∨ ∃ w sp o, t = .tup [(true, ipC h), (false, [slB w l sp]), (false, [i64 e])] ∧ Buf h' w o l sp
theorem resP_raw {P : Program} {f : FuncId} {args : List SV} {h : IP} {l : List UInt8} {e : Int} (s : Spec P f args [] (rawP h l e)) : Spec P f args [] (resP h l e) := by
  refine s.wk fun t h' hq => ?_
  rcases hq with ⟨rfl, rfl⟩ | ⟨w, sp, o, rfl, b⟩
  · exact ⟨.tup [(true, ipC h), (false, [slB 0 [] []]), (false, [i64 e])], [wB false ([] ++ [])], [none], rfl, by simp only [XX, Nat.reduceBEq, Nat.reduceLT, Nat.reduceAdd, Nat.reduceMul, Nat.reduceSub, Nat.reduceLeDiff, Nat.reduceEqDiff, Int.reduceToNat, Int.reduceLT, Int.reduceLE, Int.reduceAdd, Int.reduceSub, Int.reduceEq, reduceIte, Nat.reduceBNe, Int.reducePow, Nat.reducePow, Int.reduceMul, Int.reduceNeg, isB_i, isB_b, isB_y, isBv_i, isBv_b, eqCells_t, TT, List.map_nil], .inr ⟨rfl, ⟨.inl ⟨rfl, rfl⟩, .inl ⟨rfl, rfl⟩, .inl ⟨rfl, rfl⟩, .inl ⟨rfl, rfl⟩, .inl ⟨rfl, rfl⟩, .inl ⟨rfl, rfl⟩, .inl ⟨rfl, rfl⟩, trivial⟩, rfl, ⟨.inr (.inr ⟨_, _, rfl, .inl rfl⟩), trivial⟩, rfl, ⟨.inl ⟨rfl, rfl⟩, trivial⟩, trivial⟩, [], false, rfl, rfl, fun h => absurd h (by simp)⟩
  · exact ⟨.tup [(true, ipC h), (false, [slB 0 l sp]), (false, [i64 e])], [wB o (l ++ sp)], [some w], rfl, by simp only [XX, Nat.reduceBEq, Nat.reduceLT, Nat.reduceAdd, Nat.reduceMul, Nat.reduceSub, Nat.reduceLeDiff, Nat.reduceEqDiff, Int.reduceToNat, Int.reduceLT, Int.reduceLE, Int.reduceAdd, Int.reduceSub, Int.reduceEq, reduceIte, Nat.reduceBNe, Int.reducePow, Nat.reducePow, Int.reduceMul, Int.reduceNeg, isB_i, isB_b, isB_y, isBv_i, isBv_b, eqCells_t, TT, ids_bsC, ren_bsC, noRo_bsC, plain_bsC, lt_bsC, ids_byte, ren_byte, noRo_byte, plain_byte, lt_byte, b.at_], by simp only [XX, Nat.reduceBEq, Nat.reduceLT, Nat.reduceAdd, Nat.reduceMul, Nat.reduceSub, Nat.reduceLeDiff, Nat.reduceEqDiff, Int.reduceToNat, Int.reduceLT, Int.reduceLE, Int.reduceAdd, Int.reduceSub, Int.reduceEq, reduceIte, Nat.reduceBNe, Int.reducePow, Nat.reducePow, Int.reduceMul, Int.reduceNeg, isB_i, isB_b, isB_y, isBv_i, isBv_b, eqCells_t, TT, ids_bsC, ren_bsC, noRo_bsC, plain_bsC, lt_bsC, ids_byte, ren_byte, noRo_byte, plain_byte, lt_byte], sp, o, rfl, rfl, b.own⟩

theorem and_i64 {x y : Nat} (hx : x < 4611686018427387904) (hy : y < 4611686018427387904) : bitI .and .i64 (x : Int) (y : Int) = ((x &&& y : Nat) : Int) := by
  show IntKind.i64.wrap (((BitVec.ofInt 64 (x : Int) &&& BitVec.ofInt 64 (y : Int) : BitVec 64).toNat : Nat) : Int) = _
  rw [BitVec.toNat_and, bvn 64 x (by omega), bvn 64 y (by omega)]
  have : x &&& y ≤ x := Nat.and_le_left
  rw [w64] <;> omega
theorem low4 (x : Nat) (h : x < 256) : bitI .and .u8 (x : Int) 15 = ((x % 16 : Nat) : Int) := by
  have := and_u8 (x := x) (y := 15) h (by decide)
  rw [show ((15 : Nat) : Int) = 15 from rfl] at this
  rw [this, Nat.and_two_pow_sub_one_eq_mod x 4]
theorem low14 (x : Nat) (h : x < 65536) : bitI .and .i64 (x : Int) 16383 = ((x % 16384 : Nat) : Int) := by
  have := and_i64 (x := x) (y := 16383) (by omega) (by decide)
  rw [show ((16383 : Nat) : Int) = 16383 from rfl] at this
  rw [this, Nat.and_two_pow_sub_one_eq_mod x 14]
theorem and_pow (x : Nat) : x &&& 16384 = 0 ↔ ¬ x / 16384 % 2 = 1 := by
  have t : x.testBit 14 = decide (x / 2 ^ 14 % 2 = 1) := Nat.testBit_eq_decide_div_mod_eq
  constructor
  · intro h hb
    have h2 := congrArg (fun y => y.testBit 14) h
    simp only [Nat.testBit_and, t, Nat.zero_testBit] at h2
    have h3 : (16384 : Nat).testBit 14 = true := by decide
    rw [h3, Bool.and_true, decide_eq_false_iff_not] at h2
    exact h2 hb
  · intro h
    apply Nat.eq_of_testBit_eq
    intro i
    rw [Nat.testBit_and, Nat.zero_testBit]
    by_cases hi : i = 14
    · subst hi
      have h2 : decide (x / 2 ^ 14 % 2 = 1) = false := by simpa using h
      rw [t, h2, Bool.false_and]
    · have : (16384 : Nat).testBit i = false := by
        rw [show (16384 : Nat) = 2 ^ 14 from rfl, Nat.testBit_two_pow]; simp; omega
      rw [this, Bool.and_false]
theorem bit14 (x : Nat) (h : x < 65536) : (!decide (bitI .and .i64 (x : Int) 16384 = 0)) = decide (x / 16384 % 2 = 1) := by
  have := and_i64 (x := x) (y := 16384) (by omega) (by decide)
  rw [show ((16384 : Nat) : Int) = 16384 from rfl] at this
  rw [this]
  by_cases h2 : x / 16384 % 2 = 1
  · have h3 : ¬ (x &&& 16384) = 0 := fun h => (and_pow x).1 h h2
    have h4 : ¬ (((x &&& 16384 : Nat) : Int) = 0) := by omega
    simp [h2, h3]
  · have h3 := (and_pow x).2 h2
    simp [h2, h3]
theorem shr4 (n : Nat) : (n : Int).fdiv (2 ^ min 4 8) = ((n / 16 : Nat) : Int) := fdiv_nat n 16

/-- A number of bytes that are there. -/
theorem num2_spec (H : List SB) (o : Bool) (l sp : List UInt8) (c k : Nat) (hb : H[0]? = some ⟨o, 28, [roB l sp c]⟩) (hk : k + 2 ≤ l.length) (hc : l.length ≤ c) (hl : l.length ≤ 140737488355328) : Spec cx.P 25 [.c (i64 k), .c (i64 2), .c (.ptr 0 0)] H fun t h' => t = .c (i64 (n16 l k : Nat)) ∧ h' = H := by
  have lt := lt_of hb
  have hn := n16_lt l k
  have e : IntKind.i64.wrap ((n16 l k : Nat) : Int) = ((n16 l k : Nat) : Int) := by rw [w64] <;> omega
  have p := get2_spec l sp c k hk hc hl
  rw [show ((l.getD k 0).toNat * 256 + (l.getD (k + 1) 0).toNat : Nat) = n16 l k from rfl] at p
  refine spec_of_X cx_ok Try.func25 rfl (by kernel_rfl) (by kernel_rfl) (Nat.le_of_ble_eq_true rfl) 400 7 ?_
  simp (maxSteps := 4000000) only [Try.results25, XX, Nat.reduceBEq, Nat.reduceLT, Nat.reduceAdd, Nat.reduceMul, Nat.reduceSub, Nat.reduceLeDiff, Nat.reduceEqDiff, Int.reduceToNat, Int.reduceLT, Int.reduceLE, Int.reduceAdd, Int.reduceSub, Int.reduceEq, reduceIte, Nat.reduceBNe, Int.reducePow, Nat.reducePow, Int.reduceMul, Int.reduceNeg, isB_i, isB_b, isB_y, isBv_i, isBv_b, eqCells_t, TT]
  simp (maxSteps := 4000000) only [Try.results25, hb, lt, XX, Nat.reduceBEq, Nat.reduceLT, Nat.reduceAdd, Nat.reduceMul, Nat.reduceSub, Nat.reduceLeDiff, Nat.reduceEqDiff, Int.reduceToNat, Int.reduceLT, Int.reduceLE, Int.reduceAdd, Int.reduceSub, Int.reduceEq, reduceIte, Nat.reduceBNe, Int.reducePow, Nat.reducePow, Int.reduceMul, Int.reduceNeg, isB_i, isB_b, isB_y, isBv_i, isBv_b, eqCells_t, TT]
  refine call_fz [.c (roB l sp c), .c (i64 k), .c (i64 2)] p (fun t h' h => by obtain ⟨rfl, rfl⟩ := h; exact ⟨rfl, rfl⟩) ⟨.inl ⟨rfl, rfl⟩, .inl ⟨rfl, rfl⟩, .inl ⟨rfl, rfl⟩, trivial⟩ ?_
  rintro _ _ ⟨rfl, rfl⟩
  simp (maxSteps := 4000000) only [Try.results25, e, XX, Nat.reduceBEq, Nat.reduceLT, Nat.reduceAdd, Nat.reduceMul, Nat.reduceSub, Nat.reduceLeDiff, Nat.reduceEqDiff, Int.reduceToNat, Int.reduceLT, Int.reduceLE, Int.reduceAdd, Int.reduceSub, Int.reduceEq, reduceIte, Nat.reduceBNe, Int.reducePow, Nat.reducePow, Int.reduceMul, Int.reduceNeg, isB_i, isB_b, isB_y, isBv_i, isBv_b, eqCells_t, TT]
theorem num4_spec (H : List SB) (o : Bool) (l sp : List UInt8) (c k : Nat) (hb : H[0]? = some ⟨o, 28, [roB l sp c]⟩) (hk : k + 4 ≤ l.length) (hc : l.length ≤ c) (hl : l.length ≤ 140737488355328) : Spec cx.P 25 [.c (i64 k), .c (i64 4), .c (.ptr 0 0)] H fun t h' => t = .c (i64 (get4 l k : Nat)) ∧ h' = H := by
  have lt := lt_of hb
  have hn := get4_lt l k
  have e : IntKind.i64.wrap ((get4 l k : Nat) : Int) = ((get4 l k : Nat) : Int) := by rw [w64] <;> omega
  have p := get4_spec l sp c k hk hc hl
  generalize get4 l k = g at *
  refine spec_of_X cx_ok Try.func25 rfl (by kernel_rfl) (by kernel_rfl) (Nat.le_of_ble_eq_true rfl) 400 7 ?_
  simp (maxSteps := 4000000) only [Try.results25, XX, Nat.reduceBEq, Nat.reduceLT, Nat.reduceAdd, Nat.reduceMul, Nat.reduceSub, Nat.reduceLeDiff, Nat.reduceEqDiff, Int.reduceToNat, Int.reduceLT, Int.reduceLE, Int.reduceAdd, Int.reduceSub, Int.reduceEq, reduceIte, Nat.reduceBNe, Int.reducePow, Nat.reducePow, Int.reduceMul, Int.reduceNeg, isB_i, isB_b, isB_y, isBv_i, isBv_b, eqCells_t, TT]
  simp (maxSteps := 4000000) only [Try.results25, hb, lt, XX, Nat.reduceBEq, Nat.reduceLT, Nat.reduceAdd, Nat.reduceMul, Nat.reduceSub, Nat.reduceLeDiff, Nat.reduceEqDiff, Int.reduceToNat, Int.reduceLT, Int.reduceLE, Int.reduceAdd, Int.reduceSub, Int.reduceEq, reduceIte, Nat.reduceBNe, Int.reducePow, Nat.reducePow, Int.reduceMul, Int.reduceNeg, isB_i, isB_b, isB_y, isBv_i, isBv_b, eqCells_t, TT]
  refine call_fz [.c (roB l sp c), .c (i64 k), .c (i64 4)] p (fun t h' h => by obtain ⟨rfl, rfl⟩ := h; exact ⟨rfl, rfl⟩) ⟨.inl ⟨rfl, rfl⟩, .inl ⟨rfl, rfl⟩, .inl ⟨rfl, rfl⟩, trivial⟩ ?_
  rintro _ _ ⟨rfl, rfl⟩
  simp (maxSteps := 4000000) only [Try.results25, e, XX, Nat.reduceBEq, Nat.reduceLT, Nat.reduceAdd, Nat.reduceMul, Nat.reduceSub, Nat.reduceLeDiff, Nat.reduceEqDiff, Int.reduceToNat, Int.reduceLT, Int.reduceLE, Int.reduceAdd, Int.reduceSub, Int.reduceEq, reduceIte, Nat.reduceBNe, Int.reducePow, Nat.reducePow, Int.reduceMul, Int.reduceNeg, isB_i, isB_b, isB_y, isBv_i, isBv_b, eqCells_t, TT]

theorem dec_spec (l sp : List UInt8) (c : Nat) (hc : l.length ≤ c) (hl : l.length ≤ 140737488355328) : Spec cx.P 16 [.c (roB l sp c)] [] (resP (decI l) (decD l) (decE l)) := by
  have fail : ∀ {e : Int} {σ : St} {b0 : SB} {t : List SB} {cs1 : List SC} {x y : SC}, decE l = e → e ≠ 0 → (look 2 σ.tm = some (.c (.ptr 1 0)) ∧ look 3 σ.tm = some (.c (.ptr 2 0)) ∧ look 4 σ.tm = some (.c (.ptr 3 0))) → σ.hp = b0 :: ⟨true, 27, cs1⟩ :: ⟨true, 28, [x]⟩ :: ⟨true, 23, [y]⟩ :: t → cs1.length = 7 → decQ (rawP (decI l) (decD l) (decE l)) (.panic [gone e]) σ := by
    rintro e σ b0 t cs1 x y rfl h0 h1 h2 h3
    exact ⟨decE l, b0, t, cs1, x, y, rfl, h1, h2, h3, .inl ⟨by simp [decD, h0], by simp [decI, h0, IP.z]⟩⟩
  refine resP_raw (dec_enter rfl ?_)
  
  by_cases h20 : l.length < 20
  · have d1 : decide (20 ≤ (l.length : Int)) = false := by simp only [decide_eq_false_iff_not]; omega
    simp (maxSteps := 4000000) only [Try.results16, d1, XX, Nat.reduceBEq, Nat.reduceLT, Nat.reduceAdd, Nat.reduceMul, Nat.reduceSub, Nat.reduceLeDiff, Nat.reduceEqDiff, Int.reduceToNat, Int.reduceLT, Int.reduceLE, Int.reduceAdd, Int.reduceSub, Int.reduceEq, reduceIte, Nat.reduceBNe, Int.reducePow, Nat.reducePow, Int.reduceMul, Int.reduceNeg, isB_i, isB_b, isB_y, isBv_i, isBv_b, eqCells_t, TT]
    exact call_panics (must_panics _ 5) (fail (if_pos h20) (by decide) ⟨rfl, rfl, rfl⟩ rfl rfl)
  have d1 : decide (20 ≤ (l.length : Int)) = true := by simp only [decide_eq_true_eq]; omega
  obtain ⟨R0, r0⟩ := dropAt (sp := sp) (l := l) (j := 0) (by omega)
  have r0' : ((bsR (l ++ sp)).getD 0 (RC.v undef)) = .v (.int .u8 (l.getD 0 0).toNat) := by rw [List.drop_zero] at r0; rw [r0]; rfl
  have r0l : 0 < (bsR (l ++ sp)).length := by simp; omega
  have b0 := (l.getD 0 0).toNat_lt
  have n2 := n16_lt l 2
  have n6 := n16_lt l 6
  have z0 : (#[] : Array Operand).size = 0 := rfl
  simp (maxSteps := 4000000) only [Try.results16, d1, XX, Nat.reduceBEq, Nat.reduceLT, Nat.reduceAdd, Nat.reduceMul, Nat.reduceSub, Nat.reduceLeDiff, Nat.reduceEqDiff, Int.reduceToNat, Int.reduceLT, Int.reduceLE, Int.reduceAdd, Int.reduceSub, Int.reduceEq, reduceIte, Nat.reduceBNe, Int.reducePow, Nat.reducePow, Int.reduceMul, Int.reduceNeg, isB_i, isB_b, isB_y, isBv_i, isBv_b, eqCells_t, TT]
  refine call_plain (must_spec 5) rfl ?_
  rintro _ rfl
  simp (maxSteps := 4000000) only [Try.results16, XX, Nat.reduceBEq, Nat.reduceLT, Nat.reduceAdd, Nat.reduceMul, Nat.reduceSub, Nat.reduceLeDiff, Nat.reduceEqDiff, Int.reduceToNat, Int.reduceLT, Int.reduceLE, Int.reduceAdd, Int.reduceSub, Int.reduceEq, reduceIte, Nat.reduceBNe, Int.reducePow, Nat.reducePow, Int.reduceMul, Int.reduceNeg, isB_i, isB_b, isB_y, isBv_i, isBv_b, eqCells_t, TT]
  simp (maxSteps := 4000000) only [Try.results16, z0, XX, Nat.reduceBEq, Nat.reduceLT, Nat.reduceAdd, Nat.reduceMul, Nat.reduceSub, Nat.reduceLeDiff, Nat.reduceEqDiff, Int.reduceToNat, Int.reduceLT, Int.reduceLE, Int.reduceAdd, Int.reduceSub, Int.reduceEq, reduceIte, Nat.reduceBNe, Int.reducePow, Nat.reducePow, Int.reduceMul, Int.reduceNeg, isB_i, isB_b, isB_y, isBv_i, isBv_b, eqCells_t, TT]
  refine call_is (num2_spec _ true l sp c 2 rfl (by omega) hc hl) ?_
  rintro _ _ ⟨rfl, rfl⟩
  simp (maxSteps := 4000000) only [Try.results16, XX, Nat.reduceBEq, Nat.reduceLT, Nat.reduceAdd, Nat.reduceMul, Nat.reduceSub, Nat.reduceLeDiff, Nat.reduceEqDiff, Int.reduceToNat, Int.reduceLT, Int.reduceLE, Int.reduceAdd, Int.reduceSub, Int.reduceEq, reduceIte, Nat.reduceBNe, Int.reducePow, Nat.reducePow, Int.reduceMul, Int.reduceNeg, isB_i, isB_b, isB_y, isBv_i, isBv_b, eqCells_t, TT]
  refine call_is (num2_spec _ true l sp c 6 rfl (by omega) hc hl) ?_
  rintro _ _ ⟨rfl, rfl⟩
  have e5 : decE l = if (l.getD 0 0).toNat / 16 ≠ 4 then 90 else if 5 < (l.getD 0 0).toNat % 16 then 91 else if (l.getD 0 0).toNat % 16 ≠ 5 ∨ n16 l 2 < 20 ∨ l.length < n16 l 2 then 92 else if isum (l.take 20) ≠ 0 then 93 else if n16 l 6 % 16384 ≠ 0 then 94 else if (l.getD 8 0).toNat = 0 then 95 else 0 := if_neg h20
  by_cases hv : (l.getD 0 0).toNat / 16 ≠ 4
  · have d2 : decide ((((l.getD 0 0).toNat / 16 : Nat) : Int) = 4) = false := by simp only [decide_eq_false_iff_not]; omega
    simp (maxSteps := 4000000) only [Try.results16, r0', shr4, d2, XX, Nat.reduceBEq, Nat.reduceLT, Nat.reduceAdd, Nat.reduceMul, Nat.reduceSub, Nat.reduceLeDiff, Nat.reduceEqDiff, Int.reduceToNat, Int.reduceLT, Int.reduceLE, Int.reduceAdd, Int.reduceSub, Int.reduceEq, reduceIte, Nat.reduceBNe, Int.reducePow, Nat.reducePow, Int.reduceMul, Int.reduceNeg, isB_i, isB_b, isB_y, isBv_i, isBv_b, eqCells_t, TT]
    refine ⟨by omega, r0l, ?_⟩
    exact call_panics (must_panics _ 90) (fail (e5.trans (if_pos hv)) (by decide) ⟨rfl, rfl, rfl⟩ rfl rfl)
  have d2 : decide ((((l.getD 0 0).toNat / 16 : Nat) : Int) = 4) = true := by simp only [decide_eq_true_eq]; omega
  rw [if_neg hv] at e5
  simp (maxSteps := 4000000) only [Try.results16, r0', shr4, d2, XX, Nat.reduceBEq, Nat.reduceLT, Nat.reduceAdd, Nat.reduceMul, Nat.reduceSub, Nat.reduceLeDiff, Nat.reduceEqDiff, Int.reduceToNat, Int.reduceLT, Int.reduceLE, Int.reduceAdd, Int.reduceSub, Int.reduceEq, reduceIte, Nat.reduceBNe, Int.reducePow, Nat.reducePow, Int.reduceMul, Int.reduceNeg, isB_i, isB_b, isB_y, isBv_i, isBv_b, eqCells_t, TT]
  refine ⟨by omega, r0l, ?_⟩
  refine call_plain (must_spec 90) rfl ?_
  rintro _ rfl
  simp (maxSteps := 4000000) only [Try.results16, XX, Nat.reduceBEq, Nat.reduceLT, Nat.reduceAdd, Nat.reduceMul, Nat.reduceSub, Nat.reduceLeDiff, Nat.reduceEqDiff, Int.reduceToNat, Int.reduceLT, Int.reduceLE, Int.reduceAdd, Int.reduceSub, Int.reduceEq, reduceIte, Nat.reduceBNe, Int.reducePow, Nat.reducePow, Int.reduceMul, Int.reduceNeg, isB_i, isB_b, isB_y, isBv_i, isBv_b, eqCells_t, TT]
  by_cases ho : 5 < (l.getD 0 0).toNat % 16
  · have d3 : decide ((((l.getD 0 0).toNat % 16 : Nat) : Int) ≤ 5) = false := by simp only [decide_eq_false_iff_not]; omega
    simp (maxSteps := 4000000) only [Try.results16, r0', low4 _ b0, d3, XX, Nat.reduceBEq, Nat.reduceLT, Nat.reduceAdd, Nat.reduceMul, Nat.reduceSub, Nat.reduceLeDiff, Nat.reduceEqDiff, Int.reduceToNat, Int.reduceLT, Int.reduceLE, Int.reduceAdd, Int.reduceSub, Int.reduceEq, reduceIte, Nat.reduceBNe, Int.reducePow, Nat.reducePow, Int.reduceMul, Int.reduceNeg, isB_i, isB_b, isB_y, isBv_i, isBv_b, eqCells_t, TT]
    refine ⟨by omega, r0l, ?_⟩
    exact call_panics (must_panics _ 91) (fail (e5.trans (if_pos ho)) (by decide) ⟨rfl, rfl, rfl⟩ rfl rfl)
  have d3 : decide ((((l.getD 0 0).toNat % 16 : Nat) : Int) ≤ 5) = true := by simp only [decide_eq_true_eq]; omega
  rw [if_neg ho] at e5
  simp (maxSteps := 4000000) only [Try.results16, r0', low4 _ b0, d3, XX, Nat.reduceBEq, Nat.reduceLT, Nat.reduceAdd, Nat.reduceMul, Nat.reduceSub, Nat.reduceLeDiff, Nat.reduceEqDiff, Int.reduceToNat, Int.reduceLT, Int.reduceLE, Int.reduceAdd, Int.reduceSub, Int.reduceEq, reduceIte, Nat.reduceBNe, Int.reducePow, Nat.reducePow, Int.reduceMul, Int.reduceNeg, isB_i, isB_b, isB_y, isBv_i, isBv_b, eqCells_t, TT]
  refine ⟨by omega, r0l, ?_⟩
  refine call_plain (must_spec 91) rfl ?_
  rintro _ rfl
  simp (maxSteps := 4000000) only [Try.results16, XX, Nat.reduceBEq, Nat.reduceLT, Nat.reduceAdd, Nat.reduceMul, Nat.reduceSub, Nat.reduceLeDiff, Nat.reduceEqDiff, Int.reduceToNat, Int.reduceLT, Int.reduceLE, Int.reduceAdd, Int.reduceSub, Int.reduceEq, reduceIte, Nat.reduceBNe, Int.reducePow, Nat.reducePow, Int.reduceMul, Int.reduceNeg, isB_i, isB_b, isB_y, isBv_i, isBv_b, eqCells_t, TT]
  by_cases hw : (l.getD 0 0).toNat % 16 ≠ 5 ∨ n16 l 2 < 20 ∨ l.length < n16 l 2
  · rw [if_pos hw] at e5
    have fin := fail (σ := ⟨⟨8, 4⟩, [(2, .c (.ptr 1 0)), (3, .c (.ptr 2 0)), (4, .c (.ptr 3 0))], decH (roB l sp c)⟩) e5 (by decide) ⟨rfl, rfl, rfl⟩ rfl rfl
    by_cases h5 : (l.getD 0 0).toNat % 16 = 5
    · have d4 : decide ((((l.getD 0 0).toNat % 16 : Nat) : Int) = 5) = true := by simp only [decide_eq_true_eq]; omega
      by_cases h6 : 20 ≤ n16 l 2
      · have d5 : decide (20 ≤ (n16 l 2 : Int)) = true := by simp only [decide_eq_true_eq]; omega
        have d6 : decide ((n16 l 2 : Int) ≤ (l.length : Int)) = false := by simp only [decide_eq_false_iff_not]; omega
        simp (maxSteps := 4000000) only [Try.results16, r0', low4 _ b0, d4, d5, d6, XX, Nat.reduceBEq, Nat.reduceLT, Nat.reduceAdd, Nat.reduceMul, Nat.reduceSub, Nat.reduceLeDiff, Nat.reduceEqDiff, Int.reduceToNat, Int.reduceLT, Int.reduceLE, Int.reduceAdd, Int.reduceSub, Int.reduceEq, reduceIte, Nat.reduceBNe, Int.reducePow, Nat.reducePow, Int.reduceMul, Int.reduceNeg, isB_i, isB_b, isB_y, isBv_i, isBv_b, eqCells_t, TT]
        refine ⟨by omega, r0l, ?_⟩
        exact call_panics (must_panics _ 92) (fail e5 (by decide) ⟨rfl, rfl, rfl⟩ rfl rfl)
      · have d5 : decide (20 ≤ (n16 l 2 : Int)) = false := by simp only [decide_eq_false_iff_not]; omega
        simp (maxSteps := 4000000) only [Try.results16, r0', low4 _ b0, d4, d5, XX, Nat.reduceBEq, Nat.reduceLT, Nat.reduceAdd, Nat.reduceMul, Nat.reduceSub, Nat.reduceLeDiff, Nat.reduceEqDiff, Int.reduceToNat, Int.reduceLT, Int.reduceLE, Int.reduceAdd, Int.reduceSub, Int.reduceEq, reduceIte, Nat.reduceBNe, Int.reducePow, Nat.reducePow, Int.reduceMul, Int.reduceNeg, isB_i, isB_b, isB_y, isBv_i, isBv_b, eqCells_t, TT]
        refine ⟨by omega, r0l, ?_⟩
        exact call_panics (must_panics _ 92) (fail e5 (by decide) ⟨rfl, rfl, rfl⟩ rfl rfl)
    · have d4 : decide ((((l.getD 0 0).toNat % 16 : Nat) : Int) = 5) = false := by simp only [decide_eq_false_iff_not]; omega
      simp (maxSteps := 4000000) only [Try.results16, r0', low4 _ b0, d4, XX, Nat.reduceBEq, Nat.reduceLT, Nat.reduceAdd, Nat.reduceMul, Nat.reduceSub, Nat.reduceLeDiff, Nat.reduceEqDiff, Int.reduceToNat, Int.reduceLT, Int.reduceLE, Int.reduceAdd, Int.reduceSub, Int.reduceEq, reduceIte, Nat.reduceBNe, Int.reducePow, Nat.reducePow, Int.reduceMul, Int.reduceNeg, isB_i, isB_b, isB_y, isBv_i, isBv_b, eqCells_t, TT]
      refine ⟨by omega, r0l, ?_⟩
      exact call_panics (must_panics _ 92) (fail e5 (by decide) ⟨rfl, rfl, rfl⟩ rfl rfl)
  rw [if_neg hw] at e5
  have d4 : decide ((((l.getD 0 0).toNat % 16 : Nat) : Int) = 5) = true := by simp only [decide_eq_true_eq]; omega
  have d5 : decide (20 ≤ (n16 l 2 : Int)) = true := by simp only [decide_eq_true_eq]; omega
  have d6 : decide ((n16 l 2 : Int) ≤ (l.length : Int)) = true := by simp only [decide_eq_true_eq]; omega
  simp (maxSteps := 4000000) only [Try.results16, r0', low4 _ b0, d4, d5, d6, XX, Nat.reduceBEq, Nat.reduceLT, Nat.reduceAdd, Nat.reduceMul, Nat.reduceSub, Nat.reduceLeDiff, Nat.reduceEqDiff, Int.reduceToNat, Int.reduceLT, Int.reduceLE, Int.reduceAdd, Int.reduceSub, Int.reduceEq, reduceIte, Nat.reduceBNe, Int.reducePow, Nat.reducePow, Int.reduceMul, Int.reduceNeg, isB_i, isB_b, isB_y, isBv_i, isBv_b, eqCells_t, TT]
  refine ⟨by omega, r0l, ?_⟩
  refine call_plain (must_spec 92) rfl ?_
  rintro _ rfl
  simp (maxSteps := 4000000) only [Try.results16, XX, Nat.reduceBEq, Nat.reduceLT, Nat.reduceAdd, Nat.reduceMul, Nat.reduceSub, Nat.reduceLeDiff, Nat.reduceEqDiff, Int.reduceToNat, Int.reduceLT, Int.reduceLE, Int.reduceAdd, Int.reduceSub, Int.reduceEq, reduceIte, Nat.reduceBNe, Int.reducePow, Nat.reducePow, Int.reduceMul, Int.reduceNeg, isB_i, isB_b, isB_y, isBv_i, isBv_b, eqCells_t, TT]
  have eR : bsR (l ++ sp) = bsR (l.take 20 ++ (l.drop 20 ++ sp)) := by rw [← List.append_assoc, List.take_append_drop]
  have lT : (l.take 20).length = 20 := by simp; omega
  have p3 := osum_spec [(l.take 20, l.drop 20 ++ sp, c)] [] 1 (by simp) (by simp [bytesOf]; omega)
  rw [show bytesOf [(l.take 20, l.drop 20 ++ sp, c)] = l.take 20 by simp [bytesOf]] at p3
  simp (maxSteps := 4000000) only [Try.results16, List.replicate_one, List.flatten_cons, List.flatten_nil, XX, Nat.reduceBEq, Nat.reduceLT, Nat.reduceAdd, Nat.reduceMul, Nat.reduceSub, Nat.reduceLeDiff, Nat.reduceEqDiff, Int.reduceToNat, Int.reduceLT, Int.reduceLE, Int.reduceAdd, Int.reduceSub, Int.reduceEq, reduceIte, Nat.reduceBNe, Int.reducePow, Nat.reducePow, Int.reduceMul, Int.reduceNeg, isB_i, isB_b, isB_y, isBv_i, isBv_b, eqCells_t, TT]
  refine ⟨by omega, ?_⟩
  refine call_pureF [.c (.ro ([(l.take 20, l.drop 20 ++ sp, c)].map partR ++ []) 1 1)] p3 ⟨fz_rows rfl rfl ⟨.inl (by rw [eR]; dsimp only; rw [lT]), trivial⟩, trivial⟩ ?_
  rintro _ rfl
  by_cases hs : isum (l.take 20) ≠ 0
  · have d7 : decide ((isum (l.take 20) : Int) = 0) = false := by simp only [decide_eq_false_iff_not]; omega
    simp (maxSteps := 4000000) only [Try.results16, d7, XX, Nat.reduceBEq, Nat.reduceLT, Nat.reduceAdd, Nat.reduceMul, Nat.reduceSub, Nat.reduceLeDiff, Nat.reduceEqDiff, Int.reduceToNat, Int.reduceLT, Int.reduceLE, Int.reduceAdd, Int.reduceSub, Int.reduceEq, reduceIte, Nat.reduceBNe, Int.reducePow, Nat.reducePow, Int.reduceMul, Int.reduceNeg, isB_i, isB_b, isB_y, isBv_i, isBv_b, eqCells_t, TT]
    exact call_panics (must_panics _ 93) (fail (e5.trans (if_pos hs)) (by decide) ⟨rfl, rfl, rfl⟩ rfl rfl)
  have d7 : decide ((isum (l.take 20) : Int) = 0) = true := by simp only [decide_eq_true_eq]; omega
  rw [if_neg hs] at e5
  simp (maxSteps := 4000000) only [Try.results16, d7, XX, Nat.reduceBEq, Nat.reduceLT, Nat.reduceAdd, Nat.reduceMul, Nat.reduceSub, Nat.reduceLeDiff, Nat.reduceEqDiff, Int.reduceToNat, Int.reduceLT, Int.reduceLE, Int.reduceAdd, Int.reduceSub, Int.reduceEq, reduceIte, Nat.reduceBNe, Int.reducePow, Nat.reducePow, Int.reduceMul, Int.reduceNeg, isB_i, isB_b, isB_y, isBv_i, isBv_b, eqCells_t, TT]
  refine call_plain (must_spec 93) rfl ?_
  rintro _ rfl
  simp (maxSteps := 4000000) only [Try.results16, XX, Nat.reduceBEq, Nat.reduceLT, Nat.reduceAdd, Nat.reduceMul, Nat.reduceSub, Nat.reduceLeDiff, Nat.reduceEqDiff, Int.reduceToNat, Int.reduceLT, Int.reduceLE, Int.reduceAdd, Int.reduceSub, Int.reduceEq, reduceIte, Nat.reduceBNe, Int.reducePow, Nat.reducePow, Int.reduceMul, Int.reduceNeg, isB_i, isB_b, isB_y, isBv_i, isBv_b, eqCells_t, TT]
  by_cases hf : n16 l 6 % 16384 ≠ 0
  · have d8 : decide (((n16 l 6 % 16384 : Nat) : Int) = 0) = false := by simp only [decide_eq_false_iff_not]; omega
    simp (maxSteps := 4000000) only [Try.results16, low14 _ n6, d8, XX, Nat.reduceBEq, Nat.reduceLT, Nat.reduceAdd, Nat.reduceMul, Nat.reduceSub, Nat.reduceLeDiff, Nat.reduceEqDiff, Int.reduceToNat, Int.reduceLT, Int.reduceLE, Int.reduceAdd, Int.reduceSub, Int.reduceEq, reduceIte, Nat.reduceBNe, Int.reducePow, Nat.reducePow, Int.reduceMul, Int.reduceNeg, isB_i, isB_b, isB_y, isBv_i, isBv_b, eqCells_t, TT]
    exact call_panics (must_panics _ 94) (fail (e5.trans (if_pos hf)) (by decide) ⟨rfl, rfl, rfl⟩ rfl rfl)
  have d8 : decide (((n16 l 6 % 16384 : Nat) : Int) = 0) = true := by simp only [decide_eq_true_eq]; omega
  rw [if_neg hf] at e5
  simp (maxSteps := 4000000) only [Try.results16, low14 _ n6, d8, XX, Nat.reduceBEq, Nat.reduceLT, Nat.reduceAdd, Nat.reduceMul, Nat.reduceSub, Nat.reduceLeDiff, Nat.reduceEqDiff, Int.reduceToNat, Int.reduceLT, Int.reduceLE, Int.reduceAdd, Int.reduceSub, Int.reduceEq, reduceIte, Nat.reduceBNe, Int.reducePow, Nat.reducePow, Int.reduceMul, Int.reduceNeg, isB_i, isB_b, isB_y, isBv_i, isBv_b, eqCells_t, TT]
  refine call_plain (must_spec 94) rfl ?_
  rintro _ rfl
  simp (maxSteps := 4000000) only [Try.results16, XX, Nat.reduceBEq, Nat.reduceLT, Nat.reduceAdd, Nat.reduceMul, Nat.reduceSub, Nat.reduceLeDiff, Nat.reduceEqDiff, Int.reduceToNat, Int.reduceLT, Int.reduceLE, Int.reduceAdd, Int.reduceSub, Int.reduceEq, reduceIte, Nat.reduceBNe, Int.reducePow, Nat.reducePow, Int.reduceMul, Int.reduceNeg, isB_i, isB_b, isB_y, isBv_i, isBv_b, eqCells_t, TT]
  obtain ⟨R8, r8⟩ := dropAt (sp := sp) (l := l) (j := 8) (by omega)
  obtain ⟨R1, r1⟩ := dropAt (sp := sp) (l := l) (j := 1) (by omega)
  obtain ⟨R9, r9⟩ := dropAt (sp := sp) (l := l) (j := 9) (by omega)
  have b8 := (l.getD 8 0).toNat_lt
  have b1 := (l.getD 1 0).toNat_lt
  have b9 := (l.getD 9 0).toNat_lt
  by_cases ht : (l.getD 8 0).toNat = 0
  · have d9 : decide (((l.getD 8 0).toNat : Int) = 0) = true := by simp only [decide_eq_true_eq]; omega
    simp (maxSteps := 4000000) only [Try.results16, r8, d9, XX, Nat.reduceBEq, Nat.reduceLT, Nat.reduceAdd, Nat.reduceMul, Nat.reduceSub, Nat.reduceLeDiff, Nat.reduceEqDiff, Int.reduceToNat, Int.reduceLT, Int.reduceLE, Int.reduceAdd, Int.reduceSub, Int.reduceEq, reduceIte, Nat.reduceBNe, Int.reducePow, Nat.reducePow, Int.reduceMul, Int.reduceNeg, isB_i, isB_b, isB_y, isBv_i, isBv_b, eqCells_t, TT]
    refine ⟨by omega, by omega, ?_⟩
    exact call_panics (must_panics _ 95) (fail (e5.trans (if_pos ht)) (by decide) ⟨rfl, rfl, rfl⟩ rfl rfl)
  have d9 : decide (((l.getD 8 0).toNat : Int) = 0) = false := by simp only [decide_eq_false_iff_not]; omega
  rw [if_neg ht] at e5
  simp (maxSteps := 4000000) only [Try.results16, r8, d9, XX, Nat.reduceBEq, Nat.reduceLT, Nat.reduceAdd, Nat.reduceMul, Nat.reduceSub, Nat.reduceLeDiff, Nat.reduceEqDiff, Int.reduceToNat, Int.reduceLT, Int.reduceLE, Int.reduceAdd, Int.reduceSub, Int.reduceEq, reduceIte, Nat.reduceBNe, Int.reducePow, Nat.reducePow, Int.reduceMul, Int.reduceNeg, isB_i, isB_b, isB_y, isBv_i, isBv_b, eqCells_t, TT]
  refine ⟨by omega, by omega, ?_⟩
  refine call_plain (must_spec 95) rfl ?_
  rintro _ rfl
  simp (maxSteps := 4000000) only [Try.results16, XX, Nat.reduceBEq, Nat.reduceLT, Nat.reduceAdd, Nat.reduceMul, Nat.reduceSub, Nat.reduceLeDiff, Nat.reduceEqDiff, Int.reduceToNat, Int.reduceLT, Int.reduceLE, Int.reduceAdd, Int.reduceSub, Int.reduceEq, reduceIte, Nat.reduceBNe, Int.reducePow, Nat.reducePow, Int.reduceMul, Int.reduceNeg, isB_i, isB_b, isB_y, isBv_i, isBv_b, eqCells_t, TT]
  simp only [decI, decD, e5, if_true, decH0]
  have g12 := get4_lt l 12
  have g16 := get4_lt l 16
  have w8 : IntKind.i64.wrap ((l.getD 8 0).toNat : Int) = ((l.getD 8 0).toNat : Int) := by rw [w64] <;> omega
  have w1 : IntKind.i64.wrap ((l.getD 1 0).toNat : Int) = ((l.getD 1 0).toNat : Int) := by rw [w64] <;> omega
  have w9 : IntKind.i64.wrap ((l.getD 9 0).toNat : Int) = ((l.getD 9 0).toNat : Int) := by rw [w64] <;> omega
  have w12 : IntKind.u32.wrap ((get4 l 12 : Nat) : Int) = ((get4 l 12 : Nat) : Int) := by rw [wu32] <;> omega
  have w16 : IntKind.u32.wrap ((get4 l 16 : Nat) : Int) = ((get4 l 16 : Nat) : Int) := by rw [wu32] <;> omega
  refine draw_of cx_ok (by kernel_rfl) 400 [0] [(0, true), (1, true), (2, true), (3, true), (4, true), (6, true), (7, true), (8, true), (9, true), (10, true), (11, true), (12, true), (13, true), (14, true), (15, true), (16, true), (17, true), (20, true), (5, false), (18, false), (19, true), (21, false), (22, true), (23, true), (24, false)] (by kernel_rfl) rfl ?_
  simp (maxSteps := 4000000) only [Try.results16, r8, r1, r9, z0, bit14 _ n6, XX, Nat.reduceBEq, Nat.reduceLT, Nat.reduceAdd, Nat.reduceMul, Nat.reduceSub, Nat.reduceLeDiff, Nat.reduceEqDiff, Int.reduceToNat, Int.reduceLT, Int.reduceLE, Int.reduceAdd, Int.reduceSub, Int.reduceEq, reduceIte, Nat.reduceBNe, Int.reducePow, Nat.reducePow, Int.reduceMul, Int.reduceNeg, isB_i, isB_b, isB_y, isBv_i, isBv_b, eqCells_t, TT]
  refine ⟨by omega, by omega, by omega, by omega, by omega, by omega, ?_⟩
  refine call_is (num2_spec _ false l sp c 4 rfl (by omega) hc hl) ?_
  rintro _ _ ⟨rfl, rfl⟩
  simp (maxSteps := 4000000) only [Try.results16, XX, Nat.reduceBEq, Nat.reduceLT, Nat.reduceAdd, Nat.reduceMul, Nat.reduceSub, Nat.reduceLeDiff, Nat.reduceEqDiff, Int.reduceToNat, Int.reduceLT, Int.reduceLE, Int.reduceAdd, Int.reduceSub, Int.reduceEq, reduceIte, Nat.reduceBNe, Int.reducePow, Nat.reducePow, Int.reduceMul, Int.reduceNeg, isB_i, isB_b, isB_y, isBv_i, isBv_b, eqCells_t, TT]
  refine call_is (num4_spec _ false l sp c 12 rfl (by omega) hc hl) ?_
  rintro _ _ ⟨rfl, rfl⟩
  simp (maxSteps := 4000000) only [Try.results16, XX, Nat.reduceBEq, Nat.reduceLT, Nat.reduceAdd, Nat.reduceMul, Nat.reduceSub, Nat.reduceLeDiff, Nat.reduceEqDiff, Int.reduceToNat, Int.reduceLT, Int.reduceLE, Int.reduceAdd, Int.reduceSub, Int.reduceEq, reduceIte, Nat.reduceBNe, Int.reducePow, Nat.reducePow, Int.reduceMul, Int.reduceNeg, isB_i, isB_b, isB_y, isBv_i, isBv_b, eqCells_t, TT]
  refine call_is (num4_spec _ false l sp c 16 rfl (by omega) hc hl) ?_
  rintro _ _ ⟨rfl, rfl⟩
  simp (maxSteps := 4000000) only [Try.results16, w8, w1, w9, w12, w16, XX, Nat.reduceBEq, Nat.reduceLT, Nat.reduceAdd, Nat.reduceMul, Nat.reduceSub, Nat.reduceLeDiff, Nat.reduceEqDiff, Int.reduceToNat, Int.reduceLT, Int.reduceLE, Int.reduceAdd, Int.reduceSub, Int.reduceEq, reduceIte, Nat.reduceBNe, Int.reducePow, Nat.reducePow, Int.reduceMul, Int.reduceNeg, isB_i, isB_b, isB_y, isBv_i, isBv_b, eqCells_t, TT]
  have eT : bsR (l ++ sp) = bsR (l.take (n16 l 2) ++ (l.drop (n16 l 2) ++ sp)) := by rw [← List.append_assoc, List.take_append_drop]
  have lD : ((l.take (n16 l 2)).drop 20).length = n16 l 2 - 20 := by simp; omega
  have eD : (bsR (l ++ sp)).drop 20 = bsR ((l.take (n16 l 2)).drop 20 ++ (l.drop (n16 l 2) ++ sp)) := by
    rw [eT, rs_drop, List.drop_append_of_le_length (by simp; omega)]
  have p5 := cloneA_spec ((l.take (n16 l 2)).drop 20) (l.drop (n16 l 2) ++ sp) (c - 20) (by omega) (by omega)
  unfold roB at p5
  rw [lD] at p5
  refine draw2_of cx_ok (by kernel_rfl) 400 [0] (.pair [(1, true), (2, true), (3, true)] 0 4 (.done [(4, false), (5, false), (6, false), (7, false)]) (.done [(0, false), (5, false), (6, false), (7, false)])) (by kernel_rfl) rfl ?_
  simp (maxSteps := 4000000) only [Try.results16, PXT_done, PXT_pair, eD, XX, Nat.reduceBEq, Nat.reduceLT, Nat.reduceAdd, Nat.reduceMul, Nat.reduceSub, Nat.reduceLeDiff, Nat.reduceEqDiff, Int.reduceToNat, Int.reduceLT, Int.reduceLE, Int.reduceAdd, Int.reduceSub, Int.reduceEq, reduceIte, Nat.reduceBNe, Int.reducePow, Nat.reducePow, Int.reduceMul, Int.reduceNeg, isB_i, isB_b, isB_y, isBv_i, isBv_b, eqCells_t, TT]
  refine ⟨⟨by omega, by omega, by omega⟩, ?_⟩
  constructor
  all_goals
    refine call_fz [.c (.ro (bsR ((l.take (n16 l 2)).drop 20 ++ (l.drop (n16 l 2) ++ sp))) (n16 l 2 - 20) (c - 20))] p5 (fun t h' h => resS_noRo h) ⟨.inl ⟨rfl, rfl⟩, trivial⟩ ?_
    rintro _ _ ⟨z, o, rfl, rfl, ho⟩
    simp (maxSteps := 4000000) only [Try.results16, ids_bsC, ren_bsC, noRo_bsC, plain_bsC, lt_bsC, ids_byte, ren_byte, noRo_byte, plain_byte, lt_byte, decQ, PXT_done, XX, Nat.reduceBEq, Nat.reduceLT, Nat.reduceAdd, Nat.reduceMul, Nat.reduceSub, Nat.reduceLeDiff, Nat.reduceEqDiff, Int.reduceToNat, Int.reduceLT, Int.reduceLE, Int.reduceAdd, Int.reduceSub, Int.reduceEq, reduceIte, Nat.reduceBNe, Int.reducePow, Nat.reducePow, Int.reduceMul, Int.reduceNeg, isB_i, isB_b, isB_y, isBv_i, isBv_b, eqCells_t, TT]
    exact .inr ⟨5, z, o, rfl, rfl, ho⟩

end Go.Proofs.Ytipbnhgeanlkeaa.Sx
