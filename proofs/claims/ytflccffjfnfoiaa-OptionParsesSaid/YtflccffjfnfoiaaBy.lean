/- The symbolic executor, at work: bytes. No condition. -/
import Derived.Test.YtflccffjfnfoiaaAp
import Derived.Laws.Strings
namespace Go.Proofs.Ytflccffjfnfoiaa.Sx
open Go
set_option linter.unusedSimpArgs false
set_option linter.unusedVariables false
set_option maxRecDepth 10000
set_option maxHeartbeats 1000000

abbrev i32 (n : Int) : SC := .v (.int .u32 n)
abbrev i64 (n : Int) : SC := .v (.int .i64 n)
abbrev u64 (n : Int) : SC := .v (.int .u64 n)
abbrev bC (b : Bool) : SC := .v (.bool b)

theorem wrap_u32 (x : Int) : IntKind.u32.wrap x = x % 4294967296 := by
  simp [IntKind.wrap, IntKind.bits, IntKind.signed]
theorem wrap_u8 (x : Int) : IntKind.u8.wrap x = x % 256 := by
  simp [IntKind.wrap, IntKind.bits, IntKind.signed]
theorem wrap_u16 (x : Int) : IntKind.u16.wrap x = x % 65536 := by
  simp [IntKind.wrap, IntKind.bits, IntKind.signed]
theorem wrap_u64 (x : Int) : IntKind.u64.wrap x = x % 18446744073709551616 := by
  simp [IntKind.wrap, IntKind.bits, IntKind.signed]
theorem wrap_i64 (x : Int) : IntKind.i64.wrap x = (x + 9223372036854775808) % 18446744073709551616 - 9223372036854775808 := by
  have : IntKind.i64.wrap x = if x % 18446744073709551616 ≥ 9223372036854775808 then x % 18446744073709551616 - 18446744073709551616 else x % 18446744073709551616 := by simp [IntKind.wrap, IntKind.bits, IntKind.signed]
  rw [this]
  split <;> omega
/-- Within bounds nothing is wrapped. -/
theorem w64 {x : Int} (h1 : -9223372036854775808 ≤ x) (h2 : x < 9223372036854775808) : IntKind.i64.wrap x = x := by rw [wrap_i64]; omega
theorem wu64 {x : Int} (h1 : 0 ≤ x) (h2 : x < 18446744073709551616) : IntKind.u64.wrap x = x := by rw [wrap_u64]; omega
theorem wu32 {x : Int} (h1 : 0 ≤ x) (h2 : x < 4294967296) : IntKind.u32.wrap x = x := by rw [wrap_u32]; omega
theorem wu16 {x : Int} (h1 : 0 ≤ x) (h2 : x < 65536) : IntKind.u16.wrap x = x := by rw [wrap_u16]; omega
theorem wu8 {x : Int} (h1 : 0 ≤ x) (h2 : x < 256) : IntKind.u8.wrap x = x := by rw [wrap_u8]; omega
theorem byte_nat (b : UInt8) : 0 ≤ (b.toNat : Int) ∧ (b.toNat : Int) < 256 := by
  have := b.toNat_lt
  constructor <;> omega

/-! ### Lists of bytes -/
def byteR (b : UInt8) : RC := .v (.int .u8 b.toNat)
abbrev bsC (l : List UInt8) : List SC := l.map byteC
abbrev bsR (l : List UInt8) : List RC := l.map byteR
/-- Bytes as they came in: 'sp' stands behind them. -/
abbrev roB (l sp : List UInt8) (c : Nat) : SC := .ro (bsR (l ++ sp)) l.length c
abbrev strB (l : List UInt8) : SC := .v (.string ⟨l.toArray⟩)
abbrev wB (own : Bool) (l : List UInt8) : SB := ⟨own, 5, bsC l⟩

theorem bsR_toSC (l : List UInt8) : (bsR l).map RC.toSC = bsC l := by
  simp only [List.map_map]
  exact List.map_congr_left fun b _ => rfl
theorem byteOf_byteC (b : UInt8) : byteOf (byteC b) = b := by
  simp [byteOf, byteC]
theorem strOf_bsC (l : List UInt8) : strOf (bsC l) = ⟨l.toArray⟩ := by
  simp only [strOf, List.map_map]
  congr 2
  conv => rhs; rw [← List.map_id l]
  exact List.map_congr_left fun b _ => byteOf_byteC b
theorem isByte_byteC (b : UInt8) : isByte (byteC b) = true := by
  have := byte_nat b
  simp [isByte, byteC]
  omega
theorem isByte_bsC (l : List UInt8) : ∀ c ∈ bsC l, isByte c = true := by
  intro c hc
  simp only [List.mem_map] at hc
  obtain ⟨b, _, rfl⟩ := hc
  exact isByte_byteC b
theorem str_eq (a b : List UInt8) : ((⟨a.toArray⟩ : ByteArray).toList == (⟨b.toArray⟩ : ByteArray).toList) = decide (a = b) := by
  rw [ByteArray.toList_eq, ByteArray.toList_eq]
  simp only [List.toList_toArray]
  rw [Bool.eq_iff_iff]
  simp
theorem byteC_of (x : Int) : SC.v (.int .u8 (IntKind.u8.wrap x)) = byteC (UInt8.ofInt x) := by
  simp only [byteC, wrap_u8]
  congr 2
  simp [UInt8.ofInt]
  omega
theorem bsC_len (l : List UInt8) : (bsC l).length = l.length := by simp
theorem bsC_zeros (n : Nat) : (List.replicate n (SC.v (.int .u8 0))) = bsC (List.replicate n 0) := by
  simp only [bsC, List.map_replicate]; rfl
theorem zeros_flat (n : Nat) : (List.replicate n [SC.v (.int .u8 0)]).flatten = bsC (List.replicate n 0) := by
  rw [← bsC_zeros]
  induction n with
  | zero => rfl
  | succ n ih => simp [List.replicate_succ, ih]

theorem bs_take (n : Nat) (l : List UInt8) : (bsC l).take n = bsC (l.take n) := List.map_take.symm
theorem bs_drop (n : Nat) (l : List UInt8) : (bsC l).drop n = bsC (l.drop n) := List.map_drop.symm
theorem bs_app (a b : List UInt8) : bsC a ++ bsC b = bsC (a ++ b) := List.map_append.symm
theorem bs_one (b : UInt8) : [byteC b] = bsC [b] := rfl
theorem bs_cons (b : UInt8) (l : List UInt8) : byteC b :: bsC l = bsC (b :: l) := rfl
theorem rs_take (n : Nat) (l : List UInt8) : (bsR l).take n = bsR (l.take n) := List.map_take.symm
theorem rs_drop (n : Nat) (l : List UInt8) : (bsR l).drop n = bsR (l.drop n) := List.map_drop.symm
theorem rs_len (l : List UInt8) : (bsR l).length = l.length := by simp
theorem bsC_inj {a b : List UInt8} : bsC a = bsC b ↔ a = b := by
  constructor
  · intro h
    have := congrArg (List.map byteOf) h
    simp only [List.map_map] at this
    have e : (byteOf ∘ byteC) = id := by funext b; exact byteOf_byteC b
    rw [e, List.map_id, List.map_id] at this
    exact this
  · rintro rfl; rfl
theorem toNat_add (n k : Nat) : ((n : Int) + (k : Int)).toNat = n + k := by omega

theorem ids_bsC (p : Nat → Bool) (l : List UInt8) : (bsC l).all (SC.ids p) = true := by simp [List.all_eq_true, byteC, SC.ids]
theorem ren_bsC (r : Nat → Nat) (l : List UInt8) : (bsC l).map (SC.ren r) = bsC l := by
  rw [List.map_map]; exact List.map_congr_left fun b _ => rfl
theorem noRo_bsC (l : List UInt8) : (bsC l).all SC.noRo = true := by simp [List.all_eq_true, byteC, SC.noRo]
theorem lt_bsC (n : Nat) (l : List UInt8) : (bsC l).all (SC.lt n) = true := by simp [List.all_eq_true, byteC, SC.lt]
theorem ids_byte (p : Nat → Bool) (b : UInt8) : (byteC b).ids p = true := rfl
theorem ren_byte (r : Nat → Nat) (b : UInt8) : (byteC b).ren r = byteC b := rfl
theorem noRo_byte (b : UInt8) : (byteC b).noRo = true := rfl
theorem plain_byte (b : UInt8) : (byteC b).plain = true := rfl
theorem lt_byte (n : Nat) (b : UInt8) : (byteC b).lt n = true := rfl
theorem plain_bsC (l : List UInt8) : (bsC l).all SC.plain = true := by simp [List.all_eq_true, byteC, SC.plain]

/-! ### Bits -/
theorem bvn (n x : Nat) (h : x < 2 ^ n) : (BitVec.ofInt n (x : Int)).toNat = x := by
  rw [BitVec.ofInt_natCast, BitVec.toNat_ofNat, Nat.mod_eq_of_lt h]
theorem or_u64 {x y : Nat} (hx : x < 18446744073709551616) (hy : y < 18446744073709551616) : bitI .or .u64 (x : Int) (y : Int) = ((x ||| y : Nat) : Int) := by
  show IntKind.u64.wrap (((BitVec.ofInt 64 (x : Int) ||| BitVec.ofInt 64 (y : Int) : BitVec 64).toNat : Nat) : Int) = _
  rw [BitVec.toNat_or, bvn 64 x hx, bvn 64 y hy]
  have : x ||| y < 2 ^ 64 := Nat.or_lt_two_pow hx hy
  rw [wu64] <;> omega
theorem and_u64 {x y : Nat} (hx : x < 18446744073709551616) (hy : y < 18446744073709551616) : bitI .and .u64 (x : Int) (y : Int) = ((x &&& y : Nat) : Int) := by
  show IntKind.u64.wrap (((BitVec.ofInt 64 (x : Int) &&& BitVec.ofInt 64 (y : Int) : BitVec 64).toNat : Nat) : Int) = _
  rw [BitVec.toNat_and, bvn 64 x hx, bvn 64 y hy]
  have : x &&& y < 2 ^ 64 := Nat.and_lt_two_pow x hy
  rw [wu64] <;> omega
theorem and_u8 {x y : Nat} (hx : x < 256) (hy : y < 256) : bitI .and .u8 (x : Int) (y : Int) = ((x &&& y : Nat) : Int) := by
  show IntKind.u8.wrap (((BitVec.ofInt 8 (x : Int) &&& BitVec.ofInt 8 (y : Int) : BitVec 8).toNat : Nat) : Int) = _
  rw [BitVec.toNat_and, bvn 8 x hx, bvn 8 y hy]
  have : x &&& y < 2 ^ 8 := Nat.and_lt_two_pow x hy
  rw [wu8] <;> omega
theorem or_add {a b : Nat} (hb : b < 256) : a * 256 ||| b = a * 256 + b := by
  have := Nat.shiftLeft_add_eq_or_of_lt (i := 8) (b := b) (by omega) a
  rw [Nat.shiftLeft_eq] at this
  exact this.symm
/-- A number's next byte. -/
theorem or_next {a b : Nat} (ha : a < 72057594037927936) (hb : b < 256) : bitI .or .u64 (IntKind.u64.wrap ((a : Int) * 2 ^ min 8 64)) (IntKind.u64.wrap (b : Int)) = ((a * 256 + b : Nat) : Int) := by
  have e : (a : Int) * 2 ^ min 8 64 = ((a * 256 : Nat) : Int) := by push_cast; rfl
  rw [e, wu64 (by omega) (by omega), wu64 (by omega) (by omega), or_u64 (by omega) (by omega), or_add hb]

/-- One more is written over. -/
theorem over_step (b : UInt8) (l : List UInt8) (i : Nat) (hi : i < l.length) : (List.replicate i b ++ l.drop i).take i ++ [b] ++ (List.replicate i b ++ l.drop i).drop (i + 1) = List.replicate (i + 1) b ++ l.drop (i + 1) := by
  rw [List.take_left' (by simp), show i + 1 = (List.replicate i b).length + 1 by simp, List.drop_append, List.replicate_succ']
  simp [List.drop_drop]

theorem xapp_grow {xn : XN} {need cap : Nat} {dst : Option Tmp} {k : List KI} {nm : NB} {tm : List (Nat × SV)} {room : SV × List SB} {grow : Nat → SV × List SB} {Q : XE → St → Prop} (h : cap < need)
    (hk : ∀ c, need ≤ c → c ≤ maxLen → xn k ⟨nm, put dst (grow c).1 tm, (grow c).2⟩ Q) : XApp xn need cap dst k nm tm room grow Q := ⟨fun h' => absurd h' (by omega), fun _ c h1 h2 => .inl (hk c h1 h2)⟩
theorem xapp_room {xn : XN} {need cap : Nat} {dst : Option Tmp} {k : List KI} {nm : NB} {tm : List (Nat × SV)} {room : SV × List SB} {grow : Nat → SV × List SB} {Q : XE → St → Prop} (h : need ≤ cap)
    (hk : xn k ⟨nm, put dst room.1 tm, room.2⟩ Q) : XApp xn need cap dst k nm tm room grow Q := ⟨fun _ => .inl hk, fun h' => absurd h (by omega)⟩
theorem xapp_both {xn : XN} {need cap : Nat} {dst : Option Tmp} {k : List KI} {nm : NB} {tm : List (Nat × SV)} {room : SV × List SB} {grow : Nat → SV × List SB} {Q : XE → St → Prop}
    (h1 : need ≤ cap → xn k ⟨nm, put dst room.1 tm, room.2⟩ Q) (h2 : cap < need → ∀ c, need ≤ c → c ≤ maxLen → xn k ⟨nm, put dst (grow c).1 tm, (grow c).2⟩ Q) : XApp xn need cap dst k nm tm room grow Q := ⟨fun h => .inl (h1 h), fun h c h3 h4 => .inl (h2 h c h3 h4)⟩

theorem byteC_nat (m : Nat) {x : Int} (h : x % 256 = ((m % 256 : Nat) : Int)) : SC.v (.int .u8 (IntKind.u8.wrap x)) = byteC (UInt8.ofNat m) := by
  simp only [byteC, wrap_u8, h]
  congr 2
theorem fdiv_nat (n k : Nat) : (n : Int).fdiv (k : Int) = ((n / k : Nat) : Int) := by
  rw [Int.fdiv_eq_ediv_of_nonneg _ (Int.natCast_nonneg k), Int.natCast_ediv]
theorem tdiv_nat (n k : Nat) : (n : Int).tdiv (k : Int) = ((n / k : Nat) : Int) := rfl
theorem tmod_nat (n k : Nat) : (n : Int).tmod (k : Int) = ((n % k : Nat) : Int) := rfl
theorem tdiv256 (n : Nat) : (n : Int).tdiv 256 = ((n / 256 : Nat) : Int) := rfl
theorem tmod256 (n : Nat) : (n : Int).tmod 256 = ((n % 256 : Nat) : Int) := rfl
theorem shr0 (n : Nat) : (n : Int).fdiv (2 ^ min 0 64) = ((n : Nat) : Int) := by have := fdiv_nat n 1; rwa [Nat.div_one] at this
theorem shr8 (n : Nat) : (n : Int).fdiv (2 ^ min 8 64) = ((n / 256 : Nat) : Int) := fdiv_nat n 256
theorem shr16 (n : Nat) : (n : Int).fdiv (2 ^ min 16 64) = ((n / 65536 : Nat) : Int) := fdiv_nat n 65536
theorem shr24 (n : Nat) : (n : Int).fdiv (2 ^ min 24 64) = ((n / 16777216 : Nat) : Int) := fdiv_nat n 16777216
theorem byteC_n (m : Nat) : SC.v (.int .u8 (IntKind.u8.wrap (m : Int))) = byteC (UInt8.ofNat m) := byteC_nat m (by omega)
theorem byteC_m (m : Nat) : SC.v (.int .u8 (IntKind.u8.wrap ((m % 256 : Nat) : Int))) = byteC (UInt8.ofNat m) := byteC_nat m (by omega)

/-! ### What is lent is read alone -/
theorem frL_bs {ok : Nat → Bool} {h : List SB} (b : List UInt8) : ∀ a : List UInt8, frL ok h (bsR a) (bsC (a ++ b))
  | [] => by simp only [bsR, List.map_nil, frL]
  | x :: a => ⟨rfl, frL_bs b a⟩
theorem fz_sl {r : Nat → Nat} {n : Nat} {h : List SB} {i o c : Nat} {l sp : List UInt8} {b : SB} (hb : h[i]? = some b) (hv : b.void = false) (hc : b.cells.drop o = bsC (l ++ sp)) : frC true (fun _ => true) r n h (.sl i o l.length c) (roB l sp c) :=
  .inr ⟨rfl, .inl ⟨_, _, _, rfl, .inr (.inr ⟨i, o, rfl, .inr ⟨rfl, b, hb, hv, by
    have := frL_bs (ok := fun _ => true) (h := h) [] (l ++ sp)
    rw [List.append_nil] at this
    rw [hc]; exact this⟩⟩)⟩⟩

theorem fz_sl' {r : Nat → Nat} {n : Nat} {h : List SB} {i o c m : Nat} {l sp : List UInt8} {b : SB} (hm : l.length = m) (hb : h[i]? = some b) (hv : b.void = false) (hc : b.cells.drop o = bsC (l ++ sp)) : frC true (fun _ => true) r n h (.sl i o m c) (roB l sp c) := by
  subst hm; exact fz_sl hb hv hc
theorem fz_c {ok : Nat → Bool} {r : Nat → Nat} {n : Nat} {h : List SB} {fz : Bool} {x y : SC} (hx : frC fz ok r n h x y) : frV fz ok r n h (.c x) (.c y) := .inr (.inl ⟨_, _, rfl, rfl, hx⟩)

/-- A call of a function that has no windows of its own: what is handed in is read alone. -/
theorem call_fz {P : Program} {xn : XN} {f : FuncId} {args : List SV} (args0 : List SV) {dst : Option Tmp} {k : List KI} {nm : NB} {tm : List (Nat × SV)} {hp : List SB} {Q : XE → St → Prop} {K : SV → List SB → Prop}
    (s : Spec P f args0 [] K) (hno : ∀ t h', K t h' → t.noRo = true ∧ (h'.all fun b => b.cells.all SC.noRo) = true) (ha : frA true (fun _ => true) (renF [] hp.length) 0 hp args args0)
    (hk : ∀ s0 h0', K s0 h0' → xn k ⟨nm, put dst (s0.ren (renF [] hp.length)) tm, hp ++ h0'.map (SB.ren (renF [] hp.length))⟩ Q) : CallGoal P xn f args dst k ⟨nm, tm, hp⟩ Q :=
  call_fr s true (fun _ => hno) [] ha rfl trivial rfl hk

/-! ### Lent, AsLent -/
theorem lent_spec (l sp : List UInt8) (c : Nat) (hl : l.length ≤ 140737488355328) :
    Spec cx.P 37 [.c (roB l sp c)] [] fun s h' => s = .c (.sl 0 0 l.length (l.length + 2)) ∧ h' = [wB true (l ++ [71, 72])] := by
  refine spec_of_X cx_ok Try.func37 rfl (by kernel_rfl) (by kernel_rfl) (Nat.le_of_ble_eq_true rfl) 400 5 ?_
  simp (maxSteps := 4000000) only [Try.results37, XX, Nat.reduceBEq, Nat.reduceLT, Nat.reduceAdd, Nat.reduceMul, Nat.reduceSub, Nat.reduceLeDiff, Nat.reduceEqDiff, Int.reduceToNat, Int.reduceLT, Int.reduceLE, Int.reduceAdd, Int.reduceSub, Int.reduceEq, reduceIte, Nat.reduceBNe, Int.reducePow, Nat.reducePow, Int.reduceMul, Int.reduceNeg, isB_i, isB_b, isB_y, isBv_i, isBv_b, eqCells_t, TT]
  simp (disch := omega) only [w64]
  have e1 : ((l.length : Int) + 2).toNat = l.length + 2 := by omega
  have e2 : ((l.length : Int) + 1).toNat = l.length + 1 := by omega
  have b1 : SC.v (.int .u8 71) = byteC 71 := rfl
  have b2 : SC.v (.int .u8 72) = byteC 72 := rfl
  simp only [e1, e2, b1, b2, zeros_flat, bs_one, rs_take, rs_len, bsR_toSC, bs_take, bs_drop, bs_app, bsC_len]
  refine ⟨by omega, ⟨by simp, by simp⟩, by omega, by simp, by omega, by simp, by omega, ?_, ?_⟩
  · trivial
  · congr 2
    rw [bsC_inj]
    simp (disch := omega) [List.take_append, List.drop_append, List.take_of_length_le, List.drop_of_length_le, Nat.add_assoc, Nat.add_sub_cancel_left]

/-- What was lent stands as it was: it is written over. -/
theorem asLent_spec (l sp : List UInt8) (c : Nat) (hl : l.length ≤ 140737488355328) :
    Spec cx.P 39 [.c (.sl 0 0 l.length (l.length + 2)), .c (roB l sp c)] [wB true (l ++ [71, 72])] fun s h' => s = .c (bC true) ∧ h' = [wB true (List.replicate (l.length + 2) 83)] := by
  refine spec_of_X cx_ok Try.func39 rfl (by kernel_rfl) (by kernel_rfl) (Nat.le_of_ble_eq_true rfl) 400 9 ?_
  simp (maxSteps := 4000000) only [Try.results39, XX, Nat.reduceBEq, Nat.reduceLT, Nat.reduceAdd, Nat.reduceMul, Nat.reduceSub, Nat.reduceLeDiff, Nat.reduceEqDiff, Int.reduceToNat, Int.reduceLT, Int.reduceLE, Int.reduceAdd, Int.reduceSub, Int.reduceEq, reduceIte, Nat.reduceBNe, Int.reducePow, Nat.reducePow, Int.reduceMul, Int.reduceNeg, isB_i, isB_b, isB_y, isBv_i, isBv_b, eqCells_t, TT]
  have e1 : IntKind.i64.wrap ((l.length : Int) + 2) = ((l.length + 2 : Nat) : Int) := by rw [w64] <;> omega
  simp only [e1]
  refine ⟨by omega, ?_⟩
  have t1 : (bsC (l ++ [71, 72])).take l.length = bsC l := by rw [bs_take, List.take_left]
  have t2 : ((bsR (l ++ sp)).take l.length).map RC.toSC = bsC l := by rw [rs_take, bsR_toSC, List.take_left]
  have g1 : (bsC (l ++ [71, 72])).getD l.length .any = SC.v (.int .u8 71) := by simp [List.getD, byteC]
  have g2 : (bsC (l ++ [71, 72])).getD (l.length + 1) .any = SC.v (.int .u8 72) := by simp [List.getD, byteC]
  have e2 : IntKind.i64.wrap ((l.length : Int) + 1) = ((l.length + 1 : Nat) : Int) := by rw [w64] <;> omega
  refine draw_of cx_ok (by kernel_rfl) 400 [0] [(0, true), (1, true), (2, true), (3, true), (4, true), (5, true), (6, true), (7, true), (8, true), (9, true), (10, true), (11, true), (12, true), (13, true), (14, true), (15, true), (16, true), (17, true), (18, true), (19, true), (20, true), (21, true), (22, true)] (by kernel_rfl) rfl ?_
  simp (maxSteps := 4000000) only [Try.results39, t1, t2, g1, g2, e2, XX, Nat.reduceBEq, Nat.reduceLT, Nat.reduceAdd, Nat.reduceMul, Nat.reduceSub, Nat.reduceLeDiff, Nat.reduceEqDiff, Int.reduceToNat, Int.reduceLT, Int.reduceLE, Int.reduceAdd, Int.reduceSub, Int.reduceEq, reduceIte, Nat.reduceBNe, Int.reducePow, Nat.reducePow, Int.reduceMul, Int.reduceNeg, isB_i, isB_b, isB_y, isBv_i, isBv_b, eqCells_t, TT]
  refine ⟨by omega, ⟨by simp, isByte_bsC l⟩, ⟨by simp, isByte_bsC l⟩, by omega, by simp, by omega, by simp, ?_⟩
  have hbase := hl
  refine loop_of cx_ok 400 (fun μ σ => ∃ i, μ = l.length + 2 - i ∧ i ≤ l.length + 2 ∧
      σ = ⟨⟨9, 1⟩, [(4, .c (bC false)), (6, .c (.sl 0 0 (l.length + 2) (l.length + 2))), (7, .c (bC true)), (8, .c (i64 (i : Nat)))], [wB true (List.replicate i 83 ++ (l ++ [71, 72]).drop i)]⟩) (l.length + 2) ⟨⟨9, 1⟩, [(4, .c (bC false)), (6, .c (.sl 0 0 (l.length + 2) (l.length + 2))), (7, .c (bC true)), (8, .c (i64 (0 : Nat)))], [wB true (List.replicate 0 83 ++ (l ++ [71, 72]).drop 0)]⟩ ⟨0, rfl, Nat.zero_le _, rfl⟩ [some 0]
    ⟨rfl, rfl, by simp only [XX, Nat.reduceBEq, Nat.reduceLT, Nat.reduceAdd, Nat.reduceMul, Nat.reduceSub, Nat.reduceLeDiff, Nat.reduceEqDiff, Int.reduceToNat, Int.reduceLT, Int.reduceLE, Int.reduceAdd, Int.reduceSub, Int.reduceEq, reduceIte, Nat.reduceBNe, Int.reducePow, Nat.reducePow, Int.reduceMul, Int.reduceNeg, isB_i, isB_b, isB_y, isBv_i, isBv_b, eqCells_t, TT, ids_bsC, ren_bsC, List.replicate_zero], by simp only [XX, Nat.reduceBEq, Nat.reduceLT, Nat.reduceAdd, Nat.reduceMul, Nat.reduceSub, Nat.reduceLeDiff, Nat.reduceEqDiff, Int.reduceToNat, Int.reduceLT, Int.reduceLE, Int.reduceAdd, Int.reduceSub, Int.reduceEq, reduceIte, Nat.reduceBNe, Int.reducePow, Nat.reducePow, Int.reduceMul, Int.reduceNeg, isB_i, isB_b, isB_y, isBv_i, isBv_b, eqCells_t, TT]⟩ ?_
  rintro μ σ ⟨i, rfl, hi, rfl⟩
  simp (maxSteps := 4000000) only [Try.results39, XX, Nat.reduceBEq, Nat.reduceLT, Nat.reduceAdd, Nat.reduceMul, Nat.reduceSub, Nat.reduceLeDiff, Nat.reduceEqDiff, Int.reduceToNat, Int.reduceLT, Int.reduceLE, Int.reduceAdd, Int.reduceSub, Int.reduceEq, reduceIte, Nat.reduceBNe, Int.reducePow, Nat.reducePow, Int.reduceMul, Int.reduceNeg, isB_i, isB_b, isB_y, isBv_i, isBv_b, eqCells_t, TT]
  by_cases hlt : i < l.length + 2
  · have hd : decide ((i : Int) < ((l.length + 2 : Nat) : Int)) = true := by simp only [decide_eq_true_eq]; omega
    simp (maxSteps := 4000000) only [Try.results39, hd, XX, Nat.reduceBEq, Nat.reduceLT, Nat.reduceAdd, Nat.reduceMul, Nat.reduceSub, Nat.reduceLeDiff, Nat.reduceEqDiff, Int.reduceToNat, Int.reduceLT, Int.reduceLE, Int.reduceAdd, Int.reduceSub, Int.reduceEq, reduceIte, Nat.reduceBNe, Int.reducePow, Nat.reducePow, Int.reduceMul, Int.reduceNeg, isB_i, isB_b, isB_y, isBv_i, isBv_b, eqCells_t, TT]
    have hle : i + 1 ≤ (List.replicate i 83 ++ (l ++ [71, 72]).drop i).length := by simp; omega
    have e3 : IntKind.i64.wrap ((i : Int) + 1) = ((i + 1 : Nat) : Int) := by rw [w64] <;> omega
    have b3 : SC.v (.int .u8 83) = byteC 83 := rfl
    refine ⟨⟨by omega, by omega⟩, by rw [bsC_len]; exact hle, l.length + 2 - (i + 1), by omega, _, ⟨i + 1, rfl, by omega, rfl⟩, [some 0], ⟨rfl, rfl, ?_, ?_⟩⟩
    · simp only [b3, bs_take, bs_drop, bs_one, bs_app, over_step 83 (l ++ [71, 72]) i (by simpa using hlt)]
      simp only [XX, Nat.reduceBEq, Nat.reduceLT, Nat.reduceAdd, Nat.reduceMul, Nat.reduceSub, Nat.reduceLeDiff, Nat.reduceEqDiff, Int.reduceToNat, Int.reduceLT, Int.reduceLE, Int.reduceAdd, Int.reduceSub, Int.reduceEq, reduceIte, Nat.reduceBNe, Int.reducePow, Nat.reducePow, Int.reduceMul, Int.reduceNeg, isB_i, isB_b, isB_y, isBv_i, isBv_b, eqCells_t, TT, ids_bsC, ren_bsC]
    · simp only [XX, Nat.reduceBEq, Nat.reduceLT, Nat.reduceAdd, Nat.reduceMul, Nat.reduceSub, Nat.reduceLeDiff, Nat.reduceEqDiff, Int.reduceToNat, Int.reduceLT, Int.reduceLE, Int.reduceAdd, Int.reduceSub, Int.reduceEq, reduceIte, Nat.reduceBNe, Int.reducePow, Nat.reducePow, Int.reduceMul, Int.reduceNeg, isB_i, isB_b, isB_y, isBv_i, isBv_b, eqCells_t, TT, e3]
  · have hd : decide ((i : Int) < ((l.length + 2 : Nat) : Int)) = false := by simp only [decide_eq_false_iff_not]; omega
    simp (maxSteps := 4000000) only [Try.results39, hd, XX, Nat.reduceBEq, Nat.reduceLT, Nat.reduceAdd, Nat.reduceMul, Nat.reduceSub, Nat.reduceLeDiff, Nat.reduceEqDiff, Int.reduceToNat, Int.reduceLT, Int.reduceLE, Int.reduceAdd, Int.reduceSub, Int.reduceEq, reduceIte, Nat.reduceBNe, Int.reducePow, Nat.reducePow, Int.reduceMul, Int.reduceNeg, isB_i, isB_b, isB_y, isBv_i, isBv_b, eqCells_t, TT]
    obtain rfl : i = l.length + 2 := by omega
    rw [List.drop_of_length_le (by simp), List.append_nil]

end Go.Proofs.Ytflccffjfnfoiaa.Sx
