/- The symbolic executor, at work: what the laws lean on, part 1. No condition. -/
import Derived.Test.YthbojoiogjdbeaaSxOpen
import Derived.Laws.Strings
namespace Go.Proofs.Ythbojoiogjdbeaa.Sx
open Go
set_option linter.unusedSimpArgs false
set_option linter.unusedVariables false
set_option maxRecDepth 10000
set_option maxHeartbeats 1000000
abbrev i64 (n : Int) : SC := .v (.int .i64 n)
abbrev u64 (n : Int) : SC := .v (.int .u64 n)
abbrev bC (b : Bool) : SC := .v (.bool b)
theorem wrap_u8 (x : Int) : IntKind.u8.wrap x = x % 256 := by
  simp [IntKind.wrap, IntKind.bits, IntKind.signed]
theorem wrap_u64 (x : Int) : IntKind.u64.wrap x = x % 18446744073709551616 := by
  simp [IntKind.wrap, IntKind.bits, IntKind.signed]
theorem wrap_i64 (x : Int) : IntKind.i64.wrap x = (x + 9223372036854775808) % 18446744073709551616 - 9223372036854775808 := by
  have : IntKind.i64.wrap x = if x % 18446744073709551616 ≥ 9223372036854775808 then x % 18446744073709551616 - 18446744073709551616 else x % 18446744073709551616 := by simp [IntKind.wrap, IntKind.bits, IntKind.signed]
  rw [this]
  split <;> omega
/-- Within bounds nothing is wrapped. -/
theorem w64 {x : Int} (h1 : -9223372036854775808 ≤ x) (h2 : x < 9223372036854775808) : IntKind.i64.wrap x = x := by rw [wrap_i64]; omega
theorem wu64 {x : Int} (h1 : 0 ≤ x) (h2 : x < 18446744073709551616) : IntKind.u64.wrap x = x := by rw [wrap_u64]; omega
theorem wu8 {x : Int} (h1 : 0 ≤ x) (h2 : x < 256) : IntKind.u8.wrap x = x := by rw [wrap_u8]; omega
theorem byte_nat (b : UInt8) : 0 ≤ (b.toNat : Int) ∧ (b.toNat : Int) < 256 := by
  have := b.toNat_lt
  constructor <;> omega
def byteR (b : UInt8) : RC := .v (.int .u8 b.toNat)
abbrev bsC (l : List UInt8) : List SC := l.map byteC
abbrev bsR (l : List UInt8) : List RC := l.map byteR
/-- Bytes as they came in: 'sp' stands behind them. -/
abbrev roB (l sp : List UInt8) (c : Nat) : SC := .ro (bsR (l ++ sp)) l.length c
abbrev strB (l : List UInt8) : SC := .v (.string ⟨l.toArray⟩)
abbrev wB (own : Bool) (l : List UInt8) : SB := ⟨own, 5, bsC l⟩
theorem bsR_toSC (l : List UInt8) : (bsR l).map RC.toSC = bsC l := by
  simp only [List.map_map]
  exact List.map_congr_left fun b _ => rfl
theorem byteOf_byteC (b : UInt8) : byteOf (byteC b) = b := by
  simp [byteOf, byteC]
theorem strOf_bsC (l : List UInt8) : strOf (bsC l) = ⟨l.toArray⟩ := by
  simp only [strOf, List.map_map]
  congr 2
  conv => rhs; rw [← List.map_id l]
  exact List.map_congr_left fun b _ => byteOf_byteC b
theorem isByte_byteC (b : UInt8) : isByte (byteC b) = true := by
  have := byte_nat b
  simp [isByte, byteC]
  omega
theorem isByte_bsC (l : List UInt8) : ∀ c ∈ bsC l, isByte c = true := by
  intro c hc
  simp only [List.mem_map] at hc
  obtain ⟨b, _, rfl⟩ := hc
  exact isByte_byteC b
theorem str_eq (a b : List UInt8) : ((⟨a.toArray⟩ : ByteArray).toList == (⟨b.toArray⟩ : ByteArray).toList) = decide (a = b) := by
  rw [ByteArray.toList_eq, ByteArray.toList_eq]
  simp only [List.toList_toArray]
  rw [Bool.eq_iff_iff]
  simp
theorem bsC_len (l : List UInt8) : (bsC l).length = l.length := by simp
theorem bsC_zeros (n : Nat) : (List.replicate n (SC.v (.int .u8 0))) = bsC (List.replicate n 0) := by
  simp only [bsC, List.map_replicate]; rfl
theorem zeros_flat (n : Nat) : (List.replicate n [SC.v (.int .u8 0)]).flatten = bsC (List.replicate n 0) := by
  rw [← bsC_zeros]
  induction n with
  | zero => rfl
  | succ n ih => simp [List.replicate_succ, ih]
theorem bs_take (n : Nat) (l : List UInt8) : (bsC l).take n = bsC (l.take n) := List.map_take.symm
theorem bs_drop (n : Nat) (l : List UInt8) : (bsC l).drop n = bsC (l.drop n) := List.map_drop.symm
theorem bs_app (a b : List UInt8) : bsC a ++ bsC b = bsC (a ++ b) := List.map_append.symm
theorem rs_take (n : Nat) (l : List UInt8) : (bsR l).take n = bsR (l.take n) := List.map_take.symm
theorem ids_bsC (p : Nat → Bool) (l : List UInt8) : (bsC l).all (SC.ids p) = true := by simp [List.all_eq_true, byteC, SC.ids]
theorem ren_bsC (r : Nat → Nat) (l : List UInt8) : (bsC l).map (SC.ren r) = bsC l := by
  rw [List.map_map]; exact List.map_congr_left fun b _ => rfl
theorem noRo_bsC (l : List UInt8) : (bsC l).all SC.noRo = true := by simp [List.all_eq_true, byteC, SC.noRo]
theorem lt_bsC (n : Nat) (l : List UInt8) : (bsC l).all (SC.lt n) = true := by simp [List.all_eq_true, byteC, SC.lt]
theorem ids_byte (p : Nat → Bool) (b : UInt8) : (byteC b).ids p = true := rfl
theorem ren_byte (r : Nat → Nat) (b : UInt8) : (byteC b).ren r = byteC b := rfl
theorem noRo_byte (b : UInt8) : (byteC b).noRo = true := rfl
theorem plain_byte (b : UInt8) : (byteC b).plain = true := rfl
theorem lt_byte (n : Nat) (b : UInt8) : (byteC b).lt n = true := rfl
theorem plain_bsC (l : List UInt8) : (bsC l).all SC.plain = true := by simp [List.all_eq_true, byteC, SC.plain]
theorem bvn (n x : Nat) (h : x < 2 ^ n) : (BitVec.ofInt n (x : Int)).toNat = x := by
  rw [BitVec.ofInt_natCast, BitVec.toNat_ofNat, Nat.mod_eq_of_lt h]
theorem or_u64 {x y : Nat} (hx : x < 18446744073709551616) (hy : y < 18446744073709551616) : bitI .or .u64 (x : Int) (y : Int) = ((x ||| y : Nat) : Int) := by
  show IntKind.u64.wrap (((BitVec.ofInt 64 (x : Int) ||| BitVec.ofInt 64 (y : Int) : BitVec 64).toNat : Nat) : Int) = _
  rw [BitVec.toNat_or, bvn 64 x hx, bvn 64 y hy]
  have : x ||| y < 2 ^ 64 := Nat.or_lt_two_pow hx hy
  rw [wu64] <;> omega
theorem and_u8 {x y : Nat} (hx : x < 256) (hy : y < 256) : bitI .and .u8 (x : Int) (y : Int) = ((x &&& y : Nat) : Int) := by
  show IntKind.u8.wrap (((BitVec.ofInt 8 (x : Int) &&& BitVec.ofInt 8 (y : Int) : BitVec 8).toNat : Nat) : Int) = _
  rw [BitVec.toNat_and, bvn 8 x hx, bvn 8 y hy]
  have : x &&& y < 2 ^ 8 := Nat.and_lt_two_pow x hy
  rw [wu8] <;> omega
theorem or_add {a b : Nat} (hb : b < 256) : a * 256 ||| b = a * 256 + b := by
  have := Nat.shiftLeft_add_eq_or_of_lt (i := 8) (b := b) (by omega) a
  rw [Nat.shiftLeft_eq] at this
  exact this.symm
/-- A number's next byte. -/
theorem or_next {a b : Nat} (ha : a < 72057594037927936) (hb : b < 256) : bitI .or .u64 (IntKind.u64.wrap ((a : Int) * 2 ^ min 8 64)) (IntKind.u64.wrap (b : Int)) = ((a * 256 + b : Nat) : Int) := by
  have e : (a : Int) * 2 ^ min 8 64 = ((a * 256 : Nat) : Int) := by push_cast; rfl
  rw [e, wu64 (by omega) (by omega), wu64 (by omega) (by omega), or_u64 (by omega) (by omega), or_add hb]
theorem xapp_grow {xn : XN} {need cap : Nat} {dst : Option Tmp} {k : List KI} {nm : NB} {tm : List (Nat × SV)} {room : SV × List SB} {grow : Nat → SV × List SB} {Q : XE → St → Prop} (h : cap < need)
    (hk : ∀ c, need ≤ c → c ≤ maxLen → xn k ⟨nm, put dst (grow c).1 tm, (grow c).2⟩ Q) : XApp xn need cap dst k nm tm room grow Q := ⟨fun h' => absurd h' (by omega), fun _ c h1 h2 => .inl (hk c h1 h2)⟩
theorem xapp_room {xn : XN} {need cap : Nat} {dst : Option Tmp} {k : List KI} {nm : NB} {tm : List (Nat × SV)} {room : SV × List SB} {grow : Nat → SV × List SB} {Q : XE → St → Prop} (h : need ≤ cap)
    (hk : xn k ⟨nm, put dst room.1 tm, room.2⟩ Q) : XApp xn need cap dst k nm tm room grow Q := ⟨fun _ => .inl hk, fun h' => absurd h (by omega)⟩
theorem xapp_both {xn : XN} {need cap : Nat} {dst : Option Tmp} {k : List KI} {nm : NB} {tm : List (Nat × SV)} {room : SV × List SB} {grow : Nat → SV × List SB} {Q : XE → St → Prop}
    (h1 : need ≤ cap → xn k ⟨nm, put dst room.1 tm, room.2⟩ Q) (h2 : cap < need → ∀ c, need ≤ c → c ≤ maxLen → xn k ⟨nm, put dst (grow c).1 tm, (grow c).2⟩ Q) : XApp xn need cap dst k nm tm room grow Q := ⟨fun h => .inl (h1 h), fun h c h3 h4 => .inl (h2 h c h3 h4)⟩
theorem byteC_nat (m : Nat) {x : Int} (h : x % 256 = ((m % 256 : Nat) : Int)) : SC.v (.int .u8 (IntKind.u8.wrap x)) = byteC (UInt8.ofNat m) := by
  simp only [byteC, wrap_u8, h]
  congr 2
theorem fdiv_nat (n k : Nat) : (n : Int).fdiv (k : Int) = ((n / k : Nat) : Int) := by
  rw [Int.fdiv_eq_ediv_of_nonneg _ (Int.natCast_nonneg k), Int.natCast_ediv]
theorem tmod_nat (n k : Nat) : (n : Int).tmod (k : Int) = ((n % k : Nat) : Int) := rfl
theorem tdiv256 (n : Nat) : (n : Int).tdiv 256 = ((n / 256 : Nat) : Int) := rfl
theorem tmod256 (n : Nat) : (n : Int).tmod 256 = ((n % 256 : Nat) : Int) := rfl
theorem shr0 (n : Nat) : (n : Int).fdiv (2 ^ min 0 64) = ((n : Nat) : Int) := by have := fdiv_nat n 1; rwa [Nat.div_one] at this
theorem shr8 (n : Nat) : (n : Int).fdiv (2 ^ min 8 64) = ((n / 256 : Nat) : Int) := fdiv_nat n 256
theorem byteC_n (m : Nat) : SC.v (.int .u8 (IntKind.u8.wrap (m : Int))) = byteC (UInt8.ofNat m) := byteC_nat m (by omega)
theorem byteC_m (m : Nat) : SC.v (.int .u8 (IntKind.u8.wrap ((m % 256 : Nat) : Int))) = byteC (UInt8.ofNat m) := byteC_nat m (by omega)
theorem frL_bs {ok : Nat → Bool} {h : List SB} (b : List UInt8) : ∀ a : List UInt8, frL ok h (bsR a) (bsC (a ++ b))
  | [] => by simp only [bsR, List.map_nil, frL]
  | x :: a => ⟨rfl, frL_bs b a⟩
theorem fz_sl {r : Nat → Nat} {n : Nat} {h : List SB} {i o c : Nat} {l sp : List UInt8} {b : SB} (hb : h[i]? = some b) (hv : b.void = false) (hc : b.cells.drop o = bsC (l ++ sp)) : frC true (fun _ => true) r n h (.sl i o l.length c) (roB l sp c) :=
  .inr ⟨rfl, .inl ⟨_, _, _, rfl, .inr (.inr ⟨i, o, rfl, .inr ⟨rfl, b, hb, hv, by
    have := frL_bs (ok := fun _ => true) (h := h) [] (l ++ sp)
    rw [List.append_nil] at this
    rw [hc]; exact this⟩⟩)⟩⟩
theorem fz_c {ok : Nat → Bool} {r : Nat → Nat} {n : Nat} {h : List SB} {fz : Bool} {x y : SC} (hx : frC fz ok r n h x y) : frV fz ok r n h (.c x) (.c y) := .inr (.inl ⟨_, _, rfl, rfl, hx⟩)
/-- A call of a function that has no windows of its own: what is handed in is read alone. -/
theorem call_fz {P : Program} {xn : XN} {f : FuncId} {args : List SV} (args0 : List SV) {dst : Option Tmp} {k : List KI} {nm : NB} {tm : List (Nat × SV)} {hp : List SB} {Q : XE → St → Prop} {K : SV → List SB → Prop}
    (s : Spec P f args0 [] K) (hno : ∀ t h', K t h' → t.noRo = true ∧ (h'.all fun b => b.cells.all SC.noRo) = true) (ha : frA true (fun _ => true) (renF [] hp.length) 0 hp args args0)
    (hk : ∀ s0 h0', K s0 h0' → xn k ⟨nm, put dst (s0.ren (renF [] hp.length)) tm, hp ++ h0'.map (SB.ren (renF [] hp.length))⟩ Q) : CallGoal P xn f args dst k ⟨nm, tm, hp⟩ Q :=
  call_fr s true (fun _ => hno) [] ha rfl trivial rfl hk
end Go.Proofs.Ythbojoiogjdbeaa.Sx
namespace Go.Proofs.Ythbojoiogjdbeaa.Sx
open Go
set_option linter.unusedSimpArgs false
set_option linter.unusedVariables false
theorem gset (l : List SB) (i : Nat) (a : SB) : (l.set i a)[i]? = (l[i]?).map fun _ => a := by
  rw [List.getElem?_set]
  by_cases h : i < l.length
  · simp [h]
  · simp [h, List.getElem?_eq_none (Nat.le_of_not_lt h)]
theorem maskL_nil : ∀ (h : List SB) (k : Nat), maskL [] k h = h
  | [], _ => rfl
  | b :: h, k => by simp [maskL, maskL_nil h (k + 1)]
theorem unL_nil : ∀ (h0 h : List SB) (k : Nat), unL [] k h0 h = h := by
  intro h0 h k
  apply List.ext_getElem?
  intro i
  rw [unL_get]
  cases h[i]? with
  | none => rfl
  | some b =>
    simp only [Option.map_some]
    cases h0[i]? <;> simp
theorem maskL_at {L : List Nat} {h : List SB} {i : Nat} {b : SB} (hb : h[i]? = some b) : ∃ o, (maskL L 0 h)[i]? = some ⟨o, b.ty, b.cells⟩ := by
  rw [maskL_get, hb]
  simp only [Option.map_some, Nat.zero_add]
  cases L.contains i
  · exact ⟨b.own, rfl⟩
  · exact ⟨false, rfl⟩
theorem unL_maskL (L : List Nat) (h : List SB) : unL L 0 h (maskL L 0 h) = h := by
  apply List.ext_getElem?
  intro i
  rw [unL_get, maskL_get]
  cases hb : h[i]? with
  | none => rfl
  | some b =>
    simp only [Option.map_some, Nat.zero_add]
    cases L.contains i <;> simp
theorem lt_of {h : List SB} {i : Nat} {b : SB} (hb : h[i]? = some b) : i < h.length := (List.getElem?_eq_some_iff.1 hb).1
theorem ne_of_ty {h : List SB} {i j : Nat} {a b : SB} (ha : h[i]? = some a) (hb : h[j]? = some b) (hne : a.ty ≠ b.ty) : i ≠ j := by
  rintro rfl
  rw [ha] at hb
  cases hb
  exact hne rfl
theorem kept_nil {h : List SB} : (([] : List Nat).all fun i => match h[i]? with
    | some b => !b.void
    | none => false) = true := rfl
theorem kept_cons {h : List SB} {i : Nat} {L : List Nat} {b : SB} (hb : h[i]? = some b) (hv : b.void = false) (hL : (L.all fun i => match h[i]? with
    | some b => !b.void
    | none => false) = true) : ((i :: L).all fun i => match h[i]? with
    | some b => !b.void
    | none => false) = true := by
  rw [List.all_cons, hL, hb, Bool.and_true]
  show (!b.void) = true
  rw [hv]; rfl
theorem rep_flat (n : Nat) (x : SC) : (List.replicate n [x]).flatten = List.replicate n x := by
  induction n with
  | zero => rfl
  | succ n ih => simp [List.replicate_succ, ih]
/-- Nil may stand for a list of nothing. -/
theorem wk_nil {π : List (Option Nat)} {i o : Nat} : leV π (.c (.v (.slice none 0 0))) (.c (.sl i o 0 0)) := .inr (.inr (.inr ⟨_, _, rfl, .inl rfl⟩))
theorem take_next (l : List UInt8) (i : Nat) (h : i < l.length) : l.take i ++ [l.getD i 0] = l.take (i + 1) := by
  rw [List.getD_eq_getElem?_getD, List.getElem?_eq_getElem h, Option.getD_some]; exact List.take_append_getElem h
end Go.Proofs.Ythbojoiogjdbeaa.Sx
namespace Go.Proofs.Ythbojoiogjdbeaa.Sx
open Go
set_option linter.unusedSimpArgs false
set_option linter.unusedVariables false
theorem RTy_byte {B n : Nat} {x : List RC} (h : RTy T B (n + 1) 5 x) : ∃ b : UInt8, x = [byteR b] := by
  obtain ⟨z, rfl, h1, h2⟩ := RTy_int T_5 h
  simp [IntKind.min, IntKind.max, IntKind.bits, IntKind.signed] at h1 h2
  refine ⟨UInt8.ofNat z.toNat, ?_⟩
  simp only [byteR]
  congr 3
  simp
  omega
theorem bsR_flat : ∀ ys : List UInt8, (ys.map fun b : UInt8 => [byteR b]).flatten = bsR ys
  | [] => rfl
  | y :: ys => by simp only [List.map_cons, List.flatten_cons, bsR_flat ys]; rfl
theorem RTy_bytes {B n : Nat} {x : List RC} (h : RTy T B (n + 2) 33 x) : ∃ (l sp : List UInt8) (c : Nat), x = [.sl (bsR (l ++ sp)) l.length c] ∧ l.length ≤ c ∧ c = l.length + sp.length ∧ c ≤ maxLen ∧ c ≤ B := by
  obtain ⟨items, len, rfl, h1, h2, h3, h4⟩ := RTy_slice T_33 T_5 h
  obtain ⟨ys, rfl, _⟩ := all_form (p := fun _ => True) (f := fun b : UInt8 => [byteR b]) fun x hx => by
    obtain ⟨b, rfl⟩ := RTy_byte (h4 x hx)
    exact ⟨b, rfl, trivial⟩
  simp only [List.length_map, Nat.mul_one] at h1 h2 h3 ⊢
  refine ⟨ys.take len, ys.drop len, ys.length, ?_, ?_, ?_, h2, h3⟩
  · rw [bsR_flat, List.take_append_drop, List.length_take, Nat.min_eq_left h1]
  · rw [List.length_take]; omega
  · rw [List.length_take, List.length_drop]; omega
end Go.Proofs.Ythbojoiogjdbeaa.Sx
namespace Go.Proofs.Ythbojoiogjdbeaa.Sx
open Go
set_option linter.unusedSimpArgs false
set_option linter.unusedVariables false
/-- Both ways of an append, at once. -/
theorem xapp_P {xn : XN} {need cap : Nat} {dst : Option Tmp} {k : List KI} {nm : NB} {tm : List (Nat × SV)} {room : SV × List SB} {grow : Nat → SV × List SB} {Q : XE → St → Prop} (P : SV → List SB → Prop)
    (h1 : need ≤ cap → P room.1 room.2) (h2 : cap < need → ∀ c, need ≤ c → c ≤ maxLen → P (grow c).1 (grow c).2) (hk : ∀ s h, P s h → xn k ⟨nm, put dst s tm, h⟩ Q) : XApp xn need cap dst k nm tm room grow Q :=
  ⟨fun h => .inl (hk _ _ (h1 h)), fun h c h3 h4 => .inl (hk _ _ (h2 h c h3 h4))⟩
/-- A loop; less may be known, or fewer temporaries. -/
theorem loop_any {cx : Cx} (hc : CxOk cx) {c : Code} {k : List KI} {σ : St} {Q : XE → St → Prop} (n : Nat) (I : Nat → St → Prop) (m : Nat) (σ0 : St) (h0 : I m σ0) (hw : Sub σ σ0 ∨ ∃ π, Wk π σ σ0)
    (round : ∀ m σ', I m σ' → X cx n (.code c :: .lp (fun σ'' => ∃ m', m' < m ∧ ∃ σ3, I m' σ3 ∧ (Sub σ'' σ3 ∨ ∃ π, Wk π σ'' σ3)) :: k) σ' Q) : LoopGoal cx.P c k σ Q :=
  loop_gen hc (fun σ τ => Sub σ τ ∨ ∃ π, Wk π σ τ) (fun _ _ _ _ _ h S => h.elim (fun h => S.sub h) fun ⟨_, h⟩ => S.wk h) n I m σ0 h0 hw round
/-- 'l' stands in a window, whole: 's' is it. -/
structure Buf (h : List SB) (w : Nat) (o : Bool) (l sp : List UInt8) : Prop where
  at_ : h[w]? = some (wB o (l ++ sp))
  own : 0 < l.length + sp.length → o = true
abbrev slB (w : Nat) (l sp : List UInt8) : SC := .sl w 0 l.length (l.length + sp.length)
/-- What an append to window 'w' of 'H' comes to. -/
def BufP (H : List SB) (w : Nat) (l : List UInt8) (s : SV) (H' : List SB) : Prop :=
  ∃ w' sp, s = .c (slB w' l sp) ∧ Buf H' w' true l sp ∧ H.length ≤ H'.length ∧ (∀ k, k < H.length → k ≠ w → H'[k]? = H[k]?) ∧ (w' = w ∨ H.length ≤ w')
theorem bufP_room {H t : List SB} {w n c : Nat} {o : Bool} {l l' sp' : List UInt8} {cells : List SC} (hw : H[w]? = some (wB o l)) (ho : o = true) (hcells : cells = bsC (l' ++ sp')) (hn : l'.length = n) (hc : c = n + sp'.length) :
    BufP H w l' (.c (.sl w 0 n c)) (H.set w ⟨o, 5, cells⟩ ++ t) := by
  subst ho; subst hcells; subst hn; subst hc
  have lw := lt_of hw
  refine ⟨w, sp', rfl, ⟨?_, fun _ => rfl⟩, by simp, fun k hk hne => ?_, .inl rfl⟩
  · rw [List.getElem?_append_left (by simpa using lw), gset, hw]; rfl
  · rw [List.getElem?_append_left (by simpa using hk), List.getElem?_set_ne (Ne.symm hne)]
theorem bufP_grow {H t : List SB} {w n c x : Nat} {l' sp' : List UInt8} {cells : List SC} (hcells : cells = bsC (l' ++ sp')) (hx : x = H.length + t.length) (hn : l'.length = n) (hc : c = n + sp'.length) :
    BufP H w l' (.c (.sl x 0 n c)) (H ++ (t ++ [⟨true, 5, cells⟩])) := by
  subst hcells; subst hx; subst hn; subst hc
  refine ⟨_, sp', rfl, ⟨?_, fun _ => rfl⟩, by simp, fun k hk hne => ?_, .inr (by omega)⟩
  · rw [List.getElem?_append_right (by omega), Nat.add_sub_cancel_left, List.getElem?_append_right (Nat.le_refl _), Nat.sub_self]; rfl
  · rw [List.getElem?_append_left hk]
theorem cellsB_app {l sp news : List UInt8} {n m : Nat} (hn : l.length = n) (hm : news.length = m) : (bsC (l ++ sp)).take n ++ (bsC news ++ (bsC (l ++ sp)).drop (n + m)) = bsC ((l ++ news) ++ sp.drop m) := by
  subst hn; subst hm
  rw [bs_take, List.take_left' rfl, bs_drop, List.drop_append, List.drop_of_length_le (by omega), List.nil_append, Nat.add_sub_cancel_left, bs_app, bs_app, List.append_assoc]
theorem cellsB_one {l sp : List UInt8} {x : UInt8} {n : Nat} (hn : l.length = n) : (bsC (l ++ sp)).take n ++ (byteC x :: (bsC (l ++ sp)).drop (n + 1)) = bsC ((l ++ [x]) ++ sp.drop 1) :=
  cellsB_app (news := [x]) hn rfl
theorem cellsB_new {l sp news : List UInt8} {n c : Nat} (hn : l.length = n) : (bsC (l ++ sp)).take n ++ (bsC news ++ List.replicate c (SC.v (.int .u8 0))) = bsC ((l ++ news) ++ List.replicate c 0) := by
  subst hn
  rw [bs_take, List.take_left' rfl, bsC_zeros, bs_app, bs_app, List.append_assoc]
theorem cellsB_new1 {l sp : List UInt8} {x : UInt8} {n c : Nat} (hn : l.length = n) : (bsC (l ++ sp)).take n ++ (byteC x :: List.replicate c (SC.v (.int .u8 0))) = bsC ((l ++ [x]) ++ List.replicate c 0) :=
  cellsB_new (news := [x]) hn
/-- A byte behind a list, either way. -/
theorem xapp_one {xn : XN} {dst : Option Tmp} {k : List KI} {nm : NB} {tm : List (Nat × SV)} {Q : XE → St → Prop} {H : List SB} {w n c : Nat} {o : Bool} {l sp : List UInt8} {x : UInt8} {t : List SB} {g : Nat} (B : Buf H w o l sp) (hn : l.length = n) (hc : c = n + sp.length) (hg : g = H.length + t.length)
    (hk : ∀ H' w' sp', Buf H' w' true (l ++ [x]) sp' → H.length ≤ H'.length → (∀ k, k < H.length → k ≠ w → H'[k]? = H[k]?) → (w' = w ∨ H.length ≤ w') → xn k ⟨nm, put dst (.c (slB w' (l ++ [x]) sp')) tm, H'⟩ Q) :
    XApp xn (n + 1) c dst k nm tm (.c (.sl w 0 (n + 1) c), H.set w ⟨o, 5, (bsC (l ++ sp)).take n ++ (byteC x :: (bsC (l ++ sp)).drop (n + 1))⟩ ++ t)
      (fun c' => (.c (.sl g 0 (n + 1) c'), H ++ (t ++ [⟨true, 5, (bsC (l ++ sp)).take n ++ (byteC x :: List.replicate (c' - (n + 1)) (SC.v (.int .u8 0)))⟩]))) Q := by
  refine xapp_P (BufP H w (l ++ [x])) (fun h => ?_) (fun h c' h1 h2 => ?_) ?_
  · exact bufP_room B.at_ (B.own (by omega)) (cellsB_one hn) (by simp [hn]) (by simp; omega)
  · exact bufP_grow (cellsB_new1 hn) hg (by simp [hn]) (by simp; omega)
  · rintro s H' ⟨w', sp', rfl, b, h1, h2, h3⟩
    exact hk H' w' sp' b h1 h2 h3
/-- Bytes behind a list, either way. -/
theorem xapp_more {xn : XN} {dst : Option Tmp} {k : List KI} {nm : NB} {tm : List (Nat × SV)} {Q : XE → St → Prop} {H : List SB} {w n m c : Nat} {o : Bool} {l sp news : List UInt8} {t : List SB} {g : Nat} (B : Buf H w o l sp) (hn : l.length = n) (hm : news.length = m) (hc : c = n + sp.length) (hg : g = H.length + t.length) (hp : 0 < n + m)
    (hk : ∀ H' w' sp', Buf H' w' true (l ++ news) sp' → H.length ≤ H'.length → (∀ k, k < H.length → k ≠ w → H'[k]? = H[k]?) → (w' = w ∨ H.length ≤ w') → xn k ⟨nm, put dst (.c (slB w' (l ++ news) sp')) tm, H'⟩ Q) :
    XApp xn (n + m) c dst k nm tm (.c (.sl w 0 (n + m) c), H.set w ⟨o, 5, (bsC (l ++ sp)).take n ++ (bsC news ++ (bsC (l ++ sp)).drop (n + m))⟩ ++ t)
      (fun c' => (.c (.sl g 0 (n + m) c'), H ++ (t ++ [⟨true, 5, (bsC (l ++ sp)).take n ++ (bsC news ++ List.replicate (c' - (n + m)) (SC.v (.int .u8 0)))⟩]))) Q := by
  refine xapp_P (BufP H w (l ++ news)) (fun h => ?_) (fun h c' h1 h2 => ?_) ?_
  · exact bufP_room B.at_ (B.own (by omega)) (cellsB_app hn hm) (by simp [hn, hm]) (by simp; omega)
  · exact bufP_grow (cellsB_new hn) hg (by simp [hn, hm]) (by simp; omega)
  · rintro s H' ⟨w', sp', rfl, b, h1, h2, h3⟩
    exact hk H' w' sp' b h1 h2 h3
theorem xapp_more0 {xn : XN} {dst : Option Tmp} {k : List KI} {nm : NB} {tm : List (Nat × SV)} {Q : XE → St → Prop} {H : List SB} {w n m c : Nat} {o : Bool} {l sp news : List UInt8} {g : Nat} (B : Buf H w o l sp) (hn : l.length = n) (hm : news.length = m) (hc : c = n + sp.length) (hg : g = H.length) (hp : 0 < n + m)
    (hk : ∀ H' w' sp', Buf H' w' true (l ++ news) sp' → H.length ≤ H'.length → (∀ k, k < H.length → k ≠ w → H'[k]? = H[k]?) → (w' = w ∨ H.length ≤ w') → xn k ⟨nm, put dst (.c (slB w' (l ++ news) sp')) tm, H'⟩ Q) :
    XApp xn (n + m) c dst k nm tm (.c (.sl w 0 (n + m) c), H.set w ⟨o, 5, (bsC (l ++ sp)).take n ++ (bsC news ++ (bsC (l ++ sp)).drop (n + m))⟩)
      (fun c' => (.c (.sl g 0 (n + m) c'), H ++ [⟨true, 5, (bsC (l ++ sp)).take n ++ (bsC news ++ List.replicate (c' - (n + m)) (SC.v (.int .u8 0)))⟩])) Q := by
  have := xapp_more (t := []) (xn := xn) (dst := dst) (k := k) (nm := nm) (tm := tm) (Q := Q) (g := g) B hn hm hc hg hp hk
  simpa only [List.append_nil, List.nil_append] using this
theorem Buf.mono {h h' : List SB} {w : Nat} {o : Bool} {l sp : List UInt8} (B : Buf h w o l sp) (h1 : h'[w]? = h[w]?) : Buf h' w o l sp := ⟨h1.trans B.at_, B.own⟩
theorem Buf.app {h t : List SB} {w : Nat} {o : Bool} {l sp : List UInt8} (B : Buf h w o l sp) : Buf (h ++ t) w o l sp := B.mono (List.getElem?_append_left (lt_of B.at_))
/-- A call by a contract over all windows. -/
theorem call_is {P : Program} {xn : XN} {f : FuncId} {args : List SV} {dst : Option Tmp} {k : List KI} {nm : NB} {tm : List (Nat × SV)} {hp : List SB} {Q : XE → St → Prop} {K : SV → List SB → Prop}
    (s : Spec P f args hp K) (hk : ∀ s h', K s h' → xn k ⟨nm, put dst s tm, h'⟩ Q) : CallGoal P xn f args dst k ⟨nm, tm, hp⟩ Q := .inl ⟨K, s, fun s h' h => .inl (hk s h' h)⟩
/-- What a function gives: bytes and an error's number. -/
def resB (l : List UInt8) (e : Int) (s : SV) (h' : List SB) : Prop := ∃ sp o, s = .tup [(false, [slB 0 l sp]), (false, [i64 e])] ∧ h' = [wB o (l ++ sp)] ∧ (0 < l.length + sp.length → o = true)
theorem resB_of {P : Program} {f : FuncId} {args : List SV} {l : List UInt8} {e : Int} (s : Spec P f args [] fun s h' => ∃ w sp o, s = .tup [(false, [slB w l sp]), (false, [i64 e])] ∧ Buf h' w o l sp) : Spec P f args [] (resB l e) :=
  s.wk fun t h' ⟨w, sp, o, h1, b⟩ => ⟨.tup [(false, [slB 0 l sp]), (false, [i64 e])], [wB o (l ++ sp)], [some w], rfl, by simp only [XX, Nat.reduceBEq, Nat.reduceLT, Nat.reduceAdd, Nat.reduceMul, Nat.reduceSub, Nat.reduceLeDiff, Nat.reduceEqDiff, Int.reduceToNat, Int.reduceLT, Int.reduceLE, Int.reduceAdd, Int.reduceSub, Int.reduceEq, reduceIte, Nat.reduceBNe, Int.reducePow, Nat.reducePow, Int.reduceMul, Int.reduceNeg, isB_i, isB_b, isB_y, isBv_i, isBv_b, eqCells_t, TT, ids_bsC, ren_bsC, noRo_bsC, plain_bsC, lt_bsC, ids_byte, ren_byte, noRo_byte, plain_byte, lt_byte, b.at_], by subst h1; simp only [XX, Nat.reduceBEq, Nat.reduceLT, Nat.reduceAdd, Nat.reduceMul, Nat.reduceSub, Nat.reduceLeDiff, Nat.reduceEqDiff, Int.reduceToNat, Int.reduceLT, Int.reduceLE, Int.reduceAdd, Int.reduceSub, Int.reduceEq, reduceIte, Nat.reduceBNe, Int.reducePow, Nat.reducePow, Int.reduceMul, Int.reduceNeg, isB_i, isB_b, isB_y, isBv_i, isBv_b, eqCells_t, TT, ids_bsC, ren_bsC, noRo_bsC, plain_bsC, lt_bsC, ids_byte, ren_byte, noRo_byte, plain_byte, lt_byte], sp, o, rfl, rfl, b.own⟩
theorem resB_nil {P : Program} {f : FuncId} {args : List SV} {e : Int} (s : Spec P f args [] fun s _ => s.plain = true ∧ s = .tup [(false, [.v (.slice none 0 0)]), (false, [i64 e])]) : Spec P f args [] (resB [] e) :=
  s.wk fun t h' ⟨_, h1⟩ => ⟨.tup [(false, [slB 0 [] []]), (false, [i64 e])], [wB false ([] ++ [])], [none], rfl, by simp only [XX, Nat.reduceBEq, Nat.reduceLT, Nat.reduceAdd, Nat.reduceMul, Nat.reduceSub, Nat.reduceLeDiff, Nat.reduceEqDiff, Int.reduceToNat, Int.reduceLT, Int.reduceLE, Int.reduceAdd, Int.reduceSub, Int.reduceEq, reduceIte, Nat.reduceBNe, Int.reducePow, Nat.reducePow, Int.reduceMul, Int.reduceNeg, isB_i, isB_b, isB_y, isBv_i, isBv_b, eqCells_t, TT, List.map_nil], by subst h1; exact .inr ⟨rfl, ⟨.inr (.inr ⟨_, _, rfl, .inl rfl⟩), trivial⟩, rfl, ⟨.inl ⟨rfl, rfl⟩, trivial⟩, trivial⟩, [], false, rfl, rfl, fun h => absurd h (by simp)⟩
end Go.Proofs.Ythbojoiogjdbeaa.Sx
namespace Go.Proofs.Ythbojoiogjdbeaa.Sx
open Go
set_option linter.unusedSimpArgs false
set_option linter.unusedVariables false
set_option maxRecDepth 10000
set_option maxHeartbeats 2000000
abbrev nilC : SC := .v (.slice none 0 0)
abbrev noS : SC := .v (.string ⟨#[]⟩)
abbrev bookB (a b : SC) : SB := ⟨true, 57, [a, b]⟩
abbrev listsB (l : List SC) : SB := ⟨true, 33, l⟩
abbrev wasB (l : List SC) : SB := ⟨true, 9, l⟩
/-- How a book stands: its lists, and how they read. -/
structure Book (h : List SB) (ib : Nat) (ls : List SC) (ws : List (List UInt8)) (iL cL iW cW : Nat) : Prop where
  b : h[ib]? = some (bookB (.sl iL 0 ls.length cL) (.sl iW 0 ls.length cW))
  L : h[iL]? = some (listsB (ls ++ List.replicate (cL - ls.length) nilC))
  W : h[iW]? = some (wasB (ws.map strB ++ List.replicate (cW - ls.length) noS))
  n : ws.length = ls.length
  cl : ls.length ≤ cL
  cw : ls.length ≤ cW
/-- All windows but those are as they were. -/
def But (h h' : List SB) (p : Nat → Prop) : Prop := h.length ≤ h'.length ∧ ∀ k, k < h.length → ¬ p k → h'[k]? = h[k]?
theorem take0_spec (h : List SB) (ib ia : Nat) (l sp : List UInt8) (oa : Bool) (c : Nat) (hl : l.length ≤ 140737488355328) (hb : h[ib]? = some (bookB nilC nilC)) (ha : h[ia]? = some (wB oa (l ++ sp))) :
    Spec cx.P 41 [.c (.ptr ib 0), .c (.sl ia 0 l.length c)] h fun s h' => s = .tup [] ∧ ∃ iL cL iW cW, Book h' ib [.sl ia 0 l.length c] [l] iL cL iW cW ∧ But h h' (· = ib) ∧ h.length ≤ iL ∧ h.length ≤ iW := by
  have lb := lt_of hb
  have la := lt_of ha
  have ne : ib ≠ ia := ne_of_ty hb ha (fun h => absurd h (by decide : (57 : Nat) ≠ 5))
  have tk : (bsC (l ++ sp)).take l.length = bsC l := by rw [bs_take, List.take_left' rfl]
  have em : (.string ByteArray.empty : Value) = .string ⟨#[]⟩ := rfl
  refine spec_of_X cx_ok Try.func41 rfl (by kernel_rfl) (by kernel_rfl) (Nat.le_of_ble_eq_true rfl) 400 2 ?_
  simp (maxSteps := 4000000) only [Try.results41, XX, Nat.reduceBEq, Nat.reduceLT, Nat.reduceAdd, Nat.reduceMul, Nat.reduceSub, Nat.reduceLeDiff, Nat.reduceEqDiff, Int.reduceToNat, Int.reduceLT, Int.reduceLE, Int.reduceAdd, Int.reduceSub, Int.reduceEq, reduceIte, Nat.reduceBNe, Int.reducePow, Nat.reducePow, Int.reduceMul, Int.reduceNeg, isB_i, isB_b, isB_y, isBv_i, isBv_b, eqCells_t, TT]
  simp (maxSteps := 4000000) only [Try.results41, hb, ha, lb, la, ne, tk, List.append_assoc, List.getElem?_append_left, List.getElem?_append_right, List.length_append, List.length_set, List.set_append_left, gset, List.getElem?_set_ne, Nat.add_sub_cancel_left, Nat.sub_self, Nat.le_refl, Nat.le_add_right, rep_flat, List.replicate_one, List.flatten_cons, List.flatten_nil, maskL_nil, unL_nil, XX, Nat.reduceBEq, Nat.reduceLT, Nat.reduceAdd, Nat.reduceMul, Nat.reduceSub, Nat.reduceLeDiff, Nat.reduceEqDiff, Int.reduceToNat, Int.reduceLT, Int.reduceLE, Int.reduceAdd, Int.reduceSub, Int.reduceEq, reduceIte, Nat.reduceBNe, Int.reducePow, Nat.reducePow, Int.reduceMul, Int.reduceNeg, isB_i, isB_b, isB_y, isBv_i, isBv_b, eqCells_t, TT]
  refine ⟨by unfold maxLen; omega, xapp_grow (by omega) fun cL hL _ => ?_⟩
  simp (maxSteps := 4000000) only [Try.results41, hb, ha, lb, la, ne, tk, List.append_assoc, List.getElem?_append_left, List.getElem?_append_right, List.length_append, List.length_set, List.set_append_left, gset, List.getElem?_set_ne, Nat.add_sub_cancel_left, Nat.sub_self, Nat.le_refl, Nat.le_add_right, rep_flat, List.replicate_one, List.flatten_cons, List.flatten_nil, maskL_nil, unL_nil, XX, Nat.reduceBEq, Nat.reduceLT, Nat.reduceAdd, Nat.reduceMul, Nat.reduceSub, Nat.reduceLeDiff, Nat.reduceEqDiff, Int.reduceToNat, Int.reduceLT, Int.reduceLE, Int.reduceAdd, Int.reduceSub, Int.reduceEq, reduceIte, Nat.reduceBNe, Int.reducePow, Nat.reducePow, Int.reduceMul, Int.reduceNeg, isB_i, isB_b, isB_y, isBv_i, isBv_b, eqCells_t, TT]
  refine draw2_of cx_ok (by kernel_rfl) 400 [] (.pair [(0, true), (1, true), (2, true), (3, true), (5, true)] 4 6 (.done [(6, false), (7, false), (8, false), (9, true), (10, true), (11, false)]) (.pair [] 4 7 (.done [(7, false), (8, false), (9, true), (10, true), (11, false)]) (.done [(4, false), (8, false), (9, true), (10, true), (11, false)]))) (by kernel_rfl) rfl ?_
  simp (maxSteps := 4000000) only [Try.results41, PXT_done, PXT_pair, hb, ha, lb, la, ne, tk, List.append_assoc, List.getElem?_append_left, List.getElem?_append_right, List.length_append, List.length_set, List.set_append_left, gset, List.getElem?_set_ne, Nat.add_sub_cancel_left, Nat.sub_self, Nat.le_refl, Nat.le_add_right, rep_flat, List.replicate_one, List.flatten_cons, List.flatten_nil, maskL_nil, unL_nil, strOf_bsC, XX, Nat.reduceBEq, Nat.reduceLT, Nat.reduceAdd, Nat.reduceMul, Nat.reduceSub, Nat.reduceLeDiff, Nat.reduceEqDiff, Int.reduceToNat, Int.reduceLT, Int.reduceLE, Int.reduceAdd, Int.reduceSub, Int.reduceEq, reduceIte, Nat.reduceBNe, Int.reducePow, Nat.reducePow, Int.reduceMul, Int.reduceNeg, isB_i, isB_b, isB_y, isBv_i, isBv_b, eqCells_t, TT]
  have q1 : l.length ≤ (bsC (l ++ sp)).length := by simp
  have q2 := isByte_bsC l
  have q3 : 1 ≤ maxLen := by unfold maxLen; omega
  refine ⟨⟨⟨q1, q2⟩, q3, ?_⟩, ⟨q1, q2⟩, ⟨q3, ?_⟩, q3, ?_⟩
  all_goals
    refine xapp_grow (by omega) fun cW hW _ => ?_
    simp (maxSteps := 4000000) only [Try.results41, hb, ha, lb, la, ne, tk, List.append_assoc, List.getElem?_append_left, List.getElem?_append_right, List.length_append, List.length_set, List.set_append_left, gset, List.getElem?_set_ne, Nat.add_sub_cancel_left, Nat.sub_self, Nat.le_refl, Nat.le_add_right, rep_flat, List.replicate_one, List.flatten_cons, List.flatten_nil, maskL_nil, unL_nil, em, XX, Nat.reduceBEq, Nat.reduceLT, Nat.reduceAdd, Nat.reduceMul, Nat.reduceSub, Nat.reduceLeDiff, Nat.reduceEqDiff, Int.reduceToNat, Int.reduceLT, Int.reduceLE, Int.reduceAdd, Int.reduceSub, Int.reduceEq, reduceIte, Nat.reduceBNe, Int.reducePow, Nat.reducePow, Int.reduceMul, Int.reduceNeg, isB_i, isB_b, isB_y, isBv_i, isBv_b, eqCells_t, TT]
    refine ⟨h.length + 1, cL, h.length + 3, cW, ⟨?_, ?_, ?_, rfl, hL, hW⟩, ⟨by simp, fun k hk hne => ?_⟩, by omega, by omega⟩
    · simp only [lb, gset, hb, List.getElem?_append_left, List.length_set, Option.map_some]; rfl
    · simp only [List.getElem?_append_right, List.length_set, Nat.le_add_right, Nat.add_sub_cancel_left]; rfl
    · simp only [List.getElem?_append_right, List.length_set, Nat.le_add_right, Nat.add_sub_cancel_left]; rfl
    · rw [List.getElem?_append_left (by simpa using hk), List.getElem?_set_ne (show ib ≠ k from fun h => hne h.symm), List.getElem?_set_ne (show ib ≠ k from fun h => hne h.symm)]
theorem drop_rep (xs : List SC) (x : SC) (c n : Nat) (hn : n = xs.length) : List.drop (n + 1) (xs ++ List.replicate (c - n) x) = List.replicate (c - (n + 1)) x := by
  subst hn
  rw [List.drop_append, List.drop_of_length_le (by omega), List.nil_append, List.drop_replicate]
  congr 1
  omega
theorem take_rep (xs ys : List SC) (n : Nat) (hn : n = xs.length) : List.take n (xs ++ ys) = xs := by
  subst hn; exact List.take_left' rfl
theorem take_spec (h : List SB) (ib ia : Nat) (ls : List SC) (ws : List (List UInt8)) (iL cL0 iW cW0 : Nat) (l sp : List UInt8) (oa : Bool) (c : Nat) (hl : l.length ≤ 140737488355328) (B : Book h ib ls ws iL cL0 iW cW0) (hn : ls.length ≤ 4398046511104) (ha : h[ia]? = some (wB oa (l ++ sp))) :
    Spec cx.P 41 [.c (.ptr ib 0), .c (.sl ia 0 l.length c)] h fun s h' => s = .tup [] ∧ ∃ iL' cL iW' cW, Book h' ib (ls ++ [.sl ia 0 l.length c]) (ws ++ [l]) iL' cL iW' cW ∧ But h h' (fun k => k = ib ∨ k = iL ∨ k = iW) ∧ (iL' = iL ∨ h.length ≤ iL') ∧ (iW' = iW ∨ h.length ≤ iW') := by
  obtain ⟨hb, hL, hW, hwn, hcL, hcW⟩ := B
  have lb := lt_of hb
  have la := lt_of ha
  have lL := lt_of hL
  have lW := lt_of hW
  have ne : ib ≠ ia := ne_of_ty hb ha (fun h => absurd h (by decide : (57 : Nat) ≠ 5))
  have ne1 : ib ≠ iL := ne_of_ty hb hL (fun h => absurd h (by decide : (57 : Nat) ≠ 33))
  have ne2 : ib ≠ iW := ne_of_ty hb hW (fun h => absurd h (by decide : (57 : Nat) ≠ 9))
  have ne3 : iL ≠ iW := ne_of_ty hL hW (fun h => absurd h (by decide : (33 : Nat) ≠ 9))
  have ne4 : iL ≠ ia := ne_of_ty hL ha (fun h => absurd h (by decide : (33 : Nat) ≠ 5))
  have ne5 : iW ≠ ia := ne_of_ty hW ha (fun h => absurd h (by decide : (9 : Nat) ≠ 5))
  have tk : (bsC (l ++ sp)).take l.length = bsC l := by rw [bs_take, List.take_left' rfl]
  have em : (.string ByteArray.empty : Value) = .string ⟨#[]⟩ := rfl
  have tL : ∀ ys, List.take ls.length (ls ++ ys) = ls := fun ys => take_rep ls ys _ rfl
  have tW : ∀ ys, List.take ls.length (ws.map strB ++ ys) = ws.map strB := fun ys => take_rep _ ys _ (by simp [hwn])
  have dL : List.drop (ls.length + 1) (ls ++ List.replicate (cL0 - ls.length) nilC) = List.replicate (cL0 - (ls.length + 1)) nilC := drop_rep _ _ _ _ rfl
  have dW : List.drop (ls.length + 1) (ws.map strB ++ List.replicate (cW0 - ls.length) noS) = List.replicate (cW0 - (ls.length + 1)) noS := drop_rep _ _ _ _ (by simp [hwn])
  have q1 : l.length ≤ (bsC (l ++ sp)).length := by simp
  have q2 := isByte_bsC l
  have q3 : (ls.length + 1) * 16 ≤ 190000000000000 ∧ ls.length + 1 ≤ maxLen ∧ ls.length ≤ (ws.map strB).length + (List.replicate (cW0 - ls.length) noS).length ∧ (ls.length + 1 ≤ cW0 → ls.length + 1 ≤ (ws.map strB).length + (List.replicate (cW0 - ls.length) noS).length) := by
    refine ⟨by omega, by unfold maxLen; omega, by simp [hwn], fun h => by simp [hwn]; omega⟩
  have fin : ∀ a b c d : List (List UInt8), True := fun _ _ _ _ => trivial
  refine spec_of_X cx_ok Try.func41 rfl (by kernel_rfl) (by kernel_rfl) (Nat.le_of_ble_eq_true rfl) 400 2 ?_
  simp (maxSteps := 4000000) only [Try.results41, XX, Nat.reduceBEq, Nat.reduceLT, Nat.reduceAdd, Nat.reduceMul, Nat.reduceSub, Nat.reduceLeDiff, Nat.reduceEqDiff, Int.reduceToNat, Int.reduceLT, Int.reduceLE, Int.reduceAdd, Int.reduceSub, Int.reduceEq, reduceIte, Nat.reduceBNe, Int.reducePow, Nat.reducePow, Int.reduceMul, Int.reduceNeg, isB_i, isB_b, isB_y, isBv_i, isBv_b, eqCells_t, TT]
  simp (maxSteps := 4000000) only [Try.results41, hb, ha, hL, hW, lb, la, lL, lW, ne, ne1, ne2, ne3, ne4, ne5, ne.symm, ne1.symm, ne2.symm, ne3.symm, ne4.symm, ne5.symm, tk, tL, tW, dL, dW, List.append_assoc, List.getElem?_append_left, List.getElem?_append_right, List.length_append, List.length_set, List.set_append_left, gset, List.getElem?_set_ne, Nat.add_sub_cancel_left, Nat.sub_self, Nat.le_refl, Nat.le_add_right, rep_flat, List.replicate_one, List.flatten_cons, List.flatten_nil, maskL_nil, unL_nil, XX, Nat.reduceBEq, Nat.reduceLT, Nat.reduceAdd, Nat.reduceMul, Nat.reduceSub, Nat.reduceLeDiff, Nat.reduceEqDiff, Int.reduceToNat, Int.reduceLT, Int.reduceLE, Int.reduceAdd, Int.reduceSub, Int.reduceEq, reduceIte, Nat.reduceBNe, Int.reducePow, Nat.reducePow, Int.reduceMul, Int.reduceNeg, isB_i, isB_b, isB_y, isBv_i, isBv_b, eqCells_t, TT]
  refine ⟨⟨by omega, by unfold maxLen; omega, fun h => by simp; omega⟩, xapp_both (fun hr => ?_) (fun hg cL hcL' _ => ?_)⟩
  · simp (maxSteps := 4000000) only [Try.results41, hb, ha, hL, hW, lb, la, lL, lW, ne, ne1, ne2, ne3, ne4, ne5, ne.symm, ne1.symm, ne2.symm, ne3.symm, ne4.symm, ne5.symm, tk, tL, tW, dL, dW, List.append_assoc, List.getElem?_append_left, List.getElem?_append_right, List.length_append, List.length_set, List.set_append_left, gset, List.getElem?_set_ne, Nat.add_sub_cancel_left, Nat.sub_self, Nat.le_refl, Nat.le_add_right, rep_flat, List.replicate_one, List.flatten_cons, List.flatten_nil, maskL_nil, unL_nil, XX, Nat.reduceBEq, Nat.reduceLT, Nat.reduceAdd, Nat.reduceMul, Nat.reduceSub, Nat.reduceLeDiff, Nat.reduceEqDiff, Int.reduceToNat, Int.reduceLT, Int.reduceLE, Int.reduceAdd, Int.reduceSub, Int.reduceEq, reduceIte, Nat.reduceBNe, Int.reducePow, Nat.reducePow, Int.reduceMul, Int.reduceNeg, isB_i, isB_b, isB_y, isBv_i, isBv_b, eqCells_t, TT]
    refine draw2_of cx_ok (by kernel_rfl) 400 [] (.pair [(0, true), (1, true), (2, true), (3, true), (5, true)] 4 6 (.done [(6, false), (7, false), (8, false), (9, true), (10, true), (11, false)]) (.pair [] 4 7 (.done [(7, false), (8, false), (9, true), (10, true), (11, false)]) (.done [(4, false), (8, false), (9, true), (10, true), (11, false)]))) (by kernel_rfl) rfl ?_
    simp (maxSteps := 4000000) only [Try.results41, PXT_done, PXT_pair, hb, ha, hL, hW, lb, la, lL, lW, ne, ne1, ne2, ne3, ne4, ne5, ne.symm, ne1.symm, ne2.symm, ne3.symm, ne4.symm, ne5.symm, tk, tL, tW, dL, dW, List.append_assoc, List.getElem?_append_left, List.getElem?_append_right, List.length_append, List.length_set, List.set_append_left, gset, List.getElem?_set_ne, Nat.add_sub_cancel_left, Nat.sub_self, Nat.le_refl, Nat.le_add_right, rep_flat, List.replicate_one, List.flatten_cons, List.flatten_nil, maskL_nil, unL_nil, strOf_bsC, XX, Nat.reduceBEq, Nat.reduceLT, Nat.reduceAdd, Nat.reduceMul, Nat.reduceSub, Nat.reduceLeDiff, Nat.reduceEqDiff, Int.reduceToNat, Int.reduceLT, Int.reduceLE, Int.reduceAdd, Int.reduceSub, Int.reduceEq, reduceIte, Nat.reduceBNe, Int.reducePow, Nat.reducePow, Int.reduceMul, Int.reduceNeg, isB_i, isB_b, isB_y, isBv_i, isBv_b, eqCells_t, TT]
    refine ⟨⟨⟨q1, q2⟩, q3, ?_⟩, ⟨q1, q2⟩, ⟨q3, ?_⟩, q3, ?_⟩
    all_goals
      refine xapp_both (fun hr2 => ?_) (fun hg2 cW hcW' _ => ?_)
      · simp (maxSteps := 4000000) only [Try.results41, hb, ha, hL, hW, lb, la, lL, lW, ne, ne1, ne2, ne3, ne4, ne5, ne.symm, ne1.symm, ne2.symm, ne3.symm, ne4.symm, ne5.symm, tk, tL, tW, dL, dW, List.append_assoc, List.getElem?_append_left, List.getElem?_append_right, List.length_append, List.length_set, List.set_append_left, gset, List.getElem?_set_ne, Nat.add_sub_cancel_left, Nat.sub_self, Nat.le_refl, Nat.le_add_right, rep_flat, List.replicate_one, List.flatten_cons, List.flatten_nil, maskL_nil, unL_nil, em, XX, Nat.reduceBEq, Nat.reduceLT, Nat.reduceAdd, Nat.reduceMul, Nat.reduceSub, Nat.reduceLeDiff, Nat.reduceEqDiff, Int.reduceToNat, Int.reduceLT, Int.reduceLE, Int.reduceAdd, Int.reduceSub, Int.reduceEq, reduceIte, Nat.reduceBNe, Int.reducePow, Nat.reducePow, Int.reduceMul, Int.reduceNeg, isB_i, isB_b, isB_y, isBv_i, isBv_b, eqCells_t, TT]
        refine ⟨iL, cL0, iW, cW0, ⟨?_, ?_, ?_, by simp [hwn], by simp; omega, by simp; omega⟩, ⟨by simp, fun k hk hne => ?_⟩, .inl rfl, .inl rfl⟩
        · simp only [hb, ha, hL, hW, lb, la, lL, lW, ne, ne1, ne2, ne3, ne4, ne5, ne.symm, ne1.symm, ne2.symm, ne3.symm, ne4.symm, ne5.symm, tk, tL, tW, dL, dW, List.append_assoc, List.getElem?_append_left, List.getElem?_append_right, List.length_append, List.length_set, List.set_append_left, gset, List.getElem?_set_ne, Nat.add_sub_cancel_left, Nat.sub_self, Nat.le_refl, Nat.le_add_right, rep_flat, List.replicate_one, List.flatten_cons, List.flatten_nil, maskL_nil, unL_nil, Option.map_some, List.length_cons, List.length_nil, Nat.zero_add, ne_eq, not_false_eq_true]
        · simp only [hb, ha, hL, hW, lb, la, lL, lW, ne, ne1, ne2, ne3, ne4, ne5, ne.symm, ne1.symm, ne2.symm, ne3.symm, ne4.symm, ne5.symm, tk, tL, tW, dL, dW, List.append_assoc, List.getElem?_append_left, List.getElem?_append_right, List.length_append, List.length_set, List.set_append_left, gset, List.getElem?_set_ne, Nat.add_sub_cancel_left, Nat.sub_self, Nat.le_refl, Nat.le_add_right, rep_flat, List.replicate_one, List.flatten_cons, List.flatten_nil, maskL_nil, unL_nil, Option.map_some, List.length_cons, List.length_nil, Nat.zero_add, ne_eq, not_false_eq_true, List.map_append, List.map_cons, List.map_nil, List.getElem?_cons_zero, List.getElem?_cons_succ, List.cons_append, List.nil_append]
        · simp only [hb, ha, hL, hW, lb, la, lL, lW, ne, ne1, ne2, ne3, ne4, ne5, ne.symm, ne1.symm, ne2.symm, ne3.symm, ne4.symm, ne5.symm, tk, tL, tW, dL, dW, List.append_assoc, List.getElem?_append_left, List.getElem?_append_right, List.length_append, List.length_set, List.set_append_left, gset, List.getElem?_set_ne, Nat.add_sub_cancel_left, Nat.sub_self, Nat.le_refl, Nat.le_add_right, rep_flat, List.replicate_one, List.flatten_cons, List.flatten_nil, maskL_nil, unL_nil, Option.map_some, List.length_cons, List.length_nil, Nat.zero_add, ne_eq, not_false_eq_true, List.map_append, List.map_cons, List.map_nil, List.getElem?_cons_zero, List.getElem?_cons_succ, List.cons_append, List.nil_append]
        · rw [List.getElem?_append_left (by simpa using hk)]
          simp only [not_or] at hne
          simp only [ne_eq, Ne.symm hne.1, Ne.symm hne.2.1, Ne.symm hne.2.2, not_false_eq_true, List.getElem?_set_ne]
      · simp (maxSteps := 4000000) only [Try.results41, hb, ha, hL, hW, lb, la, lL, lW, ne, ne1, ne2, ne3, ne4, ne5, ne.symm, ne1.symm, ne2.symm, ne3.symm, ne4.symm, ne5.symm, tk, tL, tW, dL, dW, List.append_assoc, List.getElem?_append_left, List.getElem?_append_right, List.length_append, List.length_set, List.set_append_left, gset, List.getElem?_set_ne, Nat.add_sub_cancel_left, Nat.sub_self, Nat.le_refl, Nat.le_add_right, rep_flat, List.replicate_one, List.flatten_cons, List.flatten_nil, maskL_nil, unL_nil, em, XX, Nat.reduceBEq, Nat.reduceLT, Nat.reduceAdd, Nat.reduceMul, Nat.reduceSub, Nat.reduceLeDiff, Nat.reduceEqDiff, Int.reduceToNat, Int.reduceLT, Int.reduceLE, Int.reduceAdd, Int.reduceSub, Int.reduceEq, reduceIte, Nat.reduceBNe, Int.reducePow, Nat.reducePow, Int.reduceMul, Int.reduceNeg, isB_i, isB_b, isB_y, isBv_i, isBv_b, eqCells_t, TT]
        refine ⟨iL, cL0, (h.length + 2), cW, ⟨?_, ?_, ?_, by simp [hwn], by simp; omega, by simp; omega⟩, ⟨by simp, fun k hk hne => ?_⟩, .inl rfl, .inr (by omega)⟩
        · simp only [hb, ha, hL, hW, lb, la, lL, lW, ne, ne1, ne2, ne3, ne4, ne5, ne.symm, ne1.symm, ne2.symm, ne3.symm, ne4.symm, ne5.symm, tk, tL, tW, dL, dW, List.append_assoc, List.getElem?_append_left, List.getElem?_append_right, List.length_append, List.length_set, List.set_append_left, gset, List.getElem?_set_ne, Nat.add_sub_cancel_left, Nat.sub_self, Nat.le_refl, Nat.le_add_right, rep_flat, List.replicate_one, List.flatten_cons, List.flatten_nil, maskL_nil, unL_nil, Option.map_some, List.length_cons, List.length_nil, Nat.zero_add, ne_eq, not_false_eq_true]
        · simp only [hb, ha, hL, hW, lb, la, lL, lW, ne, ne1, ne2, ne3, ne4, ne5, ne.symm, ne1.symm, ne2.symm, ne3.symm, ne4.symm, ne5.symm, tk, tL, tW, dL, dW, List.append_assoc, List.getElem?_append_left, List.getElem?_append_right, List.length_append, List.length_set, List.set_append_left, gset, List.getElem?_set_ne, Nat.add_sub_cancel_left, Nat.sub_self, Nat.le_refl, Nat.le_add_right, rep_flat, List.replicate_one, List.flatten_cons, List.flatten_nil, maskL_nil, unL_nil, Option.map_some, List.length_cons, List.length_nil, Nat.zero_add, ne_eq, not_false_eq_true, List.map_append, List.map_cons, List.map_nil, List.getElem?_cons_zero, List.getElem?_cons_succ, List.cons_append, List.nil_append]
        · simp only [hb, ha, hL, hW, lb, la, lL, lW, ne, ne1, ne2, ne3, ne4, ne5, ne.symm, ne1.symm, ne2.symm, ne3.symm, ne4.symm, ne5.symm, tk, tL, tW, dL, dW, List.append_assoc, List.getElem?_append_left, List.getElem?_append_right, List.length_append, List.length_set, List.set_append_left, gset, List.getElem?_set_ne, Nat.add_sub_cancel_left, Nat.sub_self, Nat.le_refl, Nat.le_add_right, rep_flat, List.replicate_one, List.flatten_cons, List.flatten_nil, maskL_nil, unL_nil, Option.map_some, List.length_cons, List.length_nil, Nat.zero_add, ne_eq, not_false_eq_true, List.map_append, List.map_cons, List.map_nil, List.getElem?_cons_zero, List.getElem?_cons_succ, List.cons_append, List.nil_append]
        · rw [List.getElem?_append_left (by simpa using hk)]
          simp only [not_or] at hne
          simp only [ne_eq, Ne.symm hne.1, Ne.symm hne.2.1, Ne.symm hne.2.2, not_false_eq_true, List.getElem?_set_ne]
  · simp (maxSteps := 4000000) only [Try.results41, hb, ha, hL, hW, lb, la, lL, lW, ne, ne1, ne2, ne3, ne4, ne5, ne.symm, ne1.symm, ne2.symm, ne3.symm, ne4.symm, ne5.symm, tk, tL, tW, dL, dW, List.append_assoc, List.getElem?_append_left, List.getElem?_append_right, List.length_append, List.length_set, List.set_append_left, gset, List.getElem?_set_ne, Nat.add_sub_cancel_left, Nat.sub_self, Nat.le_refl, Nat.le_add_right, rep_flat, List.replicate_one, List.flatten_cons, List.flatten_nil, maskL_nil, unL_nil, XX, Nat.reduceBEq, Nat.reduceLT, Nat.reduceAdd, Nat.reduceMul, Nat.reduceSub, Nat.reduceLeDiff, Nat.reduceEqDiff, Int.reduceToNat, Int.reduceLT, Int.reduceLE, Int.reduceAdd, Int.reduceSub, Int.reduceEq, reduceIte, Nat.reduceBNe, Int.reducePow, Nat.reducePow, Int.reduceMul, Int.reduceNeg, isB_i, isB_b, isB_y, isBv_i, isBv_b, eqCells_t, TT]
    refine draw2_of cx_ok (by kernel_rfl) 400 [] (.pair [(0, true), (1, true), (2, true), (3, true), (5, true)] 4 6 (.done [(6, false), (7, false), (8, false), (9, true), (10, true), (11, false)]) (.pair [] 4 7 (.done [(7, false), (8, false), (9, true), (10, true), (11, false)]) (.done [(4, false), (8, false), (9, true), (10, true), (11, false)]))) (by kernel_rfl) rfl ?_
    simp (maxSteps := 4000000) only [Try.results41, PXT_done, PXT_pair, hb, ha, hL, hW, lb, la, lL, lW, ne, ne1, ne2, ne3, ne4, ne5, ne.symm, ne1.symm, ne2.symm, ne3.symm, ne4.symm, ne5.symm, tk, tL, tW, dL, dW, List.append_assoc, List.getElem?_append_left, List.getElem?_append_right, List.length_append, List.length_set, List.set_append_left, gset, List.getElem?_set_ne, Nat.add_sub_cancel_left, Nat.sub_self, Nat.le_refl, Nat.le_add_right, rep_flat, List.replicate_one, List.flatten_cons, List.flatten_nil, maskL_nil, unL_nil, strOf_bsC, XX, Nat.reduceBEq, Nat.reduceLT, Nat.reduceAdd, Nat.reduceMul, Nat.reduceSub, Nat.reduceLeDiff, Nat.reduceEqDiff, Int.reduceToNat, Int.reduceLT, Int.reduceLE, Int.reduceAdd, Int.reduceSub, Int.reduceEq, reduceIte, Nat.reduceBNe, Int.reducePow, Nat.reducePow, Int.reduceMul, Int.reduceNeg, isB_i, isB_b, isB_y, isBv_i, isBv_b, eqCells_t, TT]
    refine ⟨⟨⟨q1, q2⟩, q3, ?_⟩, ⟨q1, q2⟩, ⟨q3, ?_⟩, q3, ?_⟩
    all_goals
      refine xapp_both (fun hr2 => ?_) (fun hg2 cW hcW' _ => ?_)
      · simp (maxSteps := 4000000) only [Try.results41, hb, ha, hL, hW, lb, la, lL, lW, ne, ne1, ne2, ne3, ne4, ne5, ne.symm, ne1.symm, ne2.symm, ne3.symm, ne4.symm, ne5.symm, tk, tL, tW, dL, dW, List.append_assoc, List.getElem?_append_left, List.getElem?_append_right, List.length_append, List.length_set, List.set_append_left, gset, List.getElem?_set_ne, Nat.add_sub_cancel_left, Nat.sub_self, Nat.le_refl, Nat.le_add_right, rep_flat, List.replicate_one, List.flatten_cons, List.flatten_nil, maskL_nil, unL_nil, em, XX, Nat.reduceBEq, Nat.reduceLT, Nat.reduceAdd, Nat.reduceMul, Nat.reduceSub, Nat.reduceLeDiff, Nat.reduceEqDiff, Int.reduceToNat, Int.reduceLT, Int.reduceLE, Int.reduceAdd, Int.reduceSub, Int.reduceEq, reduceIte, Nat.reduceBNe, Int.reducePow, Nat.reducePow, Int.reduceMul, Int.reduceNeg, isB_i, isB_b, isB_y, isBv_i, isBv_b, eqCells_t, TT]
        refine ⟨(h.length + 1), cL, iW, cW0, ⟨?_, ?_, ?_, by simp [hwn], by simp; omega, by simp; omega⟩, ⟨by simp, fun k hk hne => ?_⟩, .inr (by omega), .inl rfl⟩
        · simp only [hb, ha, hL, hW, lb, la, lL, lW, ne, ne1, ne2, ne3, ne4, ne5, ne.symm, ne1.symm, ne2.symm, ne3.symm, ne4.symm, ne5.symm, tk, tL, tW, dL, dW, List.append_assoc, List.getElem?_append_left, List.getElem?_append_right, List.length_append, List.length_set, List.set_append_left, gset, List.getElem?_set_ne, Nat.add_sub_cancel_left, Nat.sub_self, Nat.le_refl, Nat.le_add_right, rep_flat, List.replicate_one, List.flatten_cons, List.flatten_nil, maskL_nil, unL_nil, Option.map_some, List.length_cons, List.length_nil, Nat.zero_add, ne_eq, not_false_eq_true]
        · simp only [hb, ha, hL, hW, lb, la, lL, lW, ne, ne1, ne2, ne3, ne4, ne5, ne.symm, ne1.symm, ne2.symm, ne3.symm, ne4.symm, ne5.symm, tk, tL, tW, dL, dW, List.append_assoc, List.getElem?_append_left, List.getElem?_append_right, List.length_append, List.length_set, List.set_append_left, gset, List.getElem?_set_ne, Nat.add_sub_cancel_left, Nat.sub_self, Nat.le_refl, Nat.le_add_right, rep_flat, List.replicate_one, List.flatten_cons, List.flatten_nil, maskL_nil, unL_nil, Option.map_some, List.length_cons, List.length_nil, Nat.zero_add, ne_eq, not_false_eq_true, List.map_append, List.map_cons, List.map_nil, List.getElem?_cons_zero, List.getElem?_cons_succ, List.cons_append, List.nil_append]
        · simp only [hb, ha, hL, hW, lb, la, lL, lW, ne, ne1, ne2, ne3, ne4, ne5, ne.symm, ne1.symm, ne2.symm, ne3.symm, ne4.symm, ne5.symm, tk, tL, tW, dL, dW, List.append_assoc, List.getElem?_append_left, List.getElem?_append_right, List.length_append, List.length_set, List.set_append_left, gset, List.getElem?_set_ne, Nat.add_sub_cancel_left, Nat.sub_self, Nat.le_refl, Nat.le_add_right, rep_flat, List.replicate_one, List.flatten_cons, List.flatten_nil, maskL_nil, unL_nil, Option.map_some, List.length_cons, List.length_nil, Nat.zero_add, ne_eq, not_false_eq_true, List.map_append, List.map_cons, List.map_nil, List.getElem?_cons_zero, List.getElem?_cons_succ, List.cons_append, List.nil_append]
        · rw [List.getElem?_append_left (by simpa using hk)]
          simp only [not_or] at hne
          simp only [ne_eq, Ne.symm hne.1, Ne.symm hne.2.1, Ne.symm hne.2.2, not_false_eq_true, List.getElem?_set_ne]
      · simp (maxSteps := 4000000) only [Try.results41, hb, ha, hL, hW, lb, la, lL, lW, ne, ne1, ne2, ne3, ne4, ne5, ne.symm, ne1.symm, ne2.symm, ne3.symm, ne4.symm, ne5.symm, tk, tL, tW, dL, dW, List.append_assoc, List.getElem?_append_left, List.getElem?_append_right, List.length_append, List.length_set, List.set_append_left, gset, List.getElem?_set_ne, Nat.add_sub_cancel_left, Nat.sub_self, Nat.le_refl, Nat.le_add_right, rep_flat, List.replicate_one, List.flatten_cons, List.flatten_nil, maskL_nil, unL_nil, em, XX, Nat.reduceBEq, Nat.reduceLT, Nat.reduceAdd, Nat.reduceMul, Nat.reduceSub, Nat.reduceLeDiff, Nat.reduceEqDiff, Int.reduceToNat, Int.reduceLT, Int.reduceLE, Int.reduceAdd, Int.reduceSub, Int.reduceEq, reduceIte, Nat.reduceBNe, Int.reducePow, Nat.reducePow, Int.reduceMul, Int.reduceNeg, isB_i, isB_b, isB_y, isBv_i, isBv_b, eqCells_t, TT]
        refine ⟨(h.length + 1), cL, (h.length + 3), cW, ⟨?_, ?_, ?_, by simp [hwn], by simp; omega, by simp; omega⟩, ⟨by simp, fun k hk hne => ?_⟩, .inr (by omega), .inr (by omega)⟩
        · simp only [hb, ha, hL, hW, lb, la, lL, lW, ne, ne1, ne2, ne3, ne4, ne5, ne.symm, ne1.symm, ne2.symm, ne3.symm, ne4.symm, ne5.symm, tk, tL, tW, dL, dW, List.append_assoc, List.getElem?_append_left, List.getElem?_append_right, List.length_append, List.length_set, List.set_append_left, gset, List.getElem?_set_ne, Nat.add_sub_cancel_left, Nat.sub_self, Nat.le_refl, Nat.le_add_right, rep_flat, List.replicate_one, List.flatten_cons, List.flatten_nil, maskL_nil, unL_nil, Option.map_some, List.length_cons, List.length_nil, Nat.zero_add, ne_eq, not_false_eq_true]
        · simp only [hb, ha, hL, hW, lb, la, lL, lW, ne, ne1, ne2, ne3, ne4, ne5, ne.symm, ne1.symm, ne2.symm, ne3.symm, ne4.symm, ne5.symm, tk, tL, tW, dL, dW, List.append_assoc, List.getElem?_append_left, List.getElem?_append_right, List.length_append, List.length_set, List.set_append_left, gset, List.getElem?_set_ne, Nat.add_sub_cancel_left, Nat.sub_self, Nat.le_refl, Nat.le_add_right, rep_flat, List.replicate_one, List.flatten_cons, List.flatten_nil, maskL_nil, unL_nil, Option.map_some, List.length_cons, List.length_nil, Nat.zero_add, ne_eq, not_false_eq_true, List.map_append, List.map_cons, List.map_nil, List.getElem?_cons_zero, List.getElem?_cons_succ, List.cons_append, List.nil_append]
        · simp only [hb, ha, hL, hW, lb, la, lL, lW, ne, ne1, ne2, ne3, ne4, ne5, ne.symm, ne1.symm, ne2.symm, ne3.symm, ne4.symm, ne5.symm, tk, tL, tW, dL, dW, List.append_assoc, List.getElem?_append_left, List.getElem?_append_right, List.length_append, List.length_set, List.set_append_left, gset, List.getElem?_set_ne, Nat.add_sub_cancel_left, Nat.sub_self, Nat.le_refl, Nat.le_add_right, rep_flat, List.replicate_one, List.flatten_cons, List.flatten_nil, maskL_nil, unL_nil, Option.map_some, List.length_cons, List.length_nil, Nat.zero_add, ne_eq, not_false_eq_true, List.map_append, List.map_cons, List.map_nil, List.getElem?_cons_zero, List.getElem?_cons_succ, List.cons_append, List.nil_append]
        · rw [List.getElem?_append_left (by simpa using hk)]
          simp only [not_or] at hne
          simp only [ne_eq, Ne.symm hne.1, Ne.symm hne.2.1, Ne.symm hne.2.2, not_false_eq_true, List.getElem?_set_ne]
end Go.Proofs.Ythbojoiogjdbeaa.Sx
namespace Go.Proofs.Ythbojoiogjdbeaa.Sx
open Go
set_option linter.unusedSimpArgs false
set_option linter.unusedVariables false
set_option maxRecDepth 10000
set_option maxHeartbeats 2000000
/-- The mark of a place. -/
def mkB (i n : Nat) : UInt8 := UInt8.ofNat (i * 7 + n * 13 + i / 256 + 1)
/-- The marks of a list. -/
def mk (j m : Nat) : List UInt8 := (List.range m).map fun p => mkB j p
/-- A list that came out, where it lies. -/
structure OE where
  w : Nat
  l : List UInt8
  p : List UInt8
  o : Bool
def OE.sc (e : OE) : SC := .sl e.w 0 e.l.length (e.l.length + e.p.length)
/-- The lists of a book, where they lie. -/
structure Owns (h : List SB) (es : List OE) : Prop where
  at_ : ∀ (i : Nat) (e : OE), es[i]? = some e → h[e.w]? = some (wB e.o (e.l ++ e.p))
  own : ∀ (i : Nat) (e : OE), es[i]? = some e → 0 < e.l.length + e.p.length → e.o = true
  lt : ∀ (i : Nat) (e : OE), es[i]? = some e → e.l.length < 140737488351233
  ne : ∀ (i j : Nat) (e f : OE), i ≠ j → es[i]? = some e → es[j]? = some f → e.w ≠ f.w
theorem set_same {h : List SB} {k : Nat} {x : SB} (hk : h[k]? = some x) : h.set k x = h := by
  apply List.ext_getElem?
  intro j
  by_cases hj : k = j
  · subst hj; rw [gset, hk]; rfl
  · rw [List.getElem?_set_ne hj]
end Go.Proofs.Ythbojoiogjdbeaa.Sx
namespace Go.Proofs.Ythbojoiogjdbeaa.Sx
open Go
set_option linter.unusedSimpArgs false
set_option linter.unusedVariables false
set_option maxRecDepth 10000
set_option maxHeartbeats 1000000
/-- Two bytes of a number. -/
abbrev be2 (n : Nat) : List UInt8 := [UInt8.ofNat (n / 256), UInt8.ofNat n]
theorem put2_spec (n : Nat) (hn : n < 18446744073709551616) : Spec cx.P 63 [.c (u64 n), .c (i64 2)] [] fun s h' => s = .c (.sl 0 0 2 2) ∧ h' = [wB true (be2 n)] := by
  have key : Spec cx.P 63 [.c (u64 n), .c (i64 2)] [] fun s h' => s = .c (.sl 0 0 2 2) ∧ ∃ a b, h' = [wB true (be2 n), a, b] := by
    refine spec_of_X cx_ok Try.func63 rfl (by kernel_rfl) (by kernel_rfl) (Nat.le_of_ble_eq_true rfl) 400 7 ?_
    simp (maxSteps := 4000000) only [Try.results63, XX, Nat.reduceBEq, Nat.reduceLT, Nat.reduceAdd, Nat.reduceMul, Nat.reduceSub, Nat.reduceLeDiff, Nat.reduceEqDiff, Int.reduceToNat, Int.reduceLT, Int.reduceLE, Int.reduceAdd, Int.reduceSub, Int.reduceEq, reduceIte, Nat.reduceBNe, Int.reducePow, Nat.reducePow, Int.reduceMul, Int.reduceNeg, isB_i, isB_b, isB_y, isBv_i, isBv_b, eqCells_t, TT]
    refine loop_rounds cx_ok 400 3 ?_
    simp (maxSteps := 4000000) only [Try.results63, w64, List.replicate_succ, List.replicate_zero, List.flatten_cons, List.flatten_nil, Int.reduceDiv, Int.reduceMod, Int.reduceToNat, XX, Nat.reduceBEq, Nat.reduceLT, Nat.reduceAdd, Nat.reduceMul, Nat.reduceSub, Nat.reduceLeDiff, Nat.reduceEqDiff, Int.reduceToNat, Int.reduceLT, Int.reduceLE, Int.reduceAdd, Int.reduceSub, Int.reduceEq, reduceIte, Nat.reduceBNe, Int.reducePow, Nat.reducePow, Int.reduceMul, Int.reduceNeg, isB_i, isB_b, isB_y, isBv_i, isBv_b, eqCells_t, TT]
    refine ⟨by unfold maxLen; omega, xapp_room (by omega) ?_⟩
    simp (maxSteps := 4000000) only [Try.results63, w64, shr0, shr8, byteC_n, List.replicate_succ, List.replicate_zero, List.flatten_cons, List.flatten_nil, Int.reduceDiv, Int.reduceMod, Int.reduceToNat, XX, Nat.reduceBEq, Nat.reduceLT, Nat.reduceAdd, Nat.reduceMul, Nat.reduceSub, Nat.reduceLeDiff, Nat.reduceEqDiff, Int.reduceToNat, Int.reduceLT, Int.reduceLE, Int.reduceAdd, Int.reduceSub, Int.reduceEq, reduceIte, Nat.reduceBNe, Int.reducePow, Nat.reducePow, Int.reduceMul, Int.reduceNeg, isB_i, isB_b, isB_y, isBv_i, isBv_b, eqCells_t, TT]
    refine ⟨by unfold maxLen; omega, xapp_room (by omega) ?_⟩
    simp (maxSteps := 4000000) only [Try.results63, w64, List.replicate_succ, XX, Nat.reduceBEq, Nat.reduceLT, Nat.reduceAdd, Nat.reduceMul, Nat.reduceSub, Nat.reduceLeDiff, Nat.reduceEqDiff, Int.reduceToNat, Int.reduceLT, Int.reduceLE, Int.reduceAdd, Int.reduceSub, Int.reduceEq, reduceIte, Nat.reduceBNe, Int.reducePow, Nat.reducePow, Int.reduceMul, Int.reduceNeg, isB_i, isB_b, isB_y, isBv_i, isBv_b, eqCells_t, TT]
    exact ⟨_, _, rfl⟩
  exact key.wk fun t h' ⟨h1, a, b, h2⟩ => ⟨t, [wB true (be2 n)], [some 0], rfl, by subst h2; simp only [XX, Nat.reduceBEq, Nat.reduceLT, Nat.reduceAdd, Nat.reduceMul, Nat.reduceSub, Nat.reduceLeDiff, Nat.reduceEqDiff, Int.reduceToNat, Int.reduceLT, Int.reduceLE, Int.reduceAdd, Int.reduceSub, Int.reduceEq, reduceIte, Nat.reduceBNe, Int.reducePow, Nat.reducePow, Int.reduceMul, Int.reduceNeg, isB_i, isB_b, isB_y, isBv_i, isBv_b, eqCells_t, TT, ids_bsC, ren_bsC, noRo_bsC, plain_bsC, lt_bsC, ids_byte, ren_byte, noRo_byte, plain_byte, lt_byte], by subst h1; simp only [XX, Nat.reduceBEq, Nat.reduceLT, Nat.reduceAdd, Nat.reduceMul, Nat.reduceSub, Nat.reduceLeDiff, Nat.reduceEqDiff, Int.reduceToNat, Int.reduceLT, Int.reduceLE, Int.reduceAdd, Int.reduceSub, Int.reduceEq, reduceIte, Nat.reduceBNe, Int.reducePow, Nat.reducePow, Int.reduceMul, Int.reduceNeg, isB_i, isB_b, isB_y, isBv_i, isBv_b, eqCells_t, TT, ids_bsC, ren_bsC, noRo_bsC, plain_bsC, lt_bsC, ids_byte, ren_byte, noRo_byte, plain_byte, lt_byte], h1, rfl⟩
theorem rput2_spec (n : Nat) (hn : n < 18446744073709551616) : Spec cx.P 35 [.c (u64 n), .c (i64 2)] [] fun s h' => s = .c (.sl 0 0 2 2) ∧ h' = [wB true (be2 n)] := by
  refine spec_of_X cx_ok Try.func35 rfl (by kernel_rfl) (by kernel_rfl) (Nat.le_of_ble_eq_true rfl) 400 7 ?_
  simp (maxSteps := 4000000) only [Try.results35, XX, Nat.reduceBEq, Nat.reduceLT, Nat.reduceAdd, Nat.reduceMul, Nat.reduceSub, Nat.reduceLeDiff, Nat.reduceEqDiff, Int.reduceToNat, Int.reduceLT, Int.reduceLE, Int.reduceAdd, Int.reduceSub, Int.reduceEq, reduceIte, Nat.reduceBNe, Int.reducePow, Nat.reducePow, Int.reduceMul, Int.reduceNeg, isB_i, isB_b, isB_y, isBv_i, isBv_b, eqCells_t, TT]
  refine loop_rounds cx_ok 400 3 ?_
  simp (maxSteps := 4000000) only [Try.results35, w64, List.replicate_succ, List.replicate_zero, List.flatten_cons, List.flatten_nil, Int.reduceDiv, Int.reduceMod, Int.reduceToNat, XX, Nat.reduceBEq, Nat.reduceLT, Nat.reduceAdd, Nat.reduceMul, Nat.reduceSub, Nat.reduceLeDiff, Nat.reduceEqDiff, Int.reduceToNat, Int.reduceLT, Int.reduceLE, Int.reduceAdd, Int.reduceSub, Int.reduceEq, reduceIte, Nat.reduceBNe, Int.reducePow, Nat.reducePow, Int.reduceMul, Int.reduceNeg, isB_i, isB_b, isB_y, isBv_i, isBv_b, eqCells_t, TT]
  rw [tdiv256, wu64 (by omega) (by omega), tmod256, tmod256, byteC_m, byteC_m]
  rfl
theorem drop2 {l sp : List UInt8} {k : Nat} (h : k + 2 ≤ l.length) : ∃ R, (bsR (l ++ sp)).drop k = .v (.int .u8 (l.getD k 0).toNat) :: .v (.int .u8 (l.getD (k + 1) 0).toNat) :: R := by
  refine ⟨(bsR (l ++ sp)).drop (k + 2), ?_⟩
  rw [List.drop_eq_getElem_cons (by simp; omega), List.drop_eq_getElem_cons (by simp; omega)]
  simp only [List.getElem_map, byteR]
  rw [List.getElem_append_left (by omega), List.getElem_append_left (by omega), List.getD_eq_getElem?_getD, List.getD_eq_getElem?_getD, List.getElem?_eq_getElem (by omega), List.getElem?_eq_getElem (by omega)]
  rfl
theorem get2_spec (l sp : List UInt8) (c at' : Nat) (hb : at' + 2 ≤ l.length) (hc : l.length ≤ c) (hl : l.length ≤ 140737488355328) : Spec cx.P 52 [.c (roB l sp c), .c (i64 at'), .c (i64 2)] [] fun s h' => s = .tup [(false, [u64 ((l.getD at' 0).toNat * 256 + (l.getD (at' + 1) 0).toNat : Nat)]), (false, [.v (.int .i64 0)])] ∧ h' = [] := by
  have d0 : decide ((at' : Int) < 0) = false := by simp only [decide_eq_false_iff_not]; omega
  have d1 : decide (((l.length : Nat) : Int) < (at' : Int)) = false := by simp only [decide_eq_false_iff_not]; omega
  have d2 : decide ((((l.length - at' : Nat)) : Int) < 2) = false := by simp only [decide_eq_false_iff_not]; omega
  have e1 : IntKind.i64.wrap ((l.length : Int) - (at' : Int)) = ((l.length - at' : Nat) : Int) := by rw [w64] <;> omega
  have e2 : IntKind.i64.wrap ((at' : Int) + 2) = ((at' + 2 : Nat) : Int) := by rw [w64] <;> omega
  have e3 : at' + 2 - at' = 2 := by omega
  refine spec_of_X cx_ok Try.func52 rfl (by kernel_rfl) (by kernel_rfl) (Nat.le_of_ble_eq_true rfl) 400 43 ?_
  simp (maxSteps := 4000000) only [Try.results52, XX, Nat.reduceBEq, Nat.reduceLT, Nat.reduceAdd, Nat.reduceMul, Nat.reduceSub, Nat.reduceLeDiff, Nat.reduceEqDiff, Int.reduceToNat, Int.reduceLT, Int.reduceLE, Int.reduceAdd, Int.reduceSub, Int.reduceEq, reduceIte, Nat.reduceBNe, Int.reducePow, Nat.reducePow, Int.reduceMul, Int.reduceNeg, isB_i, isB_b, isB_y, isBv_i, isBv_b, eqCells_t, TT]
  simp (maxSteps := 4000000) only [Try.results52, d0, d1, d2, e1, e2, e3, XX, Nat.reduceBEq, Nat.reduceLT, Nat.reduceAdd, Nat.reduceMul, Nat.reduceSub, Nat.reduceLeDiff, Nat.reduceEqDiff, Int.reduceToNat, Int.reduceLT, Int.reduceLE, Int.reduceAdd, Int.reduceSub, Int.reduceEq, reduceIte, Nat.reduceBNe, Int.reducePow, Nat.reducePow, Int.reduceMul, Int.reduceNeg, isB_i, isB_b, isB_y, isBv_i, isBv_b, eqCells_t, TT]
  refine ⟨by omega, loop_rounds cx_ok 400 3 ?_⟩
  obtain ⟨R, hR⟩ := drop2 (sp := sp) hb
  simp (maxSteps := 4000000) only [Try.results52, w64, Int.reduceToNat, hR, XX, Nat.reduceBEq, Nat.reduceLT, Nat.reduceAdd, Nat.reduceMul, Nat.reduceSub, Nat.reduceLeDiff, Nat.reduceEqDiff, Int.reduceToNat, Int.reduceLT, Int.reduceLE, Int.reduceAdd, Int.reduceSub, Int.reduceEq, reduceIte, Nat.reduceBNe, Int.reducePow, Nat.reducePow, Int.reduceMul, Int.reduceNeg, isB_i, isB_b, isB_y, isBv_i, isBv_b, eqCells_t, TT]
  have q0 := (l.getD at' 0).toNat_lt
  have q1 := (l.getD (at' + 1) 0).toNat_lt
  have z := or_next (a := 0) (b := (l.getD at' 0).toNat) (by omega) (by omega)
  rw [Int.natCast_zero] at z
  rw [z, or_next (by omega) (by omega)]
  exact ⟨by omega, by omega, by rw [Nat.zero_mul, Nat.zero_add]⟩
/-- A station's address. -/
structure M6 where
  a : UInt8
  b : UInt8
  c : UInt8
  d : UInt8
  e : UInt8
  f : UInt8
deriving DecidableEq
abbrev M6.l (m : M6) : List UInt8 := [m.a, m.b, m.c, m.d, m.e, m.f]
theorem eqM (d o : M6) : eqCells [byteC d.a, byteC d.b, byteC d.c, byteC d.d, byteC d.e, byteC d.f] [byteC o.a, byteC o.b, byteC o.c, byteC o.d, byteC o.e, byteC o.f] = some (decide (d = o)) := by
  have e : ∀ a b : UInt8, ((a.toNat : Int) = (b.toNat : Int)) ↔ a = b := fun a b => by rw [Int.natCast_inj, UInt8.toNat_inj]
  simp only [eqCells, byteC, if_true, Option.map_some, Bool.and_true, e]
  congr 1
  obtain ⟨a, b, c, d, e, f⟩ := d
  obtain ⟨a', b', c', d', e', f'⟩ := o
  simp only [M6.mk.injEq]
  rw [Bool.eq_iff_iff]
  simp
abbrev M6.all : M6 := ⟨255, 255, 255, 255, 255, 255⟩
abbrev M6.group (m : M6) : Bool := decide (m.a.toNat % 2 = 1)
theorem group_spec (m : M6) : Spec cx.P 54 [.agg (bsC m.l)] [] fun s _ => s.plain = true ∧ s = .c (bC m.group) := by
  refine spec_of_X cx_ok Try.func54 rfl (by kernel_rfl) (by kernel_rfl) (Nat.le_of_ble_eq_true rfl) 400 3 ?_
  simp (maxSteps := 4000000) only [Try.results54, XX, Nat.reduceBEq, Nat.reduceLT, Nat.reduceAdd, Nat.reduceMul, Nat.reduceSub, Nat.reduceLeDiff, Nat.reduceEqDiff, Int.reduceToNat, Int.reduceLT, Int.reduceLE, Int.reduceAdd, Int.reduceSub, Int.reduceEq, reduceIte, Nat.reduceBNe, Int.reducePow, Nat.reducePow, Int.reduceMul, Int.reduceNeg, isB_i, isB_b, isB_y, isBv_i, isBv_b, eqCells_t, TT]
  simp (maxSteps := 4000000) only [Try.results54, byteC, XX, Nat.reduceBEq, Nat.reduceLT, Nat.reduceAdd, Nat.reduceMul, Nat.reduceSub, Nat.reduceLeDiff, Nat.reduceEqDiff, Int.reduceToNat, Int.reduceLT, Int.reduceLE, Int.reduceAdd, Int.reduceSub, Int.reduceEq, reduceIte, Nat.reduceBNe, Int.reducePow, Nat.reducePow, Int.reduceMul, Int.reduceNeg, isB_i, isB_b, isB_y, isBv_i, isBv_b, eqCells_t, TT]
  have := m.a.toNat_lt
  first
  | rw [show (1 : Int) = ((1 : Nat) : Int) from rfl, and_u8 (by omega) (by omega), Nat.and_one_is_mod]
  | rw [show (2 : Int) = ((2 : Nat) : Int) from rfl, tmod_nat]
  simp only [SV.c.injEq, SC.v.injEq, Value.bool.injEq, decide_eq_decide]
  omega
theorem rgroup_spec (m : M6) : Spec cx.P 26 [.agg (bsC m.l)] [] fun s _ => s.plain = true ∧ s = .c (bC m.group) := by
  refine spec_of_X cx_ok Try.func26 rfl (by kernel_rfl) (by kernel_rfl) (Nat.le_of_ble_eq_true rfl) 400 3 ?_
  simp (maxSteps := 4000000) only [Try.results26, XX, Nat.reduceBEq, Nat.reduceLT, Nat.reduceAdd, Nat.reduceMul, Nat.reduceSub, Nat.reduceLeDiff, Nat.reduceEqDiff, Int.reduceToNat, Int.reduceLT, Int.reduceLE, Int.reduceAdd, Int.reduceSub, Int.reduceEq, reduceIte, Nat.reduceBNe, Int.reducePow, Nat.reducePow, Int.reduceMul, Int.reduceNeg, isB_i, isB_b, isB_y, isBv_i, isBv_b, eqCells_t, TT]
  simp (maxSteps := 4000000) only [Try.results26, byteC, XX, Nat.reduceBEq, Nat.reduceLT, Nat.reduceAdd, Nat.reduceMul, Nat.reduceSub, Nat.reduceLeDiff, Nat.reduceEqDiff, Int.reduceToNat, Int.reduceLT, Int.reduceLE, Int.reduceAdd, Int.reduceSub, Int.reduceEq, reduceIte, Nat.reduceBNe, Int.reducePow, Nat.reducePow, Int.reduceMul, Int.reduceNeg, isB_i, isB_b, isB_y, isBv_i, isBv_b, eqCells_t, TT]
  have := m.a.toNat_lt
  first
  | rw [show (1 : Int) = ((1 : Nat) : Int) from rfl, and_u8 (by omega) (by omega), Nat.and_one_is_mod]
  | rw [show (2 : Int) = ((2 : Nat) : Int) from rfl, tmod_nat]
  simp only [SV.c.injEq, SC.v.injEq, Value.bool.injEq, decide_eq_decide]
  omega
theorem every_spec : Spec cx.P 55 [] [] fun s _ => s.plain = true ∧ s = .agg (bsC M6.all.l) := by
  refine spec_of_X cx_ok Try.func55 rfl (by kernel_rfl) (by kernel_rfl) (Nat.le_of_ble_eq_true rfl) 400 1 ?_
  simp (maxSteps := 4000000) only [Try.results55, XX, Nat.reduceBEq, Nat.reduceLT, Nat.reduceAdd, Nat.reduceMul, Nat.reduceSub, Nat.reduceLeDiff, Nat.reduceEqDiff, Int.reduceToNat, Int.reduceLT, Int.reduceLE, Int.reduceAdd, Int.reduceSub, Int.reduceEq, reduceIte, Nat.reduceBNe, Int.reducePow, Nat.reducePow, Int.reduceMul, Int.reduceNeg, isB_i, isB_b, isB_y, isBv_i, isBv_b, eqCells_t, TT]
  rfl
theorem revery_spec : Spec cx.P 27 [] [] fun s _ => s.plain = true ∧ s = .agg (bsC M6.all.l) := by
  refine spec_of_X cx_ok Try.func27 rfl (by kernel_rfl) (by kernel_rfl) (Nat.le_of_ble_eq_true rfl) 400 1 ?_
  simp (maxSteps := 4000000) only [Try.results27, XX, Nat.reduceBEq, Nat.reduceLT, Nat.reduceAdd, Nat.reduceMul, Nat.reduceSub, Nat.reduceLeDiff, Nat.reduceEqDiff, Int.reduceToNat, Int.reduceLT, Int.reduceLE, Int.reduceAdd, Int.reduceSub, Int.reduceEq, reduceIte, Nat.reduceBNe, Int.reducePow, Nat.reducePow, Int.reduceMul, Int.reduceNeg, isB_i, isB_b, isB_y, isBv_i, isBv_b, eqCells_t, TT]
  rfl
theorem clone_spec (l sp : List UInt8) (c : Nat) (hl : l.length ≤ 140737488355328) (hn : 0 < l.length) (hc : 0 < c) : Spec cx.P 53 [.c (roB l sp c)] [] fun s h' => ∃ r, s = .c (.sl 0 0 l.length (l.length + r)) ∧ h' = [wB true (l ++ List.replicate r 0)] := by
  have key : Spec cx.P 53 [.c (roB l sp c)] [] fun s h' => ∃ r a, s = .c (.sl 1 0 l.length (l.length + r)) ∧ h' = [a, wB true (l ++ List.replicate r 0)] := by
    refine spec_of_X cx_ok Try.func53 rfl (by kernel_rfl) (by kernel_rfl) (Nat.le_of_ble_eq_true rfl) 400 3 ?_
    simp (maxSteps := 4000000) only [Try.results53, XX, Nat.reduceBEq, Nat.reduceLT, Nat.reduceAdd, Nat.reduceMul, Nat.reduceSub, Nat.reduceLeDiff, Nat.reduceEqDiff, Int.reduceToNat, Int.reduceLT, Int.reduceLE, Int.reduceAdd, Int.reduceSub, Int.reduceEq, reduceIte, Nat.reduceBNe, Int.reducePow, Nat.reducePow, Int.reduceMul, Int.reduceNeg, isB_i, isB_b, isB_y, isBv_i, isBv_b, eqCells_t, TT]
    have e0 : (bsR (l ++ sp)).take l.length = bsR l := by rw [rs_take, List.take_left' rfl]
    refine ⟨hc, ⟨⟨by omega, by unfold maxLen; omega, by simp, fun h => by omega⟩, by simp⟩, xapp_grow hn fun c' h1 _ => ?_⟩
    obtain ⟨r, rfl⟩ := Nat.exists_eq_add_of_le h1
    simp (maxSteps := 4000000) only [Try.results53, e0, bsR_toSC, Nat.add_sub_cancel_left, zeros_flat, bs_app, XX, Nat.reduceBEq, Nat.reduceLT, Nat.reduceAdd, Nat.reduceMul, Nat.reduceSub, Nat.reduceLeDiff, Nat.reduceEqDiff, Int.reduceToNat, Int.reduceLT, Int.reduceLE, Int.reduceAdd, Int.reduceSub, Int.reduceEq, reduceIte, Nat.reduceBNe, Int.reducePow, Nat.reducePow, Int.reduceMul, Int.reduceNeg, isB_i, isB_b, isB_y, isBv_i, isBv_b, eqCells_t, TT]
    exact ⟨r, _, rfl, rfl⟩
  exact key.wk fun t h' ⟨r, a, h1, h2⟩ => ⟨.c (.sl 0 0 l.length (l.length + r)), [wB true (l ++ List.replicate r 0)], [some 1], rfl, by subst h2; simp only [XX, Nat.reduceBEq, Nat.reduceLT, Nat.reduceAdd, Nat.reduceMul, Nat.reduceSub, Nat.reduceLeDiff, Nat.reduceEqDiff, Int.reduceToNat, Int.reduceLT, Int.reduceLE, Int.reduceAdd, Int.reduceSub, Int.reduceEq, reduceIte, Nat.reduceBNe, Int.reducePow, Nat.reducePow, Int.reduceMul, Int.reduceNeg, isB_i, isB_b, isB_y, isBv_i, isBv_b, eqCells_t, TT, ids_bsC, ren_bsC, noRo_bsC, plain_bsC, lt_bsC, ids_byte, ren_byte, noRo_byte, plain_byte, lt_byte], by subst h1; simp only [XX, Nat.reduceBEq, Nat.reduceLT, Nat.reduceAdd, Nat.reduceMul, Nat.reduceSub, Nat.reduceLeDiff, Nat.reduceEqDiff, Int.reduceToNat, Int.reduceLT, Int.reduceLE, Int.reduceAdd, Int.reduceSub, Int.reduceEq, reduceIte, Nat.reduceBNe, Int.reducePow, Nat.reducePow, Int.reduceMul, Int.reduceNeg, isB_i, isB_b, isB_y, isBv_i, isBv_b, eqCells_t, TT, ids_bsC, ren_bsC, noRo_bsC, plain_bsC, lt_bsC, ids_byte, ren_byte, noRo_byte, plain_byte, lt_byte], r, rfl, rfl⟩
end Go.Proofs.Ythbojoiogjdbeaa.Sx
namespace Go.Proofs.Ythbojoiogjdbeaa.Sx
open Go
set_option linter.unusedSimpArgs false
set_option linter.unusedVariables false
set_option maxRecDepth 10000
set_option maxHeartbeats 1000000
abbrev fraC (d s : M6) (k : Int) (x : SC) : List SC := [byteC d.a, byteC d.b, byteC d.c, byteC d.d, byteC d.e, byteC d.f, byteC s.a, byteC s.b, byteC s.c, byteC s.d, byteC s.e, byteC s.f, i64 k, x]
abbrev noC : SC := .v (.slice none 0 0)
/-- A frame as bytes. -/
abbrev sealL (d s : M6) (k : Nat) (l : List UInt8) : List UInt8 := d.l ++ s.l ++ be2 k ++ (l ++ List.replicate (46 - l.length) 0)
theorem fsealK_spec (d s : M6) (k : Int) (x : SC) (hk : k < 1536 ∨ 65535 < k) : Spec cx.P 56 [.agg (fraC d s k x)] [] fun s _ => s.plain = true ∧ s = .tup [(false, [noC]), (false, [i64 30])] := by
  refine spec_of_X cx_ok Try.func56 rfl (by kernel_rfl) (by kernel_rfl) (Nat.le_of_ble_eq_true rfl) 400 5 ?_
  simp (maxSteps := 4000000) only [Try.results56, XX, Nat.reduceBEq, Nat.reduceLT, Nat.reduceAdd, Nat.reduceMul, Nat.reduceSub, Nat.reduceLeDiff, Nat.reduceEqDiff, Int.reduceToNat, Int.reduceLT, Int.reduceLE, Int.reduceAdd, Int.reduceSub, Int.reduceEq, reduceIte, Nat.reduceBNe, Int.reducePow, Nat.reducePow, Int.reduceMul, Int.reduceNeg, isB_i, isB_b, isB_y, isBv_i, isBv_b, eqCells_t, TT]
  by_cases h1 : k < 1536
  · have d0 : decide (k < 1536) = true := by simpa using h1
    simp (maxSteps := 4000000) only [Try.results56, d0, XX, Nat.reduceBEq, Nat.reduceLT, Nat.reduceAdd, Nat.reduceMul, Nat.reduceSub, Nat.reduceLeDiff, Nat.reduceEqDiff, Int.reduceToNat, Int.reduceLT, Int.reduceLE, Int.reduceAdd, Int.reduceSub, Int.reduceEq, reduceIte, Nat.reduceBNe, Int.reducePow, Nat.reducePow, Int.reduceMul, Int.reduceNeg, isB_i, isB_b, isB_y, isBv_i, isBv_b, eqCells_t, TT]
  · have d0 : decide (k < 1536) = false := by simpa using h1
    have d1 : decide (k > 65535) = true := by simp; omega
    have d2 : decide (65535 < k) = true := by simp; omega
    simp (maxSteps := 4000000) only [Try.results56, d0, d1, d2, XX, Nat.reduceBEq, Nat.reduceLT, Nat.reduceAdd, Nat.reduceMul, Nat.reduceSub, Nat.reduceLeDiff, Nat.reduceEqDiff, Int.reduceToNat, Int.reduceLT, Int.reduceLE, Int.reduceAdd, Int.reduceSub, Int.reduceEq, reduceIte, Nat.reduceBNe, Int.reducePow, Nat.reducePow, Int.reduceMul, Int.reduceNeg, isB_i, isB_b, isB_y, isBv_i, isBv_b, eqCells_t, TT]
theorem fsealL_spec (d s : M6) (k : Int) (l sp : List UInt8) (c : Nat) (hk : 1536 ≤ k) (hk' : k ≤ 65535) (hl : 1500 < l.length) : Spec cx.P 56 [.agg (fraC d s k (roB l sp c))] [] fun s _ => s.plain = true ∧ s = .tup [(false, [noC]), (false, [i64 2])] := by
  have d0 : decide (k < 1536) = false := by simpa using hk
  have d2 : decide (65535 < k) = false := by simp; omega
  have d3 : decide (1500 < (l.length : Int)) = true := by simp; omega
  refine spec_of_X cx_ok Try.func56 rfl (by kernel_rfl) (by kernel_rfl) (Nat.le_of_ble_eq_true rfl) 400 5 ?_
  simp (maxSteps := 4000000) only [Try.results56, XX, Nat.reduceBEq, Nat.reduceLT, Nat.reduceAdd, Nat.reduceMul, Nat.reduceSub, Nat.reduceLeDiff, Nat.reduceEqDiff, Int.reduceToNat, Int.reduceLT, Int.reduceLE, Int.reduceAdd, Int.reduceSub, Int.reduceEq, reduceIte, Nat.reduceBNe, Int.reducePow, Nat.reducePow, Int.reduceMul, Int.reduceNeg, isB_i, isB_b, isB_y, isBv_i, isBv_b, eqCells_t, TT]
  simp (maxSteps := 4000000) only [Try.results56, d0, d2, d3, XX, Nat.reduceBEq, Nat.reduceLT, Nat.reduceAdd, Nat.reduceMul, Nat.reduceSub, Nat.reduceLeDiff, Nat.reduceEqDiff, Int.reduceToNat, Int.reduceLT, Int.reduceLE, Int.reduceAdd, Int.reduceSub, Int.reduceEq, reduceIte, Nat.reduceBNe, Int.reducePow, Nat.reducePow, Int.reduceMul, Int.reduceNeg, isB_i, isB_b, isB_y, isBv_i, isBv_b, eqCells_t, TT]
theorem fseal_spec (d s : M6) (k : Nat) (l sp : List UInt8) (c : Nat) (hk : 1536 ≤ k) (hk' : k ≤ 65535) (hl : l.length ≤ 1500) : Spec cx.P 56 [.agg (fraC d s k (roB l sp c))] [] fun r h' => r = .tup [(false, [.sl 0 0 (sealL d s k l).length (sealL d s k l).length]), (false, [i64 0])] ∧ h' = [wB true (sealL d s k l)] := by
  have d0 : decide ((k : Int) < 1536) = false := by simp; omega
  have d2 : decide (65535 < (k : Int)) = false := by simp; omega
  have d3 : decide (1500 < (l.length : Int)) = false := by simp; omega
  generalize hr : l.length + (46 - l.length) = r
  have hM : (if 60 > IntKind.i64.wrap (14 + (l.length : Int)) then 60 else IntKind.i64.wrap (14 + (l.length : Int))) = ((14 + r : Nat) : Int) := by
    rw [w64 (by omega) (by omega)]
    split <;> omega
  have hz : (List.replicate (14 + r) [SC.v (.int .u8 0)]).flatten = byteC 0 :: byteC 0 :: byteC 0 :: byteC 0 :: byteC 0 :: byteC 0 :: byteC 0 :: byteC 0 :: byteC 0 :: byteC 0 :: byteC 0 :: byteC 0 :: byteC 0 :: byteC 0 :: bsC (List.replicate r 0) := by
    rw [zeros_flat, Nat.add_comm]
    simp only [List.replicate_succ, List.map_cons]
  have key : Spec cx.P 56 [.agg (fraC d s k (roB l sp c))] [] fun r h' => r = .tup [(false, [.sl 1 0 (sealL d s k l).length (sealL d s k l).length]), (false, [i64 0])] ∧ ∃ a b, h' = [a, wB true (sealL d s k l), b] := by
    refine spec_of_X cx_ok Try.func56 rfl (by kernel_rfl) (by kernel_rfl) (Nat.le_of_ble_eq_true rfl) 400 5 ?_
    simp (maxSteps := 4000000) only [Try.results56, XX, Nat.reduceBEq, Nat.reduceLT, Nat.reduceAdd, Nat.reduceMul, Nat.reduceSub, Nat.reduceLeDiff, Nat.reduceEqDiff, Int.reduceToNat, Int.reduceLT, Int.reduceLE, Int.reduceAdd, Int.reduceSub, Int.reduceEq, reduceIte, Nat.reduceBNe, Int.reducePow, Nat.reducePow, Int.reduceMul, Int.reduceNeg, isB_i, isB_b, isB_y, isBv_i, isBv_b, eqCells_t, TT]
    simp (maxSteps := 4000000) only [Try.results56, d0, d2, d3, XX, Nat.reduceBEq, Nat.reduceLT, Nat.reduceAdd, Nat.reduceMul, Nat.reduceSub, Nat.reduceLeDiff, Nat.reduceEqDiff, Int.reduceToNat, Int.reduceLT, Int.reduceLE, Int.reduceAdd, Int.reduceSub, Int.reduceEq, reduceIte, Nat.reduceBNe, Int.reducePow, Nat.reducePow, Int.reduceMul, Int.reduceNeg, isB_i, isB_b, isB_y, isBv_i, isBv_b, eqCells_t, TT]
    have m1 : min 6 (14 + r) = 6 := by omega
    have m2 : 14 + r - 6 = 8 + r := by omega
    have m3 : min 6 (8 + r) = 6 := by omega
    simp (maxSteps := 4000000) only [Try.results56, hM, hz, m1, XX, Nat.reduceBEq, Nat.reduceLT, Nat.reduceAdd, Nat.reduceMul, Nat.reduceSub, Nat.reduceLeDiff, Nat.reduceEqDiff, Int.reduceToNat, Int.reduceLT, Int.reduceLE, Int.reduceAdd, Int.reduceSub, Int.reduceEq, reduceIte, Nat.reduceBNe, Int.reducePow, Nat.reducePow, Int.reduceMul, Int.reduceNeg, isB_i, isB_b, isB_y, isBv_i, isBv_b, eqCells_t, TT]
    refine ⟨by omega, ?_⟩
    refine draw_of cx_ok (by kernel_rfl) 400 [0] [(0, true), (1, true), (2, true), (3, true), (4, false)] (by kernel_rfl) rfl ?_
    simp (maxSteps := 4000000) only [Try.results56, m2, m3, XX, Nat.reduceBEq, Nat.reduceLT, Nat.reduceAdd, Nat.reduceMul, Nat.reduceSub, Nat.reduceLeDiff, Nat.reduceEqDiff, Int.reduceToNat, Int.reduceLT, Int.reduceLE, Int.reduceAdd, Int.reduceSub, Int.reduceEq, reduceIte, Nat.reduceBNe, Int.reducePow, Nat.reducePow, Int.reduceMul, Int.reduceNeg, isB_i, isB_b, isB_y, isBv_i, isBv_b, eqCells_t, TT]
    refine ⟨by omega, ?_⟩
    have m4 : IntKind.u64.wrap (k : Int) = (k : Int) := by rw [wu64] <;> omega
    have m5 : 14 + r - 12 = 2 + r := by omega
    have m6 : min (2 + r) 2 = 2 := by omega
    have m6' : min 2 (2 + r) = 2 := by omega
    refine draw_of cx_ok (by kernel_rfl) 400 [0] [(0, true), (1, true), (2, true), (3, true), (4, true), (5, false), (6, false)] (by kernel_rfl) rfl ?_
    simp (maxSteps := 4000000) only [Try.results56, m4, m5, XX, Nat.reduceBEq, Nat.reduceLT, Nat.reduceAdd, Nat.reduceMul, Nat.reduceSub, Nat.reduceLeDiff, Nat.reduceEqDiff, Int.reduceToNat, Int.reduceLT, Int.reduceLE, Int.reduceAdd, Int.reduceSub, Int.reduceEq, reduceIte, Nat.reduceBNe, Int.reducePow, Nat.reducePow, Int.reduceMul, Int.reduceNeg, isB_i, isB_b, isB_y, isBv_i, isBv_b, eqCells_t, TT]
    refine ⟨by omega, ?_⟩
    refine call_frame (put2_spec k (by omega)) [] rfl rfl trivial rfl rfl ?_
    rintro _ _ ⟨rfl, rfl⟩
    simp (maxSteps := 4000000) only [Try.results56, m6, m6', ids_bsC, ren_bsC, noRo_bsC, plain_bsC, lt_bsC, ids_byte, ren_byte, noRo_byte, plain_byte, lt_byte, XX, Nat.reduceBEq, Nat.reduceLT, Nat.reduceAdd, Nat.reduceMul, Nat.reduceSub, Nat.reduceLeDiff, Nat.reduceEqDiff, Int.reduceToNat, Int.reduceLT, Int.reduceLE, Int.reduceAdd, Int.reduceSub, Int.reduceEq, reduceIte, Nat.reduceBNe, Int.reducePow, Nat.reducePow, Int.reduceMul, Int.reduceNeg, isB_i, isB_b, isB_y, isBv_i, isBv_b, eqCells_t, TT]
    have m7 : 14 + r - 14 = r := by omega
    have m8 : min r l.length = l.length := by omega
    have m8' : min l.length r = l.length := by omega
    have m9 : (bsR (l ++ sp)).take l.length = bsR l := by rw [rs_take, List.take_left' rfl]
    have m10 : ((bsR l).map RC.toSC).take l.length = bsC l := by rw [bsR_toSC, bs_take, List.take_length]
    refine draw_of cx_ok (by kernel_rfl) 400 [0] [(0, true), (1, true), (2, true), (3, true), (4, false)] (by kernel_rfl) rfl ?_
    simp (maxSteps := 4000000) only [Try.results56, m7, m8, m8', m9, m10, XX, Nat.reduceBEq, Nat.reduceLT, Nat.reduceAdd, Nat.reduceMul, Nat.reduceSub, Nat.reduceLeDiff, Nat.reduceEqDiff, Int.reduceToNat, Int.reduceLT, Int.reduceLE, Int.reduceAdd, Int.reduceSub, Int.reduceEq, reduceIte, Nat.reduceBNe, Int.reducePow, Nat.reducePow, Int.reduceMul, Int.reduceNeg, isB_i, isB_b, isB_y, isBv_i, isBv_b, eqCells_t, TT]
    have q : (sealL d s k l).length = 14 + r := by simp; omega
    refine ⟨by omega, ⟨by simp, by simp; omega⟩, by rw [q], ⟨true, 40, fraC d s k (roB l sp c)⟩, ⟨true, 5, bsC (be2 k)⟩, ?_⟩
    rw [bsC_len, Nat.add_comm 14]
    simp only [List.drop_succ_cons]
    rw [bs_drop, bs_app, List.drop_replicate, ← hr, Nat.add_sub_cancel_left]
    rfl
  exact key.wk fun t h' ⟨h1, a, b, h2⟩ => ⟨.tup [(false, [.sl 0 0 (sealL d s k l).length (sealL d s k l).length]), (false, [i64 0])], [wB true (sealL d s k l)], [some 1], rfl, by subst h2; simp only [XX, Nat.reduceBEq, Nat.reduceLT, Nat.reduceAdd, Nat.reduceMul, Nat.reduceSub, Nat.reduceLeDiff, Nat.reduceEqDiff, Int.reduceToNat, Int.reduceLT, Int.reduceLE, Int.reduceAdd, Int.reduceSub, Int.reduceEq, reduceIte, Nat.reduceBNe, Int.reducePow, Nat.reducePow, Int.reduceMul, Int.reduceNeg, isB_i, isB_b, isB_y, isBv_i, isBv_b, eqCells_t, TT, ids_bsC, ren_bsC, noRo_bsC, plain_bsC, lt_bsC, ids_byte, ren_byte, noRo_byte, plain_byte, lt_byte], by subst h1; simp only [XX, Nat.reduceBEq, Nat.reduceLT, Nat.reduceAdd, Nat.reduceMul, Nat.reduceSub, Nat.reduceLeDiff, Nat.reduceEqDiff, Int.reduceToNat, Int.reduceLT, Int.reduceLE, Int.reduceAdd, Int.reduceSub, Int.reduceEq, reduceIte, Nat.reduceBNe, Int.reducePow, Nat.reducePow, Int.reduceMul, Int.reduceNeg, isB_i, isB_b, isB_y, isBv_i, isBv_b, eqCells_t, TT, ids_bsC, ren_bsC, noRo_bsC, plain_bsC, lt_bsC, ids_byte, ren_byte, noRo_byte, plain_byte, lt_byte], rfl, rfl⟩
end Go.Proofs.Ythbojoiogjdbeaa.Sx
namespace Go.Proofs.Ythbojoiogjdbeaa.Sx
open Go
set_option linter.unusedSimpArgs false
set_option linter.unusedVariables false
set_option maxRecDepth 10000
set_option maxHeartbeats 1000000
abbrev M6.nul : M6 := ⟨0, 0, 0, 0, 0, 0⟩
abbrev noFr : List SC := fraC .nul .nul 0 noC
abbrev errFr (e : Int) : SV := .tup [(true, noFr), (false, [i64 e])]
theorem fopenS_spec (l sp : List UInt8) (c : Nat) (hl : l.length < 60) : Spec cx.P 31 [.c (roB l sp c)] [] fun s _ => s.plain = true ∧ s = errFr 5 := by
  have d0 : decide ((l.length : Int) < 60) = true := by simp only [decide_eq_true_eq]; omega
  refine spec_of_X cx_ok Try.func31 rfl (by kernel_rfl) (by kernel_rfl) (Nat.le_of_ble_eq_true rfl) 400 7 ?_
  simp (maxSteps := 4000000) only [Try.results31, XX, Nat.reduceBEq, Nat.reduceLT, Nat.reduceAdd, Nat.reduceMul, Nat.reduceSub, Nat.reduceLeDiff, Nat.reduceEqDiff, Int.reduceToNat, Int.reduceLT, Int.reduceLE, Int.reduceAdd, Int.reduceSub, Int.reduceEq, reduceIte, Nat.reduceBNe, Int.reducePow, Nat.reducePow, Int.reduceMul, Int.reduceNeg, isB_i, isB_b, isB_y, isBv_i, isBv_b, eqCells_t, TT]
  simp (maxSteps := 4000000) only [Try.results31, d0, XX, Nat.reduceBEq, Nat.reduceLT, Nat.reduceAdd, Nat.reduceMul, Nat.reduceSub, Nat.reduceLeDiff, Nat.reduceEqDiff, Int.reduceToNat, Int.reduceLT, Int.reduceLE, Int.reduceAdd, Int.reduceSub, Int.reduceEq, reduceIte, Nat.reduceBNe, Int.reducePow, Nat.reducePow, Int.reduceMul, Int.reduceNeg, isB_i, isB_b, isB_y, isBv_i, isBv_b, eqCells_t, TT]
  rfl
theorem fopenL_spec (l sp : List UInt8) (c : Nat) (hl : 1514 < l.length) : Spec cx.P 31 [.c (roB l sp c)] [] fun s _ => s.plain = true ∧ s = errFr 2 := by
  have d0 : decide ((l.length : Int) < 60) = false := by simp only [decide_eq_false_iff_not]; omega
  have d1 : decide (1514 < (l.length : Int)) = true := by simp only [decide_eq_true_eq]; omega
  refine spec_of_X cx_ok Try.func31 rfl (by kernel_rfl) (by kernel_rfl) (Nat.le_of_ble_eq_true rfl) 400 7 ?_
  simp (maxSteps := 4000000) only [Try.results31, XX, Nat.reduceBEq, Nat.reduceLT, Nat.reduceAdd, Nat.reduceMul, Nat.reduceSub, Nat.reduceLeDiff, Nat.reduceEqDiff, Int.reduceToNat, Int.reduceLT, Int.reduceLE, Int.reduceAdd, Int.reduceSub, Int.reduceEq, reduceIte, Nat.reduceBNe, Int.reducePow, Nat.reducePow, Int.reduceMul, Int.reduceNeg, isB_i, isB_b, isB_y, isBv_i, isBv_b, eqCells_t, TT]
  simp (maxSteps := 4000000) only [Try.results31, d0, d1, XX, Nat.reduceBEq, Nat.reduceLT, Nat.reduceAdd, Nat.reduceMul, Nat.reduceSub, Nat.reduceLeDiff, Nat.reduceEqDiff, Int.reduceToNat, Int.reduceLT, Int.reduceLE, Int.reduceAdd, Int.reduceSub, Int.reduceEq, reduceIte, Nat.reduceBNe, Int.reducePow, Nat.reducePow, Int.reduceMul, Int.reduceNeg, isB_i, isB_b, isB_y, isBv_i, isBv_b, eqCells_t, TT]
  rfl
/-- A frame's bytes, all told. -/
abbrev rawL (d s : M6) (k1 k0 : UInt8) (t : List UInt8) : List UInt8 := d.a :: d.b :: d.c :: d.d :: d.e :: d.f :: s.a :: s.b :: s.c :: s.d :: s.e :: s.f :: k1 :: k0 :: t
theorem raw_at {l : List UInt8} {d s : M6} {k1 k0 : UInt8} {t : List UInt8} (he : l = rawL d s k1 k0 t) : ((l.getD 12 0).toNat * 256 + (l.getD (12 + 1) 0).toNat : Nat) = k1.toNat * 256 + k0.toNat := by subst he; rfl
theorem fopenK_spec (d s : M6) (k1 k0 : UInt8) (t sp l : List UInt8) (he : l = rawL d s k1 k0 t) (c : Nat) (ht : 46 ≤ t.length) (ht' : t.length ≤ 1500) (hc : l.length ≤ c) (hk : k1.toNat * 256 + k0.toNat < 1536) : Spec cx.P 31 [.c (roB l sp c)] [] fun s _ => s.plain = true ∧ s = errFr 30 := by
  have hl : l.length = 14 + t.length := by rw [he]; simp; omega
  have d0 : decide ((l.length : Int) < 60) = false := by simp only [decide_eq_false_iff_not]; omega
  have d1 : decide (1514 < (l.length : Int)) = false := by simp only [decide_eq_false_iff_not]; omega
  have d2 : decide (((k1.toNat * 256 + k0.toNat : Nat) : Int) < 1536) = true := by simp only [decide_eq_true_eq]; omega
  refine spec_of_X cx_ok Try.func31 rfl (by kernel_rfl) (by kernel_rfl) (Nat.le_of_ble_eq_true rfl) 400 7 ?_
  simp (maxSteps := 4000000) only [Try.results31, XX, Nat.reduceBEq, Nat.reduceLT, Nat.reduceAdd, Nat.reduceMul, Nat.reduceSub, Nat.reduceLeDiff, Nat.reduceEqDiff, Int.reduceToNat, Int.reduceLT, Int.reduceLE, Int.reduceAdd, Int.reduceSub, Int.reduceEq, reduceIte, Nat.reduceBNe, Int.reducePow, Nat.reducePow, Int.reduceMul, Int.reduceNeg, isB_i, isB_b, isB_y, isBv_i, isBv_b, eqCells_t, TT]
  simp (maxSteps := 4000000) only [Try.results31, d0, d1, XX, Nat.reduceBEq, Nat.reduceLT, Nat.reduceAdd, Nat.reduceMul, Nat.reduceSub, Nat.reduceLeDiff, Nat.reduceEqDiff, Int.reduceToNat, Int.reduceLT, Int.reduceLE, Int.reduceAdd, Int.reduceSub, Int.reduceEq, reduceIte, Nat.reduceBNe, Int.reducePow, Nat.reducePow, Int.reduceMul, Int.reduceNeg, isB_i, isB_b, isB_y, isBv_i, isBv_b, eqCells_t, TT]
  refine call_frame (get2_spec l sp c 12 (by omega) hc (by omega)) [] rfl rfl trivial rfl rfl ?_
  rintro _ _ ⟨rfl, rfl⟩
  rw [raw_at he]
  simp (maxSteps := 4000000) only [Try.results31, d2, XX, Nat.reduceBEq, Nat.reduceLT, Nat.reduceAdd, Nat.reduceMul, Nat.reduceSub, Nat.reduceLeDiff, Nat.reduceEqDiff, Int.reduceToNat, Int.reduceLT, Int.reduceLE, Int.reduceAdd, Int.reduceSub, Int.reduceEq, reduceIte, Nat.reduceBNe, Int.reducePow, Nat.reducePow, Int.reduceMul, Int.reduceNeg, isB_i, isB_b, isB_y, isBv_i, isBv_b, eqCells_t, TT]
  rfl
theorem fopen_spec (d s : M6) (k1 k0 : UInt8) (t sp l : List UInt8) (he : l = rawL d s k1 k0 t) (c : Nat) (ht : 46 ≤ t.length) (ht' : t.length ≤ 1500) (hc : l.length ≤ c) (hk : 1536 ≤ k1.toNat * 256 + k0.toNat) : Spec cx.P 31 [.c (roB l sp c)] [] fun q h' => ∃ r, q = .tup [(true, fraC d s (k1.toNat * 256 + k0.toNat : Nat) (.sl 0 0 t.length (t.length + r))), (false, [i64 0])] ∧ h' = [wB true (t ++ List.replicate r 0)] := by
  have hl : l.length = 14 + t.length := by rw [he]; simp; omega
  have d0 : decide ((l.length : Int) < 60) = false := by simp only [decide_eq_false_iff_not]; omega
  have d1 : decide (1514 < (l.length : Int)) = false := by simp only [decide_eq_false_iff_not]; omega
  have d2 : decide (((k1.toNat * 256 + k0.toNat : Nat) : Int) < 1536) = false := by simp only [decide_eq_false_iff_not]; omega
  have key : Spec cx.P 31 [.c (roB l sp c)] [] fun q h' => ∃ r, q = .tup [(true, fraC d s (k1.toNat * 256 + k0.toNat : Nat) (.sl 1 0 t.length (t.length + r))), (false, [i64 0])] ∧ ∃ a b, h' = [a, wB true (t ++ List.replicate r 0), b] := by
    refine spec_of_X cx_ok Try.func31 rfl (by kernel_rfl) (by kernel_rfl) (Nat.le_of_ble_eq_true rfl) 400 7 ?_
    simp (maxSteps := 4000000) only [Try.results31, XX, Nat.reduceBEq, Nat.reduceLT, Nat.reduceAdd, Nat.reduceMul, Nat.reduceSub, Nat.reduceLeDiff, Nat.reduceEqDiff, Int.reduceToNat, Int.reduceLT, Int.reduceLE, Int.reduceAdd, Int.reduceSub, Int.reduceEq, reduceIte, Nat.reduceBNe, Int.reducePow, Nat.reducePow, Int.reduceMul, Int.reduceNeg, isB_i, isB_b, isB_y, isBv_i, isBv_b, eqCells_t, TT]
    simp (maxSteps := 4000000) only [Try.results31, d0, d1, XX, Nat.reduceBEq, Nat.reduceLT, Nat.reduceAdd, Nat.reduceMul, Nat.reduceSub, Nat.reduceLeDiff, Nat.reduceEqDiff, Int.reduceToNat, Int.reduceLT, Int.reduceLE, Int.reduceAdd, Int.reduceSub, Int.reduceEq, reduceIte, Nat.reduceBNe, Int.reducePow, Nat.reducePow, Int.reduceMul, Int.reduceNeg, isB_i, isB_b, isB_y, isBv_i, isBv_b, eqCells_t, TT]
    refine call_frame (get2_spec l sp c 12 (by omega) hc (by omega)) [] rfl rfl trivial rfl rfl ?_
    rintro _ _ ⟨rfl, rfl⟩
    rw [raw_at he]
    simp (maxSteps := 4000000) only [Try.results31, d2, XX, Nat.reduceBEq, Nat.reduceLT, Nat.reduceAdd, Nat.reduceMul, Nat.reduceSub, Nat.reduceLeDiff, Nat.reduceEqDiff, Int.reduceToNat, Int.reduceLT, Int.reduceLE, Int.reduceAdd, Int.reduceSub, Int.reduceEq, reduceIte, Nat.reduceBNe, Int.reducePow, Nat.reducePow, Int.reduceMul, Int.reduceNeg, isB_i, isB_b, isB_y, isBv_i, isBv_b, eqCells_t, TT]
    have e1 : (bsR (l ++ sp)).drop 14 = bsR (t ++ sp) := by subst he; rfl
    have e2 : l.length - 14 = t.length := by omega
    have e3 : IntKind.i64.wrap ((k1.toNat * 256 + k0.toNat : Nat) : Int) = ((k1.toNat * 256 + k0.toNat : Nat) : Int) := by
      have := k1.toNat_lt; have := k0.toNat_lt
      rw [w64] <;> omega
    have e4 : bsR (l ++ sp) = byteR d.a :: byteR d.b :: byteR d.c :: byteR d.d :: byteR d.e :: byteR d.f :: byteR s.a :: byteR s.b :: byteR s.c :: byteR s.d :: byteR s.e :: byteR s.f :: byteR k1 :: byteR k0 :: bsR (t ++ sp) := by subst he; rfl
    have e5 : ∀ b : UInt8, (byteR b).toSC = byteC b := fun _ => rfl
    rw [e1, e2, e3]
    refine ⟨by omega, ?_⟩
    refine call_frame (clone_spec t sp t.length (by omega) (by omega) (by omega)) [] rfl rfl trivial rfl rfl ?_
    rintro _ _ ⟨r, rfl, rfl⟩
    simp (maxSteps := 4000000) only [Try.results31, ids_bsC, ren_bsC, noRo_bsC, plain_bsC, lt_bsC, ids_byte, ren_byte, noRo_byte, plain_byte, lt_byte, XX, Nat.reduceBEq, Nat.reduceLT, Nat.reduceAdd, Nat.reduceMul, Nat.reduceSub, Nat.reduceLeDiff, Nat.reduceEqDiff, Int.reduceToNat, Int.reduceLT, Int.reduceLE, Int.reduceAdd, Int.reduceSub, Int.reduceEq, reduceIte, Nat.reduceBNe, Int.reducePow, Nat.reducePow, Int.reduceMul, Int.reduceNeg, isB_i, isB_b, isB_y, isBv_i, isBv_b, eqCells_t, TT]
    refine draw_of cx_ok (by kernel_rfl) 400 [1] [(0, true), (1, true), (2, true), (3, true), (4, false)] (by kernel_rfl) rfl ?_
    simp (maxSteps := 4000000) only [Try.results31, e4, e5, XX, Nat.reduceBEq, Nat.reduceLT, Nat.reduceAdd, Nat.reduceMul, Nat.reduceSub, Nat.reduceLeDiff, Nat.reduceEqDiff, Int.reduceToNat, Int.reduceLT, Int.reduceLE, Int.reduceAdd, Int.reduceSub, Int.reduceEq, reduceIte, Nat.reduceBNe, Int.reducePow, Nat.reducePow, Int.reduceMul, Int.reduceNeg, isB_i, isB_b, isB_y, isBv_i, isBv_b, eqCells_t, TT]
    refine ⟨by omega, ?_⟩
    refine draw_of cx_ok (by kernel_rfl) 400 [1] [(0, true), (1, true), (2, true), (3, true), (4, false)] (by kernel_rfl) rfl ?_
    simp (maxSteps := 4000000) only [Try.results31, e4, e5, XX, Nat.reduceBEq, Nat.reduceLT, Nat.reduceAdd, Nat.reduceMul, Nat.reduceSub, Nat.reduceLeDiff, Nat.reduceEqDiff, Int.reduceToNat, Int.reduceLT, Int.reduceLE, Int.reduceAdd, Int.reduceSub, Int.reduceEq, reduceIte, Nat.reduceBNe, Int.reducePow, Nat.reducePow, Int.reduceMul, Int.reduceNeg, isB_i, isB_b, isB_y, isBv_i, isBv_b, eqCells_t, TT]
    exact ⟨by omega, r, rfl, _, _, rfl⟩
  exact key.wk fun q h' ⟨r, h1, a, b, h2⟩ => ⟨.tup [(true, fraC d s (k1.toNat * 256 + k0.toNat : Nat) (.sl 0 0 t.length (t.length + r))), (false, [i64 0])], [wB true (t ++ List.replicate r 0)], [some 1], rfl, by subst h2; simp only [XX, Nat.reduceBEq, Nat.reduceLT, Nat.reduceAdd, Nat.reduceMul, Nat.reduceSub, Nat.reduceLeDiff, Nat.reduceEqDiff, Int.reduceToNat, Int.reduceLT, Int.reduceLE, Int.reduceAdd, Int.reduceSub, Int.reduceEq, reduceIte, Nat.reduceBNe, Int.reducePow, Nat.reducePow, Int.reduceMul, Int.reduceNeg, isB_i, isB_b, isB_y, isBv_i, isBv_b, eqCells_t, TT, ids_bsC, ren_bsC, noRo_bsC, plain_bsC, lt_bsC, ids_byte, ren_byte, noRo_byte, plain_byte, lt_byte], by subst h1; simp only [XX, Nat.reduceBEq, Nat.reduceLT, Nat.reduceAdd, Nat.reduceMul, Nat.reduceSub, Nat.reduceLeDiff, Nat.reduceEqDiff, Int.reduceToNat, Int.reduceLT, Int.reduceLE, Int.reduceAdd, Int.reduceSub, Int.reduceEq, reduceIte, Nat.reduceBNe, Int.reducePow, Nat.reducePow, Int.reduceMul, Int.reduceNeg, isB_i, isB_b, isB_y, isBv_i, isBv_b, eqCells_t, TT, ids_bsC, ren_bsC, noRo_bsC, plain_bsC, lt_bsC, ids_byte, ren_byte, noRo_byte, plain_byte, lt_byte], r, rfl, rfl⟩
end Go.Proofs.Ythbojoiogjdbeaa.Sx
namespace Go.Proofs.Ythbojoiogjdbeaa.Sx
open Go
set_option linter.unusedSimpArgs false
set_option linter.unusedVariables false
set_option maxRecDepth 10000
set_option maxHeartbeats 1000000
def mineB (own d s : M6) : Bool := !s.group && (decide (d = own) || decide (d = .all))
theorem fmine_spec (own d s : M6) (k : Int) (x : SC) : Spec cx.P 32 [.agg (bsC own.l), .agg (fraC d s k x)] [] fun r _ => r.plain = true ∧ r = .c (bC (mineB own d s)) := by
  refine spec_of_X cx_ok Try.func32 rfl (by kernel_rfl) (by kernel_rfl) (Nat.le_of_ble_eq_true rfl) 400 5 ?_
  simp (maxSteps := 4000000) only [Try.results32, XX, Nat.reduceBEq, Nat.reduceLT, Nat.reduceAdd, Nat.reduceMul, Nat.reduceSub, Nat.reduceLeDiff, Nat.reduceEqDiff, Int.reduceToNat, Int.reduceLT, Int.reduceLE, Int.reduceAdd, Int.reduceSub, Int.reduceEq, reduceIte, Nat.reduceBNe, Int.reducePow, Nat.reducePow, Int.reduceMul, Int.reduceNeg, isB_i, isB_b, isB_y, isBv_i, isBv_b, eqCells_t, TT]
  refine draw_of cx_ok (by kernel_rfl) 400 [0, 1] [(0, true), (1, true), (2, false), (3, true), (4, true), (5, true), (6, true), (7, true), (8, true), (9, true), (10, true), (11, true), (12, false), (13, true), (14, true), (15, true), (16, true)] (by kernel_rfl) rfl ?_
  simp (maxSteps := 4000000) only [Try.results32, XX, Nat.reduceBEq, Nat.reduceLT, Nat.reduceAdd, Nat.reduceMul, Nat.reduceSub, Nat.reduceLeDiff, Nat.reduceEqDiff, Int.reduceToNat, Int.reduceLT, Int.reduceLE, Int.reduceAdd, Int.reduceSub, Int.reduceEq, reduceIte, Nat.reduceBNe, Int.reducePow, Nat.reducePow, Int.reduceMul, Int.reduceNeg, isB_i, isB_b, isB_y, isBv_i, isBv_b, eqCells_t, TT]
  refine call_plain (group_spec s) rfl ?_
  rintro _ rfl
  cases hg : s.group
  · simp (maxSteps := 4000000) only [Try.results32, hg, eqM, XX, Nat.reduceBEq, Nat.reduceLT, Nat.reduceAdd, Nat.reduceMul, Nat.reduceSub, Nat.reduceLeDiff, Nat.reduceEqDiff, Int.reduceToNat, Int.reduceLT, Int.reduceLE, Int.reduceAdd, Int.reduceSub, Int.reduceEq, reduceIte, Nat.reduceBNe, Int.reducePow, Nat.reducePow, Int.reduceMul, Int.reduceNeg, isB_i, isB_b, isB_y, isBv_i, isBv_b, eqCells_t, TT]
    cases hd : decide (d = own)
    · simp (maxSteps := 4000000) only [Try.results32, hd, eqM, XX, Nat.reduceBEq, Nat.reduceLT, Nat.reduceAdd, Nat.reduceMul, Nat.reduceSub, Nat.reduceLeDiff, Nat.reduceEqDiff, Int.reduceToNat, Int.reduceLT, Int.reduceLE, Int.reduceAdd, Int.reduceSub, Int.reduceEq, reduceIte, Nat.reduceBNe, Int.reducePow, Nat.reducePow, Int.reduceMul, Int.reduceNeg, isB_i, isB_b, isB_y, isBv_i, isBv_b, eqCells_t, TT]
      refine call_plain (every_spec) rfl ?_
      rintro _ rfl
      simp (maxSteps := 4000000) only [Try.results32, XX, Nat.reduceBEq, Nat.reduceLT, Nat.reduceAdd, Nat.reduceMul, Nat.reduceSub, Nat.reduceLeDiff, Nat.reduceEqDiff, Int.reduceToNat, Int.reduceLT, Int.reduceLE, Int.reduceAdd, Int.reduceSub, Int.reduceEq, reduceIte, Nat.reduceBNe, Int.reducePow, Nat.reducePow, Int.reduceMul, Int.reduceNeg, isB_i, isB_b, isB_y, isBv_i, isBv_b, eqCells_t, TT]
      simp (maxSteps := 4000000) only [Try.results32, hd, eqM d .all, XX, Nat.reduceBEq, Nat.reduceLT, Nat.reduceAdd, Nat.reduceMul, Nat.reduceSub, Nat.reduceLeDiff, Nat.reduceEqDiff, Int.reduceToNat, Int.reduceLT, Int.reduceLE, Int.reduceAdd, Int.reduceSub, Int.reduceEq, reduceIte, Nat.reduceBNe, Int.reducePow, Nat.reducePow, Int.reduceMul, Int.reduceNeg, isB_i, isB_b, isB_y, isBv_i, isBv_b, eqCells_t, TT]
      rw [mineB, hg, hd]; rfl
    · simp (maxSteps := 4000000) only [Try.results32, hd, eqM, XX, Nat.reduceBEq, Nat.reduceLT, Nat.reduceAdd, Nat.reduceMul, Nat.reduceSub, Nat.reduceLeDiff, Nat.reduceEqDiff, Int.reduceToNat, Int.reduceLT, Int.reduceLE, Int.reduceAdd, Int.reduceSub, Int.reduceEq, reduceIte, Nat.reduceBNe, Int.reducePow, Nat.reducePow, Int.reduceMul, Int.reduceNeg, isB_i, isB_b, isB_y, isBv_i, isBv_b, eqCells_t, TT]
      rw [mineB, hg, hd]; rfl
  · simp (maxSteps := 4000000) only [Try.results32, hg, XX, Nat.reduceBEq, Nat.reduceLT, Nat.reduceAdd, Nat.reduceMul, Nat.reduceSub, Nat.reduceLeDiff, Nat.reduceEqDiff, Int.reduceToNat, Int.reduceLT, Int.reduceLE, Int.reduceAdd, Int.reduceSub, Int.reduceEq, reduceIte, Nat.reduceBNe, Int.reducePow, Nat.reducePow, Int.reduceMul, Int.reduceNeg, isB_i, isB_b, isB_y, isBv_i, isBv_b, eqCells_t, TT]
    rw [mineB, hg]; rfl
theorem rmine_spec (own d s : M6) (k : Int) (x : SC) : Spec cx.P 12 [.agg (bsC own.l), .agg (fraC d s k x)] [] fun r _ => r.plain = true ∧ r = .c (bC (mineB own d s)) := by
  refine spec_of_X cx_ok Try.func12 rfl (by kernel_rfl) (by kernel_rfl) (Nat.le_of_ble_eq_true rfl) 400 7 ?_
  simp (maxSteps := 4000000) only [Try.results12, XX, Nat.reduceBEq, Nat.reduceLT, Nat.reduceAdd, Nat.reduceMul, Nat.reduceSub, Nat.reduceLeDiff, Nat.reduceEqDiff, Int.reduceToNat, Int.reduceLT, Int.reduceLE, Int.reduceAdd, Int.reduceSub, Int.reduceEq, reduceIte, Nat.reduceBNe, Int.reducePow, Nat.reducePow, Int.reduceMul, Int.reduceNeg, isB_i, isB_b, isB_y, isBv_i, isBv_b, eqCells_t, TT]
  refine call_plain (rgroup_spec s) rfl ?_
  rintro _ rfl
  simp (maxSteps := 4000000) only [Try.results12, XX, Nat.reduceBEq, Nat.reduceLT, Nat.reduceAdd, Nat.reduceMul, Nat.reduceSub, Nat.reduceLeDiff, Nat.reduceEqDiff, Int.reduceToNat, Int.reduceLT, Int.reduceLE, Int.reduceAdd, Int.reduceSub, Int.reduceEq, reduceIte, Nat.reduceBNe, Int.reducePow, Nat.reducePow, Int.reduceMul, Int.reduceNeg, isB_i, isB_b, isB_y, isBv_i, isBv_b, eqCells_t, TT]
  refine call_plain (revery_spec) rfl ?_
  rintro _ rfl
  simp (maxSteps := 4000000) only [Try.results12, XX, Nat.reduceBEq, Nat.reduceLT, Nat.reduceAdd, Nat.reduceMul, Nat.reduceSub, Nat.reduceLeDiff, Nat.reduceEqDiff, Int.reduceToNat, Int.reduceLT, Int.reduceLE, Int.reduceAdd, Int.reduceSub, Int.reduceEq, reduceIte, Nat.reduceBNe, Int.reducePow, Nat.reducePow, Int.reduceMul, Int.reduceNeg, isB_i, isB_b, isB_y, isBv_i, isBv_b, eqCells_t, TT]
  cases hg : s.group
  · simp (maxSteps := 4000000) only [Try.results12, hg, eqM, XX, Nat.reduceBEq, Nat.reduceLT, Nat.reduceAdd, Nat.reduceMul, Nat.reduceSub, Nat.reduceLeDiff, Nat.reduceEqDiff, Int.reduceToNat, Int.reduceLT, Int.reduceLE, Int.reduceAdd, Int.reduceSub, Int.reduceEq, reduceIte, Nat.reduceBNe, Int.reducePow, Nat.reducePow, Int.reduceMul, Int.reduceNeg, isB_i, isB_b, isB_y, isBv_i, isBv_b, eqCells_t, TT]
    cases hd : decide (d = own)
    · simp (maxSteps := 4000000) only [Try.results12, hd, eqM d .all, XX, Nat.reduceBEq, Nat.reduceLT, Nat.reduceAdd, Nat.reduceMul, Nat.reduceSub, Nat.reduceLeDiff, Nat.reduceEqDiff, Int.reduceToNat, Int.reduceLT, Int.reduceLE, Int.reduceAdd, Int.reduceSub, Int.reduceEq, reduceIte, Nat.reduceBNe, Int.reducePow, Nat.reducePow, Int.reduceMul, Int.reduceNeg, isB_i, isB_b, isB_y, isBv_i, isBv_b, eqCells_t, TT]
      rw [mineB, hg, hd]; rfl
    · simp (maxSteps := 4000000) only [Try.results12, hd, XX, Nat.reduceBEq, Nat.reduceLT, Nat.reduceAdd, Nat.reduceMul, Nat.reduceSub, Nat.reduceLeDiff, Nat.reduceEqDiff, Int.reduceToNat, Int.reduceLT, Int.reduceLE, Int.reduceAdd, Int.reduceSub, Int.reduceEq, reduceIte, Nat.reduceBNe, Int.reducePow, Nat.reducePow, Int.reduceMul, Int.reduceNeg, isB_i, isB_b, isB_y, isBv_i, isBv_b, eqCells_t, TT]
      rw [mineB, hg, hd]; rfl
  · simp (maxSteps := 4000000) only [Try.results12, hg, XX, Nat.reduceBEq, Nat.reduceLT, Nat.reduceAdd, Nat.reduceMul, Nat.reduceSub, Nat.reduceLeDiff, Nat.reduceEqDiff, Int.reduceToNat, Int.reduceLT, Int.reduceLE, Int.reduceAdd, Int.reduceSub, Int.reduceEq, reduceIte, Nat.reduceBNe, Int.reducePow, Nat.reducePow, Int.reduceMul, Int.reduceNeg, isB_i, isB_b, isB_y, isBv_i, isBv_b, eqCells_t, TT]
    rw [mineB, hg]; rfl
end Go.Proofs.Ythbojoiogjdbeaa.Sx
namespace Go.Proofs.Ythbojoiogjdbeaa.Sx
open Go
set_option linter.unusedSimpArgs false
set_option linter.unusedVariables false
set_option maxRecDepth 10000
set_option maxHeartbeats 1000000
theorem rsealK_spec (d s : M6) (k : Int) (x : SC) (hk : k < 1536 ∨ 65535 < k) : Spec cx.P 15 [.agg (fraC d s k x)] [] fun s _ => s.plain = true ∧ s = .tup [(false, [noC]), (false, [i64 30])] := by
  refine spec_of_X cx_ok Try.func15 rfl (by kernel_rfl) (by kernel_rfl) (Nat.le_of_ble_eq_true rfl) 400 8 ?_
  simp (maxSteps := 4000000) only [Try.results15, XX, Nat.reduceBEq, Nat.reduceLT, Nat.reduceAdd, Nat.reduceMul, Nat.reduceSub, Nat.reduceLeDiff, Nat.reduceEqDiff, Int.reduceToNat, Int.reduceLT, Int.reduceLE, Int.reduceAdd, Int.reduceSub, Int.reduceEq, reduceIte, Nat.reduceBNe, Int.reducePow, Nat.reducePow, Int.reduceMul, Int.reduceNeg, isB_i, isB_b, isB_y, isBv_i, isBv_b, eqCells_t, TT]
  by_cases h1 : k < 1536
  · have d0 : decide (k < 1536) = true := by simpa using h1
    simp (maxSteps := 4000000) only [Try.results15, d0, XX, Nat.reduceBEq, Nat.reduceLT, Nat.reduceAdd, Nat.reduceMul, Nat.reduceSub, Nat.reduceLeDiff, Nat.reduceEqDiff, Int.reduceToNat, Int.reduceLT, Int.reduceLE, Int.reduceAdd, Int.reduceSub, Int.reduceEq, reduceIte, Nat.reduceBNe, Int.reducePow, Nat.reducePow, Int.reduceMul, Int.reduceNeg, isB_i, isB_b, isB_y, isBv_i, isBv_b, eqCells_t, TT]
  · have d0 : decide (k < 1536) = false := by simpa using h1
    have d2 : decide (65535 < k) = true := by simp; omega
    simp (maxSteps := 4000000) only [Try.results15, d0, d2, XX, Nat.reduceBEq, Nat.reduceLT, Nat.reduceAdd, Nat.reduceMul, Nat.reduceSub, Nat.reduceLeDiff, Nat.reduceEqDiff, Int.reduceToNat, Int.reduceLT, Int.reduceLE, Int.reduceAdd, Int.reduceSub, Int.reduceEq, reduceIte, Nat.reduceBNe, Int.reducePow, Nat.reducePow, Int.reduceMul, Int.reduceNeg, isB_i, isB_b, isB_y, isBv_i, isBv_b, eqCells_t, TT]
theorem rsealL_spec (d s : M6) (k : Int) (l sp : List UInt8) (c : Nat) (hk : 1536 ≤ k) (hk' : k ≤ 65535) (hl : 1500 < l.length) : Spec cx.P 15 [.agg (fraC d s k (roB l sp c))] [] fun s _ => s.plain = true ∧ s = .tup [(false, [noC]), (false, [i64 2])] := by
  have d0 : decide (k < 1536) = false := by simpa using hk
  have d2 : decide (65535 < k) = false := by simp; omega
  have d3 : decide (1500 < (l.length : Int)) = true := by simp; omega
  refine spec_of_X cx_ok Try.func15 rfl (by kernel_rfl) (by kernel_rfl) (Nat.le_of_ble_eq_true rfl) 400 8 ?_
  simp (maxSteps := 4000000) only [Try.results15, XX, Nat.reduceBEq, Nat.reduceLT, Nat.reduceAdd, Nat.reduceMul, Nat.reduceSub, Nat.reduceLeDiff, Nat.reduceEqDiff, Int.reduceToNat, Int.reduceLT, Int.reduceLE, Int.reduceAdd, Int.reduceSub, Int.reduceEq, reduceIte, Nat.reduceBNe, Int.reducePow, Nat.reducePow, Int.reduceMul, Int.reduceNeg, isB_i, isB_b, isB_y, isBv_i, isBv_b, eqCells_t, TT]
  simp (maxSteps := 4000000) only [Try.results15, d0, d2, d3, XX, Nat.reduceBEq, Nat.reduceLT, Nat.reduceAdd, Nat.reduceMul, Nat.reduceSub, Nat.reduceLeDiff, Nat.reduceEqDiff, Int.reduceToNat, Int.reduceLT, Int.reduceLE, Int.reduceAdd, Int.reduceSub, Int.reduceEq, reduceIte, Nat.reduceBNe, Int.reducePow, Nat.reducePow, Int.reduceMul, Int.reduceNeg, isB_i, isB_b, isB_y, isBv_i, isBv_b, eqCells_t, TT]
theorem m6_at (m : M6) (i : Nat) (hi : i < 6) (r : List SC) : (byteC m.a :: byteC m.b :: byteC m.c :: byteC m.d :: byteC m.e :: byteC m.f :: r).getD i .any = byteC (m.l.getD i 0) := by
  match i, hi with
  | 0, _ => rfl
  | 1, _ => rfl
  | 2, _ => rfl
  | 3, _ => rfl
  | 4, _ => rfl
  | 5, _ => rfl
theorem rseal_spec (d s : M6) (k : Nat) (l sp : List UInt8) (c : Nat) (hk : 1536 ≤ k) (hk' : k ≤ 65535) (hl : l.length ≤ 1500) : Spec cx.P 15 [.agg (fraC d s k (roB l sp c))] [] (resB (sealL d s k l) 0) := by
  have d0 : decide ((k : Int) < 1536) = false := by simp; omega
  have d2 : decide (65535 < (k : Int)) = false := by simp; omega
  have d3 : decide (1500 < (l.length : Int)) = false := by simp; omega
  have aD : ∀ i, i < 6 → (fraC d s k (roB l sp c)).getD i .any = byteC (d.l.getD i 0) := fun i hi => m6_at d i hi _
  have aS : ∀ i, i < 6 → (fraC d s k (roB l sp c)).getD (6 + i) .any = byteC (s.l.getD i 0) := fun i hi => by rw [Nat.add_comm]; exact m6_at s i hi _
  have lD : d.l.length = 6 := rfl
  have lS : s.l.length = 6 := rfl
  have hE := rput2_spec k (by omega)
  have lE : (be2 k).length = 2 := rfl
  have eL : sealL d s k l = d.l ++ s.l ++ be2 k ++ l ++ List.replicate (46 - l.length) 0 := (List.append_assoc _ _ _).symm
  generalize d.l = D at aD lD eL
  generalize s.l = S at aS lS eL
  generalize be2 k = E at hE lE eL
  generalize sealL d s k l = L at eL ⊢
  refine resB_of ?_
  refine spec_of_X cx_ok Try.func15 rfl (by kernel_rfl) (by kernel_rfl) (Nat.le_of_ble_eq_true rfl) 400 8 ?_
  simp (maxSteps := 4000000) only [Try.results15, XX, Nat.reduceBEq, Nat.reduceLT, Nat.reduceAdd, Nat.reduceMul, Nat.reduceSub, Nat.reduceLeDiff, Nat.reduceEqDiff, Int.reduceToNat, Int.reduceLT, Int.reduceLE, Int.reduceAdd, Int.reduceSub, Int.reduceEq, reduceIte, Nat.reduceBNe, Int.reducePow, Nat.reducePow, Int.reduceMul, Int.reduceNeg, isB_i, isB_b, isB_y, isBv_i, isBv_b, eqCells_t, TT]
  simp (maxSteps := 4000000) only [Try.results15, d0, d2, d3, XX, Nat.reduceBEq, Nat.reduceLT, Nat.reduceAdd, Nat.reduceMul, Nat.reduceSub, Nat.reduceLeDiff, Nat.reduceEqDiff, Int.reduceToNat, Int.reduceLT, Int.reduceLE, Int.reduceAdd, Int.reduceSub, Int.reduceEq, reduceIte, Nat.reduceBNe, Int.reducePow, Nat.reducePow, Int.reduceMul, Int.reduceNeg, isB_i, isB_b, isB_y, isBv_i, isBv_b, eqCells_t, TT]
  refine loop_any cx_ok 400 (fun μ σ => ∃ (i : Nat) (H : List SB) (w : Nat) (o : Bool) (z : List UInt8), μ = 6 - i ∧ i ≤ 6 ∧ H[0]? = some ⟨true, 40, fraC d s k (roB l sp c)⟩ ∧ w ≠ 0 ∧ Buf H w o (D.take i) z ∧
      σ = ⟨⟨8, 0⟩, [(1, .c (.ptr 0 0)), (4, .c (.sl w 0 i (i + z.length))), (5, .c (i64 i))], H⟩) 6
    ⟨⟨8, 0⟩, [(1, .c (.ptr 0 0)), (4, .c (.sl 1 0 0 0)), (5, .c (i64 (0 : Nat)))], [⟨true, 40, fraC d s k (roB l sp c)⟩, wB false []]⟩ ⟨0, _, 1, false, [], rfl, Nat.zero_le _, rfl, by decide, ⟨by rw [List.take_zero]; rfl, fun h => absurd h (by simp)⟩, rfl⟩
    (.inr ⟨[some 0, none], rfl, rfl, by simp only [XX, Nat.reduceBEq, Nat.reduceLT, Nat.reduceAdd, Nat.reduceMul, Nat.reduceSub, Nat.reduceLeDiff, Nat.reduceEqDiff, Int.reduceToNat, Int.reduceLT, Int.reduceLE, Int.reduceAdd, Int.reduceSub, Int.reduceEq, reduceIte, Nat.reduceBNe, Int.reducePow, Nat.reducePow, Int.reduceMul, Int.reduceNeg, isB_i, isB_b, isB_y, isBv_i, isBv_b, eqCells_t, TT, ids_bsC, ren_bsC, noRo_bsC, plain_bsC, lt_bsC, ids_byte, ren_byte, noRo_byte, plain_byte, lt_byte], ⟨.inl ⟨rfl, rfl⟩, wk_nil, .inl ⟨rfl, rfl⟩, trivial⟩⟩) ?_
  rintro μ σ ⟨i, H, w, o, z, rfl, hi, hF, hw, B, rfl⟩
  by_cases hlt : i < 6
  · have hd : decide ((i : Int) < 6) = true := by simp only [decide_eq_true_eq]; omega
    have e3 : IntKind.i64.wrap ((i : Int) + 1) = ((i + 1 : Nat) : Int) := by rw [w64] <;> omega
    have hn : (D.take i).length = i := by simp; omega
    simp (maxSteps := 4000000) only [Try.results15, hd, hF, aD i hlt, B.at_, lt_of B.at_, lt_of hF, List.append_assoc, List.getElem?_append_left, List.getElem?_append_right, List.length_append, List.length_set, List.set_append_left, gset, List.getElem?_set_ne, Nat.add_sub_cancel_left, Nat.sub_self, Nat.le_refl, Nat.le_add_right, List.replicate_one, List.flatten_cons, List.flatten_nil, rep_flat, XX, Nat.reduceBEq, Nat.reduceLT, Nat.reduceAdd, Nat.reduceMul, Nat.reduceSub, Nat.reduceLeDiff, Nat.reduceEqDiff, Int.reduceToNat, Int.reduceLT, Int.reduceLE, Int.reduceAdd, Int.reduceSub, Int.reduceEq, reduceIte, Nat.reduceBNe, Int.reducePow, Nat.reducePow, Int.reduceMul, Int.reduceNeg, isB_i, isB_b, isB_y, isBv_i, isBv_b, eqCells_t, TT]
    refine ⟨⟨by omega, by omega⟩, by omega, ⟨⟨by omega, by unfold maxLen; omega, by simp; omega, fun h => ⟨B.own (by omega), by simp; omega⟩⟩, ?_⟩⟩
    refine xapp_one B hn rfl rfl fun H' w' z' B' h1 h2 h3 => ?_
    simp (maxSteps := 4000000) only [Try.results15, e3, XX, Nat.reduceBEq, Nat.reduceLT, Nat.reduceAdd, Nat.reduceMul, Nat.reduceSub, Nat.reduceLeDiff, Nat.reduceEqDiff, Int.reduceToNat, Int.reduceLT, Int.reduceLE, Int.reduceAdd, Int.reduceSub, Int.reduceEq, reduceIte, Nat.reduceBNe, Int.reducePow, Nat.reducePow, Int.reduceMul, Int.reduceNeg, isB_i, isB_b, isB_y, isBv_i, isBv_b, eqCells_t, TT]
    have hF' : H'[0]? = some ⟨true, 40, fraC d s k (roB l sp c)⟩ := (h2 0 (lt_of hF) hw.symm).trans hF
    rw [take_next D i (by omega)] at B' ⊢
    refine ⟨6 - (i + 1), by omega, _, ⟨i + 1, H', w', true, z', rfl, by omega, hF', by have := lt_of hF; omega, B', rfl⟩, .inl ⟨rfl, rfl, rfl, ?_, rfl, trivial⟩⟩
    have hn' : (D.take (i + 1)).length = i + 1 := by simp; omega
    simp only [XX, Nat.reduceBEq, Nat.reduceLT, Nat.reduceAdd, Nat.reduceMul, Nat.reduceSub, Nat.reduceLeDiff, Nat.reduceEqDiff, Int.reduceToNat, Int.reduceLT, Int.reduceLE, Int.reduceAdd, Int.reduceSub, Int.reduceEq, reduceIte, Nat.reduceBNe, Int.reducePow, Nat.reducePow, Int.reduceMul, Int.reduceNeg, isB_i, isB_b, isB_y, isBv_i, isBv_b, eqCells_t, TT, slB, hn']
  obtain rfl : i = 6 := by omega
  simp (maxSteps := 4000000) only [Try.results15, XX, Nat.reduceBEq, Nat.reduceLT, Nat.reduceAdd, Nat.reduceMul, Nat.reduceSub, Nat.reduceLeDiff, Nat.reduceEqDiff, Int.reduceToNat, Int.reduceLT, Int.reduceLE, Int.reduceAdd, Int.reduceSub, Int.reduceEq, reduceIte, Nat.reduceBNe, Int.reducePow, Nat.reducePow, Int.reduceMul, Int.reduceNeg, isB_i, isB_b, isB_y, isBv_i, isBv_b, eqCells_t, TT]
  have hn6 : (D.take 6).length = 6 := by simp; omega
  have ho := B.own (by rw [hn6]; omega)
  subst ho
  rw [List.take_of_length_le (by omega)] at B
  refine loop_any cx_ok 400 (fun μ σ => ∃ (i : Nat) (H : List SB) (w : Nat) (z : List UInt8), μ = 6 - i ∧ i ≤ 6 ∧ H[0]? = some ⟨true, 40, fraC d s k (roB l sp c)⟩ ∧ w ≠ 0 ∧ Buf H w true (D ++ S.take i) z ∧
      σ = ⟨⟨8, 0⟩, [(1, .c (.ptr 0 0)), (4, .c (.sl w 0 (6 + i) (6 + i + z.length))), (6, .c (i64 i))], H⟩) 6
    ⟨⟨8, 0⟩, [(1, .c (.ptr 0 0)), (4, .c (.sl w 0 (6 + 0) (6 + 0 + z.length))), (6, .c (i64 (0 : Nat)))], H⟩ ⟨0, _, w, z, rfl, Nat.zero_le _, hF, hw, by rw [List.take_zero, List.append_nil]; exact B, rfl⟩
    (.inl ⟨rfl, rfl, rfl, rfl, rfl, trivial⟩) ?_
  rintro μ σ ⟨i, H, w, z, rfl, hi, hF, hw, B, rfl⟩
  by_cases hlt : i < 6
  · have hd : decide ((i : Int) < 6) = true := by simp only [decide_eq_true_eq]; omega
    have e3 : IntKind.i64.wrap ((i : Int) + 1) = ((i + 1 : Nat) : Int) := by rw [w64] <;> omega
    have hn : (D ++ S.take i).length = 6 + i := by simp; omega
    obtain ⟨DS, hDS⟩ : ∃ DS, DS = D ++ S.take i := ⟨_, rfl⟩
    rw [← hDS] at B hn
    simp (maxSteps := 4000000) only [Try.results15, hd, hF, aS i hlt, B.at_, lt_of B.at_, lt_of hF, List.append_assoc, List.getElem?_append_left, List.getElem?_append_right, List.length_append, List.length_set, List.set_append_left, gset, List.getElem?_set_ne, Nat.add_sub_cancel_left, Nat.sub_self, Nat.le_refl, Nat.le_add_right, List.replicate_one, List.flatten_cons, List.flatten_nil, rep_flat, XX, Nat.reduceBEq, Nat.reduceLT, Nat.reduceAdd, Nat.reduceMul, Nat.reduceSub, Nat.reduceLeDiff, Nat.reduceEqDiff, Int.reduceToNat, Int.reduceLT, Int.reduceLE, Int.reduceAdd, Int.reduceSub, Int.reduceEq, reduceIte, Nat.reduceBNe, Int.reducePow, Nat.reducePow, Int.reduceMul, Int.reduceNeg, isB_i, isB_b, isB_y, isBv_i, isBv_b, eqCells_t, TT]
    refine ⟨⟨by omega, by omega⟩, by omega, ⟨⟨by omega, by unfold maxLen; omega, by simp; omega, fun h => by simp; omega⟩, ?_⟩⟩
    refine xapp_one B hn rfl rfl fun H' w' z' B' h1 h2 h3 => ?_
    simp (maxSteps := 4000000) only [Try.results15, e3, XX, Nat.reduceBEq, Nat.reduceLT, Nat.reduceAdd, Nat.reduceMul, Nat.reduceSub, Nat.reduceLeDiff, Nat.reduceEqDiff, Int.reduceToNat, Int.reduceLT, Int.reduceLE, Int.reduceAdd, Int.reduceSub, Int.reduceEq, reduceIte, Nat.reduceBNe, Int.reducePow, Nat.reducePow, Int.reduceMul, Int.reduceNeg, isB_i, isB_b, isB_y, isBv_i, isBv_b, eqCells_t, TT]
    have hF' : H'[0]? = some ⟨true, 40, fraC d s k (roB l sp c)⟩ := (h2 0 (lt_of hF) hw.symm).trans hF
    rw [hDS, List.append_assoc, take_next S i (by omega)] at B' ⊢
    refine ⟨6 - (i + 1), by omega, _, ⟨i + 1, H', w', z', rfl, by omega, hF', by have := lt_of hF; omega, B', rfl⟩, .inl ⟨rfl, rfl, rfl, ?_, rfl, trivial⟩⟩
    have hn' : (D ++ S.take (i + 1)).length = 6 + (i + 1) := by simp; omega
    simp only [XX, Nat.reduceBEq, Nat.reduceLT, Nat.reduceAdd, Nat.reduceMul, Nat.reduceSub, Nat.reduceLeDiff, Nat.reduceEqDiff, Int.reduceToNat, Int.reduceLT, Int.reduceLE, Int.reduceAdd, Int.reduceSub, Int.reduceEq, reduceIte, Nat.reduceBNe, Int.reducePow, Nat.reducePow, Int.reduceMul, Int.reduceNeg, isB_i, isB_b, isB_y, isBv_i, isBv_b, eqCells_t, TT, slB, hn']
  obtain rfl : i = 6 := by omega
  rw [show S.take 6 = S from List.take_of_length_le (by omega)] at B
  have m4 : IntKind.u64.wrap (k : Int) = (k : Int) := by rw [wu64] <;> omega
  have hn : (D ++ S).length = 12 := by simp; omega
  generalize D ++ S = DS at B hn eL
  simp (maxSteps := 4000000) only [Try.results15, hF, m4, XX, Nat.reduceBEq, Nat.reduceLT, Nat.reduceAdd, Nat.reduceMul, Nat.reduceSub, Nat.reduceLeDiff, Nat.reduceEqDiff, Int.reduceToNat, Int.reduceLT, Int.reduceLE, Int.reduceAdd, Int.reduceSub, Int.reduceEq, reduceIte, Nat.reduceBNe, Int.reducePow, Nat.reducePow, Int.reduceMul, Int.reduceNeg, isB_i, isB_b, isB_y, isBv_i, isBv_b, eqCells_t, TT]
  refine call_frame (hE) [] rfl rfl trivial rfl rfl ?_
  rintro _ _ ⟨rfl, rfl⟩
  have tE : (bsC E).take 2 = bsC E := List.take_of_length_le (by simp; omega)
  have lE' : (bsC E).length = 2 := by simp [lE]
  simp (maxSteps := 4000000) only [Try.results15, ids_bsC, ren_bsC, noRo_bsC, plain_bsC, lt_bsC, ids_byte, ren_byte, noRo_byte, plain_byte, lt_byte, B.at_, lt_of B.at_, tE, lE', List.append_assoc, List.getElem?_append_left, List.getElem?_append_right, List.length_append, List.length_set, List.set_append_left, gset, List.getElem?_set_ne, Nat.add_sub_cancel_left, Nat.sub_self, Nat.le_refl, Nat.le_add_right, List.replicate_one, List.flatten_cons, List.flatten_nil, rep_flat, XX, Nat.reduceBEq, Nat.reduceLT, Nat.reduceAdd, Nat.reduceMul, Nat.reduceSub, Nat.reduceLeDiff, Nat.reduceEqDiff, Int.reduceToNat, Int.reduceLT, Int.reduceLE, Int.reduceAdd, Int.reduceSub, Int.reduceEq, reduceIte, Nat.reduceBNe, Int.reducePow, Nat.reducePow, Int.reduceMul, Int.reduceNeg, isB_i, isB_b, isB_y, isBv_i, isBv_b, eqCells_t, TT]
  refine ⟨⟨by unfold maxLen; omega, by simp; omega, fun h => by simp; omega⟩, ?_⟩
  refine xapp_more B hn lE rfl rfl (by omega) fun H' w' z' B' h1 h2 h3 => ?_
  have hF' : H'[0]? = some ⟨true, 40, fraC d s k (roB l sp c)⟩ := (h2 0 (lt_of hF) hw.symm).trans hF
  have hw' : w' ≠ 0 := by have := lt_of hF; omega
  clear h2 h1 h3 hF hw B
  have hn' : (DS ++ E).length = 14 := by simp; omega
  have m9 : (bsR (l ++ sp)).take l.length = bsR l := by rw [rs_take, List.take_left' rfl]
  have m10 : (bsR l).map RC.toSC = bsC l := bsR_toSC l
  generalize DS ++ E = DE at B' hn' eL
  simp only [slB, hn']
  simp (maxSteps := 4000000) only [Try.results15, hF', B'.at_, lt_of B'.at_, m9, m10, bsC_len, List.append_assoc, List.getElem?_append_left, List.getElem?_append_right, List.length_append, List.length_set, List.set_append_left, gset, List.getElem?_set_ne, Nat.add_sub_cancel_left, Nat.sub_self, Nat.le_refl, Nat.le_add_right, List.replicate_one, List.flatten_cons, List.flatten_nil, rep_flat, XX, Nat.reduceBEq, Nat.reduceLT, Nat.reduceAdd, Nat.reduceMul, Nat.reduceSub, Nat.reduceLeDiff, Nat.reduceEqDiff, Int.reduceToNat, Int.reduceLT, Int.reduceLE, Int.reduceAdd, Int.reduceSub, Int.reduceEq, reduceIte, Nat.reduceBNe, Int.reducePow, Nat.reducePow, Int.reduceMul, Int.reduceNeg, isB_i, isB_b, isB_y, isBv_i, isBv_b, eqCells_t, TT]
  refine ⟨⟨⟨by omega, by unfold maxLen; omega, by omega, fun h => by omega⟩, by simp⟩, ?_⟩
  refine xapp_more0 B' hn' rfl rfl rfl (by omega) fun H w z B h1 h2 h3 => ?_
  clear h2 h1 h3
  have hn2 : (DE ++ l).length = 14 + l.length := by simp; omega
  generalize DE ++ l = DL at B hn2 eL
  simp only [slB, hn2]
  simp (maxSteps := 4000000) only [Try.results15, XX, Nat.reduceBEq, Nat.reduceLT, Nat.reduceAdd, Nat.reduceMul, Nat.reduceSub, Nat.reduceLeDiff, Nat.reduceEqDiff, Int.reduceToNat, Int.reduceLT, Int.reduceLE, Int.reduceAdd, Int.reduceSub, Int.reduceEq, reduceIte, Nat.reduceBNe, Int.reducePow, Nat.reducePow, Int.reduceMul, Int.reduceNeg, isB_i, isB_b, isB_y, isBv_i, isBv_b, eqCells_t, TT]
  refine loop_any cx_ok 400 (fun μ σ => ∃ (i : Nat) (H : List SB) (w : Nat) (z : List UInt8), μ = 46 - l.length - i ∧ i ≤ 46 - l.length ∧ Buf H w true (DL ++ List.replicate i 0) z ∧
      σ = ⟨⟨8, 0⟩, [(4, .c (.sl w 0 (14 + l.length + i) (14 + l.length + i + z.length)))], H⟩) (46 - l.length)
    ⟨⟨8, 0⟩, [(4, .c (.sl w 0 (14 + l.length + 0) (14 + l.length + 0 + z.length)))], H⟩ ⟨0, _, w, z, rfl, Nat.zero_le _, by rw [List.replicate_zero, List.append_nil]; exact B, rfl⟩
    (.inl ⟨rfl, rfl, rfl, trivial⟩) ?_
  clear B
  rintro μ σ ⟨i, H, w, z, rfl, hi, B, rfl⟩
  have hn3 : (DL ++ List.replicate i 0).length = 14 + l.length + i := by simp; omega
  have hn4 : (DL ++ List.replicate (i + 1) 0).length = 14 + l.length + (i + 1) := by simp; omega
  have hn5 : DL ++ List.replicate (i + 1) 0 = DL ++ List.replicate i 0 ++ [0] := by rw [List.append_assoc, ← List.replicate_succ']
  by_cases hlt : i < 46 - l.length
  · have hd : decide (((14 + l.length + i : Nat) : Int) < 60) = true := by simp only [decide_eq_true_eq]; omega
    have b0 : SC.v (.int .u8 0) = byteC 0 := rfl
    generalize DL ++ List.replicate i 0 = M at B hn3 hn5
    simp (maxSteps := 4000000) only [Try.results15, hd, B.at_, lt_of B.at_, b0, List.append_assoc, List.getElem?_append_left, List.getElem?_append_right, List.length_append, List.length_set, List.set_append_left, gset, List.getElem?_set_ne, Nat.add_sub_cancel_left, Nat.sub_self, Nat.le_refl, Nat.le_add_right, List.replicate_one, List.flatten_cons, List.flatten_nil, rep_flat, XX, Nat.reduceBEq, Nat.reduceLT, Nat.reduceAdd, Nat.reduceMul, Nat.reduceSub, Nat.reduceLeDiff, Nat.reduceEqDiff, Int.reduceToNat, Int.reduceLT, Int.reduceLE, Int.reduceAdd, Int.reduceSub, Int.reduceEq, reduceIte, Nat.reduceBNe, Int.reducePow, Nat.reducePow, Int.reduceMul, Int.reduceNeg, isB_i, isB_b, isB_y, isBv_i, isBv_b, eqCells_t, TT]
    refine ⟨⟨by omega, by unfold maxLen; omega, by simp; omega, fun h => by simp; omega⟩, ?_⟩
    refine xapp_one B hn3 rfl rfl fun H' w' z' B' h1 h2 h3 => ?_
    rw [← hn5] at B' ⊢
    simp (maxSteps := 4000000) only [Try.results15, XX, Nat.reduceBEq, Nat.reduceLT, Nat.reduceAdd, Nat.reduceMul, Nat.reduceSub, Nat.reduceLeDiff, Nat.reduceEqDiff, Int.reduceToNat, Int.reduceLT, Int.reduceLE, Int.reduceAdd, Int.reduceSub, Int.reduceEq, reduceIte, Nat.reduceBNe, Int.reducePow, Nat.reducePow, Int.reduceMul, Int.reduceNeg, isB_i, isB_b, isB_y, isBv_i, isBv_b, eqCells_t, TT]
    refine ⟨46 - l.length - (i + 1), by omega, _, ⟨i + 1, H', w', z', rfl, by omega, B', rfl⟩, .inl ⟨rfl, rfl, ?_, trivial⟩⟩
    simp only [XX, Nat.reduceBEq, Nat.reduceLT, Nat.reduceAdd, Nat.reduceMul, Nat.reduceSub, Nat.reduceLeDiff, Nat.reduceEqDiff, Int.reduceToNat, Int.reduceLT, Int.reduceLE, Int.reduceAdd, Int.reduceSub, Int.reduceEq, reduceIte, Nat.reduceBNe, Int.reducePow, Nat.reducePow, Int.reduceMul, Int.reduceNeg, isB_i, isB_b, isB_y, isBv_i, isBv_b, eqCells_t, TT, slB, hn4]
  have hd : decide (((14 + l.length + i : Nat) : Int) < 60) = false := by simp only [decide_eq_false_iff_not]; omega
  obtain rfl : i = 46 - l.length := by omega
  have eL2 : L = DL ++ List.replicate (46 - l.length) 0 := eL
  rw [← eL2] at B hn3
  simp (maxSteps := 4000000) only [Try.results15, hd, XX, Nat.reduceBEq, Nat.reduceLT, Nat.reduceAdd, Nat.reduceMul, Nat.reduceSub, Nat.reduceLeDiff, Nat.reduceEqDiff, Int.reduceToNat, Int.reduceLT, Int.reduceLE, Int.reduceAdd, Int.reduceSub, Int.reduceEq, reduceIte, Nat.reduceBNe, Int.reducePow, Nat.reducePow, Int.reduceMul, Int.reduceNeg, isB_i, isB_b, isB_y, isBv_i, isBv_b, eqCells_t, TT]
  exact ⟨w, z, true, by rw [hn3], B⟩
end Go.Proofs.Ythbojoiogjdbeaa.Sx
namespace Go.Proofs.Ythbojoiogjdbeaa.Sx
open Go
set_option linter.unusedSimpArgs false
set_option linter.unusedVariables false
set_option maxRecDepth 10000
set_option maxHeartbeats 1000000
theorem fra_fz {r : Nat → Nat} {n : Nat} {h : List SB} {ok : Nat → Bool} {fz : Bool} {d s : M6} {k : Int} {x y : SC} (hx : frC fz ok r n h x y) : frV fz ok r n h (.agg (fraC d s k x)) (.agg (fraC d s k y)) :=
  .inr (.inr ⟨_, _, rfl, rfl, .inl ⟨rfl, rfl⟩, .inl ⟨rfl, rfl⟩, .inl ⟨rfl, rfl⟩, .inl ⟨rfl, rfl⟩, .inl ⟨rfl, rfl⟩, .inl ⟨rfl, rfl⟩, .inl ⟨rfl, rfl⟩, .inl ⟨rfl, rfl⟩, .inl ⟨rfl, rfl⟩, .inl ⟨rfl, rfl⟩, .inl ⟨rfl, rfl⟩, .inl ⟨rfl, rfl⟩, .inl ⟨rfl, rfl⟩, hx, trivial⟩)
end Go.Proofs.Ythbojoiogjdbeaa.Sx
namespace Go.Proofs.Ythbojoiogjdbeaa.Sx
open Go
set_option linter.unusedSimpArgs false
set_option linter.unusedVariables false
set_option maxRecDepth 10000
set_option maxHeartbeats 2000000
/-- What sealing comes to: the bytes, the error. -/
def sealR (d s : M6) (k : Int) (l : List UInt8) : List UInt8 × Int := if k < 1536 ∨ 65535 < k then ([], 30) else if 1500 < l.length then ([], 2) else (sealL d s k.toNat l, 0)
theorem fsealA_spec (d s : M6) (k : Int) (l sp : List UInt8) (c : Nat) : Spec cx.P 56 [.agg (fraC d s k (roB l sp c))] [] (resB (sealR d s k l).1 (sealR d s k l).2) := by
  unfold sealR
  by_cases hk : k < 1536 ∨ 65535 < k
  · rw [if_pos hk]; exact resB_nil (fsealK_spec d s k _ hk)
  rw [if_neg hk]
  by_cases hl : 1500 < l.length
  · rw [if_pos hl]; exact resB_nil (fsealL_spec d s k l sp c (by omega) (by omega) hl)
  rw [if_neg hl]
  obtain ⟨m, rfl⟩ : ∃ m : Nat, k = m := ⟨k.toNat, by omega⟩
  exact (fseal_spec d s m l sp c (by omega) (by omega) (by omega)).mono fun t h' ⟨h1, h2⟩ => ⟨[], true, by subst h1; rfl, by subst h2; rw [List.append_nil]; rfl, fun _ => rfl⟩
theorem rsealA_spec (d s : M6) (k : Int) (l sp : List UInt8) (c : Nat) : Spec cx.P 15 [.agg (fraC d s k (roB l sp c))] [] (resB (sealR d s k l).1 (sealR d s k l).2) := by
  unfold sealR
  by_cases hk : k < 1536 ∨ 65535 < k
  · rw [if_pos hk]; exact resB_nil (rsealK_spec d s k _ hk)
  rw [if_neg hk]
  by_cases hl : 1500 < l.length
  · rw [if_pos hl]; exact resB_nil (rsealL_spec d s k l sp c (by omega) (by omega) hl)
  rw [if_neg hl]
  obtain ⟨m, rfl⟩ : ∃ m : Nat, k = m := ⟨k.toNat, by omega⟩
  exact rseal_spec d s m l sp c (by omega) (by omega) (by omega)
theorem resB_noRo {l : List UInt8} {e : Int} {t : SV} {h' : List SB} (h : resB l e t h') : t.noRo = true ∧ (h'.all fun b => b.cells.all SC.noRo) = true := by
  obtain ⟨sp, o, rfl, rfl, _⟩ := h
  exact ⟨rfl, by simp only [XX, Nat.reduceBEq, Nat.reduceLT, Nat.reduceAdd, Nat.reduceMul, Nat.reduceSub, Nat.reduceLeDiff, Nat.reduceEqDiff, Int.reduceToNat, Int.reduceLT, Int.reduceLE, Int.reduceAdd, Int.reduceSub, Int.reduceEq, reduceIte, Nat.reduceBNe, Int.reducePow, Nat.reducePow, Int.reduceMul, Int.reduceNeg, isB_i, isB_b, isB_y, isBv_i, isBv_b, eqCells_t, TT, ids_bsC, ren_bsC, noRo_bsC, plain_bsC, lt_bsC, ids_byte, ren_byte, noRo_byte, plain_byte, lt_byte]⟩
end Go.Proofs.Ythbojoiogjdbeaa.Sx
namespace Go.Proofs.Ythbojoiogjdbeaa.Sx
open Go
set_option linter.unusedSimpArgs false
set_option linter.unusedVariables false
set_option maxRecDepth 10000
set_option maxHeartbeats 2000000
theorem ropenS_spec (l sp : List UInt8) (c : Nat) (hl : l.length < 60) : Spec cx.P 11 [.c (roB l sp c)] [] fun s _ => s.plain = true ∧ s = errFr 5 := by
  have d0 : decide ((l.length : Int) < 60) = true := by simp only [decide_eq_true_eq]; omega
  refine spec_of_X cx_ok Try.func11 rfl (by kernel_rfl) (by kernel_rfl) (Nat.le_of_ble_eq_true rfl) 400 7 ?_
  simp (maxSteps := 4000000) only [Try.results11, XX, Nat.reduceBEq, Nat.reduceLT, Nat.reduceAdd, Nat.reduceMul, Nat.reduceSub, Nat.reduceLeDiff, Nat.reduceEqDiff, Int.reduceToNat, Int.reduceLT, Int.reduceLE, Int.reduceAdd, Int.reduceSub, Int.reduceEq, reduceIte, Nat.reduceBNe, Int.reducePow, Nat.reducePow, Int.reduceMul, Int.reduceNeg, isB_i, isB_b, isB_y, isBv_i, isBv_b, eqCells_t, TT]
  simp (maxSteps := 4000000) only [Try.results11, d0, XX, Nat.reduceBEq, Nat.reduceLT, Nat.reduceAdd, Nat.reduceMul, Nat.reduceSub, Nat.reduceLeDiff, Nat.reduceEqDiff, Int.reduceToNat, Int.reduceLT, Int.reduceLE, Int.reduceAdd, Int.reduceSub, Int.reduceEq, reduceIte, Nat.reduceBNe, Int.reducePow, Nat.reducePow, Int.reduceMul, Int.reduceNeg, isB_i, isB_b, isB_y, isBv_i, isBv_b, eqCells_t, TT]
  rfl
theorem ropenL_spec (l sp : List UInt8) (c : Nat) (hl : 1514 < l.length) : Spec cx.P 11 [.c (roB l sp c)] [] fun s _ => s.plain = true ∧ s = errFr 2 := by
  have d0 : decide ((l.length : Int) < 60) = false := by simp only [decide_eq_false_iff_not]; omega
  have d1 : decide (1514 < (l.length : Int)) = true := by simp only [decide_eq_true_eq]; omega
  refine spec_of_X cx_ok Try.func11 rfl (by kernel_rfl) (by kernel_rfl) (Nat.le_of_ble_eq_true rfl) 400 7 ?_
  simp (maxSteps := 4000000) only [Try.results11, XX, Nat.reduceBEq, Nat.reduceLT, Nat.reduceAdd, Nat.reduceMul, Nat.reduceSub, Nat.reduceLeDiff, Nat.reduceEqDiff, Int.reduceToNat, Int.reduceLT, Int.reduceLE, Int.reduceAdd, Int.reduceSub, Int.reduceEq, reduceIte, Nat.reduceBNe, Int.reducePow, Nat.reducePow, Int.reduceMul, Int.reduceNeg, isB_i, isB_b, isB_y, isBv_i, isBv_b, eqCells_t, TT]
  simp (maxSteps := 4000000) only [Try.results11, d0, d1, XX, Nat.reduceBEq, Nat.reduceLT, Nat.reduceAdd, Nat.reduceMul, Nat.reduceSub, Nat.reduceLeDiff, Nat.reduceEqDiff, Int.reduceToNat, Int.reduceLT, Int.reduceLE, Int.reduceAdd, Int.reduceSub, Int.reduceEq, reduceIte, Nat.reduceBNe, Int.reducePow, Nat.reducePow, Int.reduceMul, Int.reduceNeg, isB_i, isB_b, isB_y, isBv_i, isBv_b, eqCells_t, TT]
  rfl
theorem two_mul (a b : UInt8) : IntKind.i64.wrap (IntKind.i64.wrap (IntKind.i64.wrap (a.toNat : Int) * 256) + IntKind.i64.wrap (b.toNat : Int)) = ((a.toNat * 256 + b.toNat : Nat) : Int) := by
  have := a.toNat_lt
  have := b.toNat_lt
  rw [w64 (x := (a.toNat : Int)) (by omega) (by omega), w64 (x := (b.toNat : Int)) (by omega) (by omega), w64 (x := (a.toNat : Int) * 256) (by omega) (by omega), w64 (by omega) (by omega)]
  omega
theorem ropenK_spec (d s : M6) (k1 k0 : UInt8) (t sp l : List UInt8) (he : l = rawL d s k1 k0 t) (c : Nat) (ht : 46 ≤ t.length) (ht' : t.length ≤ 1500) (hc : l.length ≤ c) (hk : k1.toNat * 256 + k0.toNat < 1536) : Spec cx.P 11 [.c (roB l sp c)] [] fun s _ => s.plain = true ∧ s = errFr 30 := by
  have hl : l.length = 14 + t.length := by rw [he]; simp; omega
  have d0 : decide ((l.length : Int) < 60) = false := by simp only [decide_eq_false_iff_not]; omega
  have d1 : decide (1514 < (l.length : Int)) = false := by simp only [decide_eq_false_iff_not]; omega
  have d2 : decide (((k1.toNat * 256 + k0.toNat : Nat) : Int) < 1536) = true := by simp only [decide_eq_true_eq]; omega
  have e4 : bsR (l ++ sp) = byteR d.a :: byteR d.b :: byteR d.c :: byteR d.d :: byteR d.e :: byteR d.f :: byteR s.a :: byteR s.b :: byteR s.c :: byteR s.d :: byteR s.e :: byteR s.f :: byteR k1 :: byteR k0 :: bsR (t ++ sp) := by subst he; rfl
  have eb : ∀ b : UInt8, (byteR b).toSC = SC.v (.int .u8 b.toNat) := fun _ => rfl
  refine spec_of_X cx_ok Try.func11 rfl (by kernel_rfl) (by kernel_rfl) (Nat.le_of_ble_eq_true rfl) 400 7 ?_
  simp (maxSteps := 4000000) only [Try.results11, XX, Nat.reduceBEq, Nat.reduceLT, Nat.reduceAdd, Nat.reduceMul, Nat.reduceSub, Nat.reduceLeDiff, Nat.reduceEqDiff, Int.reduceToNat, Int.reduceLT, Int.reduceLE, Int.reduceAdd, Int.reduceSub, Int.reduceEq, reduceIte, Nat.reduceBNe, Int.reducePow, Nat.reducePow, Int.reduceMul, Int.reduceNeg, isB_i, isB_b, isB_y, isBv_i, isBv_b, eqCells_t, TT]
  simp (maxSteps := 4000000) only [Try.results11, d0, d1, XX, Nat.reduceBEq, Nat.reduceLT, Nat.reduceAdd, Nat.reduceMul, Nat.reduceSub, Nat.reduceLeDiff, Nat.reduceEqDiff, Int.reduceToNat, Int.reduceLT, Int.reduceLE, Int.reduceAdd, Int.reduceSub, Int.reduceEq, reduceIte, Nat.reduceBNe, Int.reducePow, Nat.reducePow, Int.reduceMul, Int.reduceNeg, isB_i, isB_b, isB_y, isBv_i, isBv_b, eqCells_t, TT]
  refine draw_of cx_ok (by kernel_rfl) 400 [] [(0, true), (1, true), (2, true), (3, true), (4, true), (5, true), (6, true), (7, true), (8, true), (9, true), (10, true)] (by kernel_rfl) rfl ?_
  simp (maxSteps := 4000000) only [Try.results11, e4, eb, two_mul, d2, XX, Nat.reduceBEq, Nat.reduceLT, Nat.reduceAdd, Nat.reduceMul, Nat.reduceSub, Nat.reduceLeDiff, Nat.reduceEqDiff, Int.reduceToNat, Int.reduceLT, Int.reduceLE, Int.reduceAdd, Int.reduceSub, Int.reduceEq, reduceIte, Nat.reduceBNe, Int.reducePow, Nat.reducePow, Int.reduceMul, Int.reduceNeg, isB_i, isB_b, isB_y, isBv_i, isBv_b, eqCells_t, TT]
  refine ⟨by omega, by omega, by omega, by omega, rfl⟩
/-- What opening comes to. -/
structure FR where
  d : M6
  s : M6
  k : Nat
  l : List UInt8
  e : Int
def resF (q : FR) (t : SV) (h' : List SB) : Prop := ∃ sp o, t = .tup [(true, fraC q.d q.s q.k (slB 0 q.l sp)), (false, [i64 q.e])] ∧ h' = [wB o (q.l ++ sp)] ∧ (0 < q.l.length + sp.length → o = true)
theorem resF_nil {P : Program} {f : FuncId} {args : List SV} {e : Int} (s : Spec P f args [] fun s _ => s.plain = true ∧ s = errFr e) : Spec P f args [] (resF ⟨.nul, .nul, 0, [], e⟩) :=
  s.wk fun t h' ⟨_, h1⟩ => ⟨.tup [(true, fraC .nul .nul (0 : Nat) (slB 0 [] [])), (false, [i64 e])], [wB false ([] ++ [])], [none], rfl, by simp only [XX, Nat.reduceBEq, Nat.reduceLT, Nat.reduceAdd, Nat.reduceMul, Nat.reduceSub, Nat.reduceLeDiff, Nat.reduceEqDiff, Int.reduceToNat, Int.reduceLT, Int.reduceLE, Int.reduceAdd, Int.reduceSub, Int.reduceEq, reduceIte, Nat.reduceBNe, Int.reducePow, Nat.reducePow, Int.reduceMul, Int.reduceNeg, isB_i, isB_b, isB_y, isBv_i, isBv_b, eqCells_t, TT, List.map_nil], by
    subst h1
    exact .inr ⟨rfl, ⟨.inl ⟨rfl, rfl⟩, .inl ⟨rfl, rfl⟩, .inl ⟨rfl, rfl⟩, .inl ⟨rfl, rfl⟩, .inl ⟨rfl, rfl⟩, .inl ⟨rfl, rfl⟩, .inl ⟨rfl, rfl⟩, .inl ⟨rfl, rfl⟩, .inl ⟨rfl, rfl⟩, .inl ⟨rfl, rfl⟩, .inl ⟨rfl, rfl⟩, .inl ⟨rfl, rfl⟩, .inl ⟨rfl, rfl⟩, .inr (.inr ⟨_, _, rfl, .inl rfl⟩), trivial⟩, rfl, ⟨.inl ⟨rfl, rfl⟩, trivial⟩, trivial⟩, [], false, rfl, rfl, fun h => absurd h (by simp)⟩
theorem ropen_spec (d s : M6) (k1 k0 : UInt8) (t sp l : List UInt8) (he : l = rawL d s k1 k0 t) (c : Nat) (ht : 46 ≤ t.length) (ht' : t.length ≤ 1500) (hc : l.length ≤ c) (hk : 1536 ≤ k1.toNat * 256 + k0.toNat) : Spec cx.P 11 [.c (roB l sp c)] [] (resF ⟨d, s, k1.toNat * 256 + k0.toNat, t, 0⟩) := by
  have hl : l.length = 14 + t.length := by rw [he]; simp; omega
  have d0 : decide ((l.length : Int) < 60) = false := by simp only [decide_eq_false_iff_not]; omega
  have d1 : decide (1514 < (l.length : Int)) = false := by simp only [decide_eq_false_iff_not]; omega
  have d2 : decide (((k1.toNat * 256 + k0.toNat : Nat) : Int) < 1536) = false := by simp only [decide_eq_false_iff_not]; omega
  have e4 : bsR (l ++ sp) = byteR d.a :: byteR d.b :: byteR d.c :: byteR d.d :: byteR d.e :: byteR d.f :: byteR s.a :: byteR s.b :: byteR s.c :: byteR s.d :: byteR s.e :: byteR s.f :: byteR k1 :: byteR k0 :: bsR (t ++ sp) := by subst he; rfl
  have eb : ∀ b : UInt8, (byteR b).toSC = byteC b := fun _ => rfl
  have eb' : ∀ b : UInt8, (byteR b).toSC = SC.v (.int .u8 b.toNat) := fun _ => rfl
  have key : Spec cx.P 11 [.c (roB l sp c)] [] fun q h' => ∃ r, q = .tup [(true, fraC d s (k1.toNat * 256 + k0.toNat : Nat) (.sl 2 0 t.length (t.length + r))), (false, [i64 0])] ∧ ∃ a b, h' = [a, b, wB true (t ++ List.replicate r 0)] := by
    refine spec_of_X cx_ok Try.func11 rfl (by kernel_rfl) (by kernel_rfl) (Nat.le_of_ble_eq_true rfl) 400 7 ?_
    simp (maxSteps := 4000000) only [Try.results11, XX, Nat.reduceBEq, Nat.reduceLT, Nat.reduceAdd, Nat.reduceMul, Nat.reduceSub, Nat.reduceLeDiff, Nat.reduceEqDiff, Int.reduceToNat, Int.reduceLT, Int.reduceLE, Int.reduceAdd, Int.reduceSub, Int.reduceEq, reduceIte, Nat.reduceBNe, Int.reducePow, Nat.reducePow, Int.reduceMul, Int.reduceNeg, isB_i, isB_b, isB_y, isBv_i, isBv_b, eqCells_t, TT]
    simp (maxSteps := 4000000) only [Try.results11, d0, d1, XX, Nat.reduceBEq, Nat.reduceLT, Nat.reduceAdd, Nat.reduceMul, Nat.reduceSub, Nat.reduceLeDiff, Nat.reduceEqDiff, Int.reduceToNat, Int.reduceLT, Int.reduceLE, Int.reduceAdd, Int.reduceSub, Int.reduceEq, reduceIte, Nat.reduceBNe, Int.reducePow, Nat.reducePow, Int.reduceMul, Int.reduceNeg, isB_i, isB_b, isB_y, isBv_i, isBv_b, eqCells_t, TT]
    refine draw_of cx_ok (by kernel_rfl) 400 [] [(0, true), (1, true), (2, true), (3, true), (4, true), (5, true), (6, true), (7, true), (8, true), (9, true), (10, true)] (by kernel_rfl) rfl ?_
    simp (maxSteps := 4000000) only [Try.results11, e4, eb', two_mul, d2, XX, Nat.reduceBEq, Nat.reduceLT, Nat.reduceAdd, Nat.reduceMul, Nat.reduceSub, Nat.reduceLeDiff, Nat.reduceEqDiff, Int.reduceToNat, Int.reduceLT, Int.reduceLE, Int.reduceAdd, Int.reduceSub, Int.reduceEq, reduceIte, Nat.reduceBNe, Int.reducePow, Nat.reducePow, Int.reduceMul, Int.reduceNeg, isB_i, isB_b, isB_y, isBv_i, isBv_b, eqCells_t, TT]
    refine ⟨by omega, by omega, by omega, by omega, ?_⟩
    refine loop_rounds cx_ok 600 7 ?_
    simp (maxSteps := 4000000) only [Try.results11, e4, eb, w64, XX, Nat.reduceBEq, Nat.reduceLT, Nat.reduceAdd, Nat.reduceMul, Nat.reduceSub, Nat.reduceLeDiff, Nat.reduceEqDiff, Int.reduceToNat, Int.reduceLT, Int.reduceLE, Int.reduceAdd, Int.reduceSub, Int.reduceEq, reduceIte, Nat.reduceBNe, Int.reducePow, Nat.reducePow, Int.reduceMul, Int.reduceNeg, isB_i, isB_b, isB_y, isBv_i, isBv_b, eqCells_t, TT]
    refine ⟨by omega, by omega, by omega, by omega, by omega, by omega, by omega, by omega, by omega, by omega, by omega, by omega, by omega, by omega, by omega, by omega, by omega, by omega, by omega, by omega, by omega, by omega, by omega, by omega, ?_⟩
    have e2 : l.length - 14 = t.length := by omega
    have tk : (bsR (t ++ sp)).take t.length = bsR t := by rw [rs_take, List.take_left' rfl]
    refine draw_of cx_ok (by kernel_rfl) 400 [] [(0, true), (2, true), (3, true), (1, false), (4, false), (5, true), (6, false)] (by kernel_rfl) rfl ?_
    simp (maxSteps := 4000000) only [Try.results11, e4, e2, tk, bsR_toSC, bsC_len, XX, Nat.reduceBEq, Nat.reduceLT, Nat.reduceAdd, Nat.reduceMul, Nat.reduceSub, Nat.reduceLeDiff, Nat.reduceEqDiff, Int.reduceToNat, Int.reduceLT, Int.reduceLE, Int.reduceAdd, Int.reduceSub, Int.reduceEq, reduceIte, Nat.reduceBNe, Int.reducePow, Nat.reducePow, Int.reduceMul, Int.reduceNeg, isB_i, isB_b, isB_y, isBv_i, isBv_b, eqCells_t, TT]
    refine ⟨by omega, ⟨⟨by omega, by unfold maxLen; omega⟩, by simp⟩, xapp_grow (by omega) fun c3 hc3 _ => ?_⟩
    obtain ⟨r3, rfl⟩ := Nat.exists_eq_add_of_le hc3
    simp (maxSteps := 4000000) only [Try.results11, Nat.add_sub_cancel_left, zeros_flat, bs_app, XX, Nat.reduceBEq, Nat.reduceLT, Nat.reduceAdd, Nat.reduceMul, Nat.reduceSub, Nat.reduceLeDiff, Nat.reduceEqDiff, Int.reduceToNat, Int.reduceLT, Int.reduceLE, Int.reduceAdd, Int.reduceSub, Int.reduceEq, reduceIte, Nat.reduceBNe, Int.reducePow, Nat.reducePow, Int.reduceMul, Int.reduceNeg, isB_i, isB_b, isB_y, isBv_i, isBv_b, eqCells_t, TT]
    exact ⟨r3, rfl, _, _, rfl⟩
  exact key.wk fun q h' ⟨r, h1, a, b, h2⟩ => ⟨.tup [(true, fraC d s (k1.toNat * 256 + k0.toNat : Nat) (slB 0 t (List.replicate r 0))), (false, [i64 0])], [wB true (t ++ List.replicate r 0)], [some 2], rfl, by subst h2; simp only [XX, Nat.reduceBEq, Nat.reduceLT, Nat.reduceAdd, Nat.reduceMul, Nat.reduceSub, Nat.reduceLeDiff, Nat.reduceEqDiff, Int.reduceToNat, Int.reduceLT, Int.reduceLE, Int.reduceAdd, Int.reduceSub, Int.reduceEq, reduceIte, Nat.reduceBNe, Int.reducePow, Nat.reducePow, Int.reduceMul, Int.reduceNeg, isB_i, isB_b, isB_y, isBv_i, isBv_b, eqCells_t, TT, ids_bsC, ren_bsC, noRo_bsC, plain_bsC, lt_bsC, ids_byte, ren_byte, noRo_byte, plain_byte, lt_byte], by subst h1; simp only [XX, Nat.reduceBEq, Nat.reduceLT, Nat.reduceAdd, Nat.reduceMul, Nat.reduceSub, Nat.reduceLeDiff, Nat.reduceEqDiff, Int.reduceToNat, Int.reduceLT, Int.reduceLE, Int.reduceAdd, Int.reduceSub, Int.reduceEq, reduceIte, Nat.reduceBNe, Int.reducePow, Nat.reducePow, Int.reduceMul, Int.reduceNeg, isB_i, isB_b, isB_y, isBv_i, isBv_b, eqCells_t, TT, ids_bsC, ren_bsC, noRo_bsC, plain_bsC, lt_bsC, ids_byte, ren_byte, noRo_byte, plain_byte, lt_byte, slB, List.length_replicate], List.replicate r 0, true, rfl, rfl, fun _ => rfl⟩
def openR (l : List UInt8) : FR :=
  if l.length < 60 then ⟨.nul, .nul, 0, [], 5⟩ else if 1514 < l.length then ⟨.nul, .nul, 0, [], 2⟩
  else match l with
    | a :: b :: c :: d :: e :: f :: a' :: b' :: c' :: d' :: e' :: f' :: k1 :: k0 :: t => if k1.toNat * 256 + k0.toNat < 1536 then ⟨.nul, .nul, 0, [], 30⟩ else ⟨⟨a, b, c, d, e, f⟩, ⟨a', b', c', d', e', f'⟩, k1.toNat * 256 + k0.toNat, t, 0⟩
    | _ => ⟨.nul, .nul, 0, [], 5⟩
theorem raw_form' {l : List UInt8} (h : 14 ≤ l.length) : ∃ d s k1 k0 t, l = rawL d s k1 k0 t := by
  match l, h with
  | a :: b :: c :: d :: e :: f :: a' :: b' :: c' :: d' :: e' :: f' :: k1 :: k0 :: t, _ => exact ⟨⟨a, b, c, d, e, f⟩, ⟨a', b', c', d', e', f'⟩, k1, k0, t, rfl⟩
theorem fopenA_spec (l sp : List UInt8) (c : Nat) (hc : l.length ≤ c) : Spec cx.P 31 [.c (roB l sp c)] [] (resF (openR l)) := by
  by_cases h1 : l.length < 60
  · unfold openR; rw [if_pos h1]; exact resF_nil (fopenS_spec l sp c h1)
  by_cases h2 : 1514 < l.length
  · unfold openR; rw [if_neg h1, if_pos h2]; exact resF_nil (fopenL_spec l sp c h2)
  obtain ⟨d, s, k1, k0, t, hl⟩ := raw_form' (l := l) (by omega)
  have hlt : l.length = 14 + t.length := by rw [hl]; simp; omega
  unfold openR
  rw [if_neg h1, if_neg h2]
  by_cases h3 : k1.toNat * 256 + k0.toNat < 1536
  · have := resF_nil (fopenK_spec d s k1 k0 t sp l hl c (by omega) (by omega) hc h3)
    subst hl
    dsimp only
    rw [if_pos h3]
    exact this
  · have := fopen_spec d s k1 k0 t sp l hl c (by omega) (by omega) hc (by omega)
    subst hl
    dsimp only
    rw [if_neg h3]
    refine this.mono fun t h' ⟨r, h1, h2⟩ => ⟨List.replicate r 0, true, by subst h1; simp only [slB, List.length_replicate], h2, fun _ => rfl⟩
theorem ropenA_spec (l sp : List UInt8) (c : Nat) (hc : l.length ≤ c) : Spec cx.P 11 [.c (roB l sp c)] [] (resF (openR l)) := by
  by_cases h1 : l.length < 60
  · unfold openR; rw [if_pos h1]; exact resF_nil (ropenS_spec l sp c h1)
  by_cases h2 : 1514 < l.length
  · unfold openR; rw [if_neg h1, if_pos h2]; exact resF_nil (ropenL_spec l sp c h2)
  obtain ⟨d, s, k1, k0, t, hl⟩ := raw_form' (l := l) (by omega)
  have hlt : l.length = 14 + t.length := by rw [hl]; simp; omega
  unfold openR
  rw [if_neg h1, if_neg h2]
  by_cases h3 : k1.toNat * 256 + k0.toNat < 1536
  · have := resF_nil (ropenK_spec d s k1 k0 t sp l hl c (by omega) (by omega) hc h3)
    subst hl
    dsimp only
    rw [if_pos h3]
    exact this
  · have := ropen_spec d s k1 k0 t sp l hl c (by omega) (by omega) hc (by omega)
    subst hl
    dsimp only
    rw [if_neg h3]
    exact this
theorem resF_noRo {q : FR} {t : SV} {h' : List SB} (h : resF q t h') : t.noRo = true ∧ (h'.all fun b => b.cells.all SC.noRo) = true := by
  obtain ⟨sp, o, rfl, rfl, _⟩ := h
  exact ⟨rfl, by simp only [XX, Nat.reduceBEq, Nat.reduceLT, Nat.reduceAdd, Nat.reduceMul, Nat.reduceSub, Nat.reduceLeDiff, Nat.reduceEqDiff, Int.reduceToNat, Int.reduceLT, Int.reduceLE, Int.reduceAdd, Int.reduceSub, Int.reduceEq, reduceIte, Nat.reduceBNe, Int.reducePow, Nat.reducePow, Int.reduceMul, Int.reduceNeg, isB_i, isB_b, isB_y, isBv_i, isBv_b, eqCells_t, TT, ids_bsC, ren_bsC, noRo_bsC, plain_bsC, lt_bsC, ids_byte, ren_byte, noRo_byte, plain_byte, lt_byte]⟩
/-- A window, or none, is read alone. -/
theorem fz_any {r : Nat → Nat} {n : Nat} {h : List SB} {i : Nat} {l sp : List UInt8} {o : Bool} (hb : h[i]? = some (wB o (l ++ sp))) (ho : 0 < l.length + sp.length → o = true) : frC true (fun _ => true) r n h (slB i l sp) (roB l sp (l.length + sp.length)) := by
  by_cases hp : 0 < l.length + sp.length
  · have := ho hp
    subst this
    exact fz_sl hb rfl rfl
  · have h1 : l = [] := List.eq_nil_of_length_eq_zero (by omega)
    have h2 : sp = [] := List.eq_nil_of_length_eq_zero (by omega)
    subst h1; subst h2
    exact .inr ⟨rfl, .inl ⟨_, _, _, rfl, .inr (.inr ⟨i, 0, rfl, .inl ⟨rfl, rfl⟩⟩)⟩⟩
end Go.Proofs.Ythbojoiogjdbeaa.Sx
namespace Go.Proofs.Ythbojoiogjdbeaa.Sx
open Go
set_option linter.unusedSimpArgs false
set_option linter.unusedVariables false
set_option maxRecDepth 10000
set_option maxHeartbeats 2000000
/-- A slot: whose it is, its bytes, what else stands in its room. -/
structure Sl where
  own : Bool
  d : List UInt8
  j : List UInt8
abbrev slotC (own : Bool) (room : List UInt8) (n : Nat) : List SC := bC own :: (bsC room ++ [i64 n])
def Sl.cells (s : Sl) : List SC := slotC s.own (s.d ++ s.j) s.d.length
def Sl.ok (s : Sl) : Prop := s.d.length + s.j.length = 1514
def slC (l : List Sl) : List SC := (l.map Sl.cells).flatten
theorem Sl.cells_len {s : Sl} (h : s.ok) : s.cells.length = 1516 := by
  unfold Sl.ok at h
  simp only [Sl.cells, slotC, List.length_cons, List.length_append, List.length_map, List.length_nil]; omega
theorem slC_len : ∀ {l : List Sl}, (∀ s ∈ l, s.ok) → (slC l).length = l.length * 1516
  | [], _ => rfl
  | s :: l, h => by
    have h1 := Sl.cells_len (h s (by simp))
    have h2 := slC_len (l := l) fun x hx => h x (by simp [hx])
    simp only [slC, List.map_cons, List.flatten_cons, List.length_append, List.length_cons] at h2 ⊢
    omega
theorem slC_app (a b : List Sl) : slC (a ++ b) = slC a ++ slC b := by simp [slC]
theorem slC_cons (a : Sl) (b : List Sl) : slC (a :: b) = a.cells ++ slC b := by simp [slC]
theorem slC_split {l : List Sl} {i : Nat} {s : Sl} (hi : l[i]? = some s) : slC l = slC (l.take i) ++ (s.cells ++ slC (l.drop (i + 1))) := by
  obtain ⟨h1, rfl⟩ := List.getElem?_eq_some_iff.1 hi
  rw [← slC_cons, ← slC_app, ← List.drop_eq_getElem_cons h1, List.take_append_drop]
theorem slC_set {l : List Sl} {i : Nat} {s s' : Sl} (hi : l[i]? = some s) : slC (l.set i s') = slC (l.take i) ++ (s'.cells ++ slC (l.drop (i + 1))) := by
  obtain ⟨h1, rfl⟩ := List.getElem?_eq_some_iff.1 hi
  rw [List.set_eq_take_append_cons_drop, if_pos h1, slC_app, slC_cons]
theorem slC_lt (n : Nat) (l : List Sl) : (slC l).all (SC.lt n) = true := by
  simp only [slC, List.all_eq_true, List.mem_flatten, List.mem_map]
  rintro x ⟨_, ⟨s, _, rfl⟩, hx⟩
  simp only [Sl.cells, slotC, List.mem_cons, List.mem_append, List.mem_map, List.not_mem_nil, or_false] at hx
  rcases hx with rfl | ⟨b, _, rfl⟩ | rfl <;> rfl
theorem slC_noRo (l : List Sl) : (slC l).all SC.noRo = true := by
  simp only [slC, List.all_eq_true, List.mem_flatten, List.mem_map]
  rintro x ⟨_, ⟨s, _, rfl⟩, hx⟩
  simp only [Sl.cells, slotC, List.mem_cons, List.mem_append, List.mem_map, List.not_mem_nil, or_false] at hx
  rcases hx with rfl | ⟨b, _, rfl⟩ | rfl <;> rfl
theorem slC_ren (r : Nat → Nat) (l : List Sl) : (slC l).map (SC.ren r) = slC l := by
  conv => rhs; rw [← List.map_id (slC l)]
  refine List.map_congr_left fun x hx => ?_
  simp only [slC, List.mem_flatten, List.mem_map] at hx
  obtain ⟨_, ⟨s, _, rfl⟩, hx⟩ := hx
  simp only [Sl.cells, slotC, List.mem_cons, List.mem_append, List.mem_map, List.not_mem_nil, or_false] at hx
  rcases hx with rfl | ⟨b, _, rfl⟩ | rfl <;> rfl
theorem slC_ids (p : Nat → Bool) (l : List Sl) : (slC l).all (SC.ids p) = true := by
  simp only [slC, List.all_eq_true, List.mem_flatten, List.mem_map]
  rintro x ⟨_, ⟨s, _, rfl⟩, hx⟩
  simp only [Sl.cells, slotC, List.mem_cons, List.mem_append, List.mem_map, List.not_mem_nil, or_false] at hx
  rcases hx with rfl | ⟨b, _, rfl⟩ | rfl <;> rfl
theorem seg {A x y C : List SC} {i j : Nat} (hA : A.length = i) (hj : i + x.length = j) : (A ++ (x ++ C)).take i ++ y ++ (A ++ (x ++ C)).drop j = A ++ (y ++ C) := by
  rw [List.take_left' hA, ← List.append_assoc, List.drop_left' (by rw [List.length_append]; omega), List.append_assoc]
abbrev stB (l : List SC) : SB := ⟨true, 76, l⟩
/-- A frame is laid in. -/
theorem put_spec (H : List SB) (w o : Nat) (pre post : List SC) (s : Sl) (own : Bool) (b sp : List UInt8) (c : Nat) (hs : s.ok) (hw : H[w]? = some (stB (pre ++ (s.cells ++ post)))) (ho : pre.length = o) (hb : b.length ≤ 1514) :
    Spec cx.P 24 [.c (.ptr w o), .c (roB b sp c), .c (bC own)] H fun t h' => t = .tup [] ∧ h' = H.set w (stB (pre ++ ((⟨own, b, (s.d ++ s.j).drop b.length⟩ : Sl).cells ++ post))) := by
  have lt := lt_of hw
  have hk : (s.d ++ s.j).length = 1514 := by rw [List.length_append]; exact hs
  unfold Sl.cells at hw ⊢
  generalize s.d.length = n at hw
  generalize hR : s.d ++ s.j = R at hw hk ⊢
  have m1 : min b.length 1514 = b.length := Nat.min_eq_left hb
  have e0 : (bsR (b ++ sp)).take b.length = bsR b := by rw [rs_take, List.take_left' rfl]
  refine spec_of_X cx_ok Try.func24 rfl (by kernel_rfl) (by kernel_rfl) (Nat.le_of_ble_eq_true rfl) 400 3 ?_
  simp (maxSteps := 4000000) only [Try.results24, XX, Nat.reduceBEq, Nat.reduceLT, Nat.reduceAdd, Nat.reduceMul, Nat.reduceSub, Nat.reduceLeDiff, Nat.reduceEqDiff, Int.reduceToNat, Int.reduceLT, Int.reduceLE, Int.reduceAdd, Int.reduceSub, Int.reduceEq, reduceIte, Nat.reduceBNe, Int.reducePow, Nat.reducePow, Int.reduceMul, Int.reduceNeg, isB_i, isB_b, isB_y, isBv_i, isBv_b, eqCells_t, TT]
  have X0 : pre ++ bC s.own :: (bsC R ++ [i64 n] ++ post) = (pre ++ [bC s.own]) ++ (bsC (R.take b.length) ++ (bsC (R.drop b.length) ++ [i64 n] ++ post)) := by
    rw [show bsC R = bsC (R.take b.length) ++ bsC (R.drop b.length) by rw [bs_app, List.take_append_drop]]
    simp only [List.append_assoc, List.cons_append, List.nil_append]
  have l0 : (pre ++ [bC s.own]).length = o + 1 := by simp [ho]
  have x1 : (pre ++ [bC s.own]) ++ (bsC b ++ (bsC (R.drop b.length) ++ [i64 n] ++ post)) = (pre ++ [bC s.own] ++ bsC (b ++ R.drop b.length)) ++ ([i64 n] ++ post) := by simp
  have l1 : (pre ++ [bC s.own] ++ bsC (b ++ R.drop b.length)).length = o + 1515 := by simp [ho]; omega
  have x2 : (pre ++ [bC s.own] ++ bsC (b ++ R.drop b.length)) ++ i64 b.length :: post = pre ++ bC s.own :: (bsC (b ++ R.drop b.length) ++ i64 b.length :: post) := by simp
  have tb : (bsC b).take b.length = bsC b := List.take_of_length_le (by simp)
  have s1 := seg (A := pre ++ [bC s.own]) (x := bsC (R.take b.length)) (y := bsC b) (C := bsC (R.drop b.length) ++ [i64 n] ++ post) (j := o + 1 + b.length) l0 (by simp; omega)
  have s2 : (pre ++ [bC s.own] ++ bsC (b ++ R.drop b.length) ++ i64 n :: post).take (o + 1515) ++ [i64 b.length] ++ (pre ++ [bC s.own] ++ bsC (b ++ R.drop b.length) ++ i64 n :: post).drop (o + 1515 + 1) = pre ++ [bC s.own] ++ bsC (b ++ R.drop b.length) ++ i64 b.length :: post := seg (x := [i64 n]) (C := post) l1 rfl
  have s3 : (pre ++ bC s.own :: (bsC (b ++ R.drop b.length) ++ i64 b.length :: post)).take o ++ [bC own] ++ (pre ++ bC s.own :: (bsC (b ++ R.drop b.length) ++ i64 b.length :: post)).drop (o + 1) = pre ++ bC own :: (bsC (b ++ R.drop b.length) ++ i64 b.length :: post) := seg (x := [bC s.own]) ho rfl
  have l2 : (pre ++ bC s.own :: (bsC (b ++ R.drop b.length) ++ i64 b.length :: post)).length = o + 1516 + post.length := by simp [ho]; omega
  have l3 : (pre ++ [bC s.own] ++ bsC (b ++ R.drop b.length) ++ i64 n :: post).length = o + 1516 + post.length := by simp [ho]; omega
  have hw : H[w]? = some (stB (pre ++ bC s.own :: (bsC R ++ [i64 n] ++ post))) := hw
  rw [X0] at hw
  simp (maxSteps := 4000000) only [Try.results24, hw, lt, m1, e0, bsR_toSC, gset, tb, bsC_len, s1, x1, s2, x2, s3, l2, l3, XX, Nat.reduceBEq, Nat.reduceLT, Nat.reduceAdd, Nat.reduceMul, Nat.reduceSub, Nat.reduceLeDiff, Nat.reduceEqDiff, Int.reduceToNat, Int.reduceLT, Int.reduceLE, Int.reduceAdd, Int.reduceSub, Int.reduceEq, reduceIte, Nat.reduceBNe, Int.reducePow, Nat.reducePow, Int.reduceMul, Int.reduceNeg, isB_i, isB_b, isB_y, isBv_i, isBv_b, eqCells_t, TT]
  exact ⟨⟨by simp, by simp [ho]; omega⟩, by omega, by omega, by rw [List.set_set, List.set_set]; simp only [stB, slotC, List.cons_append, List.append_assoc, List.nil_append]⟩
/-- A slot is emptied. -/
theorem put0_spec (H : List SB) (w o : Nat) (pre post : List SC) (s : Sl) (own : Bool) (hs : s.ok) (hw : H[w]? = some (stB (pre ++ (s.cells ++ post)))) (ho : pre.length = o) :
    Spec cx.P 24 [.c (.ptr w o), .c (.v (.slice none 0 0)), .c (bC own)] H fun t h' => t = .tup [] ∧ h' = H.set w (stB (pre ++ ((⟨own, [], s.d ++ s.j⟩ : Sl).cells ++ post))) := by
  have lt := lt_of hw
  have hk : (s.d ++ s.j).length = 1514 := by rw [List.length_append]; exact hs
  unfold Sl.cells at hw ⊢
  generalize s.d.length = n at hw
  rw [List.nil_append]
  generalize hR : s.d ++ s.j = R at hw hk ⊢
  have hw : H[w]? = some (stB (pre ++ bC s.own :: (bsC R ++ [i64 n] ++ post))) := hw
  have hw2 : H[w]? = some (stB (pre ++ bC s.own :: (bsC R ++ i64 n :: post))) := by rw [hw]; simp
  have l1 : (pre ++ [bC s.own] ++ bsC R).length = o + 1515 := by simp [ho]; omega
  have x1 : pre ++ bC s.own :: (bsC R ++ i64 n :: post) = pre ++ [bC s.own] ++ bsC R ++ i64 n :: post := by simp
  have s2 : (pre ++ [bC s.own] ++ bsC R ++ i64 n :: post).take (o + 1515) ++ [i64 0] ++ (pre ++ [bC s.own] ++ bsC R ++ i64 n :: post).drop (o + 1515 + 1) = pre ++ [bC s.own] ++ bsC R ++ i64 0 :: post := seg (x := [i64 n]) (C := post) l1 rfl
  have x2 : pre ++ [bC s.own] ++ bsC R ++ i64 0 :: post = pre ++ bC s.own :: (bsC R ++ i64 0 :: post) := by simp
  have s3 : (pre ++ bC s.own :: (bsC R ++ i64 0 :: post)).take o ++ [bC own] ++ (pre ++ bC s.own :: (bsC R ++ i64 0 :: post)).drop (o + 1) = pre ++ bC own :: (bsC R ++ i64 0 :: post) := seg (x := [bC s.own]) ho rfl
  have l2 : (pre ++ bC s.own :: (bsC R ++ i64 0 :: post)).length = o + 1516 + post.length := by simp [ho]; omega
  have l3 : (pre ++ [bC s.own] ++ bsC R ++ i64 n :: post).length = o + 1516 + post.length := by simp [ho]; omega
  rw [x1] at hw2
  refine spec_of_X cx_ok Try.func24 rfl (by kernel_rfl) (by kernel_rfl) (Nat.le_of_ble_eq_true rfl) 400 3 ?_
  simp (maxSteps := 4000000) only [Try.results24, XX, Nat.reduceBEq, Nat.reduceLT, Nat.reduceAdd, Nat.reduceMul, Nat.reduceSub, Nat.reduceLeDiff, Nat.reduceEqDiff, Int.reduceToNat, Int.reduceLT, Int.reduceLE, Int.reduceAdd, Int.reduceSub, Int.reduceEq, reduceIte, Nat.reduceBNe, Int.reducePow, Nat.reducePow, Int.reduceMul, Int.reduceNeg, isB_i, isB_b, isB_y, isBv_i, isBv_b, eqCells_t, TT]
  simp (maxSteps := 4000000) only [Try.results24, hw2, lt, gset, Nat.zero_min, List.take_nil, List.append_nil, List.length_nil, Nat.add_zero, List.take_append_drop, Int.natCast_zero, Int.ofNat_zero, s2, x2, s3, l2, l3, XX, Nat.reduceBEq, Nat.reduceLT, Nat.reduceAdd, Nat.reduceMul, Nat.reduceSub, Nat.reduceLeDiff, Nat.reduceEqDiff, Int.reduceToNat, Int.reduceLT, Int.reduceLE, Int.reduceAdd, Int.reduceSub, Int.reduceEq, reduceIte, Nat.reduceBNe, Int.reducePow, Nat.reducePow, Int.reduceMul, Int.reduceNeg, isB_i, isB_b, isB_y, isBv_i, isBv_b, eqCells_t, TT]
  exact ⟨by omega, by omega, by omega, by rw [List.set_set, List.set_set]; simp only [stB, slotC, List.cons_append, List.append_assoc, List.nil_append]⟩
/-- The card's cells. -/
abbrev cardC (w1 w2 n1 n2 : Nat) (a1 a2 c1 c2 c3 : Int) : List SC := [.sl w1 0 n1 n1, i64 a1, .sl w2 0 n2 n2, i64 a2, i64 c1, i64 c2, i64 c3]
abbrev cardB (w1 w2 n1 n2 : Nat) (a1 a2 c1 c2 c3 : Int) : SB := ⟨true, 73, cardC w1 w2 n1 n2 a1 a2 c1 c2 c3⟩
theorem at1_spec (oc : Bool) (H : List SB) (c w1 w2 n1 n2 : Nat) (a1 a2 c1 c2 c3 : Int) (hc : H[c]? = some ⟨oc, 73, cardC w1 w2 n1 n2 a1 a2 c1 c2 c3⟩) (i : Nat) (hi : i < n1) (hn : n1 ≤ 64) :
    Spec cx.P 23 [.c (.ptr c 0), .c (i64 i)] H fun t h' => t = .c (.ptr w1 (i * 1516)) ∧ h' = H := by
  have lt := lt_of hc
  have d1 : decide ((i : Int) < 0) = false := by simp only [decide_eq_false_iff_not]; omega
  have d2 : decide ((n1 : Int) ≤ (i : Int)) = false := by simp only [decide_eq_false_iff_not]; omega
  refine spec_of_X cx_ok Try.func23 rfl (by kernel_rfl) (by kernel_rfl) (Nat.le_of_ble_eq_true rfl) 400 5 ?_
  simp (maxSteps := 4000000) only [Try.results23, XX, Nat.reduceBEq, Nat.reduceLT, Nat.reduceAdd, Nat.reduceMul, Nat.reduceSub, Nat.reduceLeDiff, Nat.reduceEqDiff, Int.reduceToNat, Int.reduceLT, Int.reduceLE, Int.reduceAdd, Int.reduceSub, Int.reduceEq, reduceIte, Nat.reduceBNe, Int.reducePow, Nat.reducePow, Int.reduceMul, Int.reduceNeg, isB_i, isB_b, isB_y, isBv_i, isBv_b, eqCells_t, TT]
  simp (maxSteps := 4000000) only [Try.results23, hc, lt, d1, d2, XX, Nat.reduceBEq, Nat.reduceLT, Nat.reduceAdd, Nat.reduceMul, Nat.reduceSub, Nat.reduceLeDiff, Nat.reduceEqDiff, Int.reduceToNat, Int.reduceLT, Int.reduceLE, Int.reduceAdd, Int.reduceSub, Int.reduceEq, reduceIte, Nat.reduceBNe, Int.reducePow, Nat.reducePow, Int.reduceMul, Int.reduceNeg, isB_i, isB_b, isB_y, isBv_i, isBv_b, eqCells_t, TT]
  omega
theorem at2_spec (oc : Bool) (H : List SB) (c w1 w2 n1 n2 : Nat) (a1 a2 c1 c2 c3 : Int) (hc : H[c]? = some ⟨oc, 73, cardC w1 w2 n1 n2 a1 a2 c1 c2 c3⟩) (i : Nat) (hi : i < n2) (hn : n2 ≤ 64) :
    Spec cx.P 23 [.c (.ptr c 2), .c (i64 i)] H fun t h' => t = .c (.ptr w2 (i * 1516)) ∧ h' = H := by
  have lt := lt_of hc
  have d1 : decide ((i : Int) < 0) = false := by simp only [decide_eq_false_iff_not]; omega
  have d2 : decide ((n2 : Int) ≤ (i : Int)) = false := by simp only [decide_eq_false_iff_not]; omega
  refine spec_of_X cx_ok Try.func23 rfl (by kernel_rfl) (by kernel_rfl) (Nat.le_of_ble_eq_true rfl) 400 5 ?_
  simp (maxSteps := 4000000) only [Try.results23, XX, Nat.reduceBEq, Nat.reduceLT, Nat.reduceAdd, Nat.reduceMul, Nat.reduceSub, Nat.reduceLeDiff, Nat.reduceEqDiff, Int.reduceToNat, Int.reduceLT, Int.reduceLE, Int.reduceAdd, Int.reduceSub, Int.reduceEq, reduceIte, Nat.reduceBNe, Int.reducePow, Nat.reducePow, Int.reduceMul, Int.reduceNeg, isB_i, isB_b, isB_y, isBv_i, isBv_b, eqCells_t, TT]
  simp (maxSteps := 4000000) only [Try.results23, hc, lt, d1, d2, XX, Nat.reduceBEq, Nat.reduceLT, Nat.reduceAdd, Nat.reduceMul, Nat.reduceSub, Nat.reduceLeDiff, Nat.reduceEqDiff, Int.reduceToNat, Int.reduceLT, Int.reduceLE, Int.reduceAdd, Int.reduceSub, Int.reduceEq, reduceIte, Nat.reduceBNe, Int.reducePow, Nat.reducePow, Int.reduceMul, Int.reduceNeg, isB_i, isB_b, isB_y, isBv_i, isBv_b, eqCells_t, TT]
  omega
theorem at1N_spec (oc : Bool) (H : List SB) (c w1 w2 n1 n2 : Nat) (a1 a2 c1 c2 c3 : Int) (hc : H[c]? = some ⟨oc, 73, cardC w1 w2 n1 n2 a1 a2 c1 c2 c3⟩) (i : Int) (hi : i < 0 ∨ (n1 : Int) ≤ i) :
    Spec cx.P 23 [.c (.ptr c 0), .c (i64 i)] H fun t h' => t = .c (.v (.pointer none)) ∧ h' = H := by
  have lt := lt_of hc
  refine spec_of_X cx_ok Try.func23 rfl (by kernel_rfl) (by kernel_rfl) (Nat.le_of_ble_eq_true rfl) 400 5 ?_
  simp (maxSteps := 4000000) only [Try.results23, XX, Nat.reduceBEq, Nat.reduceLT, Nat.reduceAdd, Nat.reduceMul, Nat.reduceSub, Nat.reduceLeDiff, Nat.reduceEqDiff, Int.reduceToNat, Int.reduceLT, Int.reduceLE, Int.reduceAdd, Int.reduceSub, Int.reduceEq, reduceIte, Nat.reduceBNe, Int.reducePow, Nat.reducePow, Int.reduceMul, Int.reduceNeg, isB_i, isB_b, isB_y, isBv_i, isBv_b, eqCells_t, TT]
  cases d1 : decide (i < 0)
  · have d2 : decide ((n1 : Int) ≤ i) = true := by simp only [decide_eq_false_iff_not] at d1; simp only [decide_eq_true_eq]; omega
    simp (maxSteps := 4000000) only [Try.results23, hc, lt, d1, d2, XX, Nat.reduceBEq, Nat.reduceLT, Nat.reduceAdd, Nat.reduceMul, Nat.reduceSub, Nat.reduceLeDiff, Nat.reduceEqDiff, Int.reduceToNat, Int.reduceLT, Int.reduceLE, Int.reduceAdd, Int.reduceSub, Int.reduceEq, reduceIte, Nat.reduceBNe, Int.reducePow, Nat.reducePow, Int.reduceMul, Int.reduceNeg, isB_i, isB_b, isB_y, isBv_i, isBv_b, eqCells_t, TT]
  · simp (maxSteps := 4000000) only [Try.results23, hc, lt, d1, XX, Nat.reduceBEq, Nat.reduceLT, Nat.reduceAdd, Nat.reduceMul, Nat.reduceSub, Nat.reduceLeDiff, Nat.reduceEqDiff, Int.reduceToNat, Int.reduceLT, Int.reduceLE, Int.reduceAdd, Int.reduceSub, Int.reduceEq, reduceIte, Nat.reduceBNe, Int.reducePow, Nat.reducePow, Int.reduceMul, Int.reduceNeg, isB_i, isB_b, isB_y, isBv_i, isBv_b, eqCells_t, TT]
theorem at2N_spec (oc : Bool) (H : List SB) (c w1 w2 n1 n2 : Nat) (a1 a2 c1 c2 c3 : Int) (hc : H[c]? = some ⟨oc, 73, cardC w1 w2 n1 n2 a1 a2 c1 c2 c3⟩) (i : Int) (hi : i < 0 ∨ (n2 : Int) ≤ i) :
    Spec cx.P 23 [.c (.ptr c 2), .c (i64 i)] H fun t h' => t = .c (.v (.pointer none)) ∧ h' = H := by
  have lt := lt_of hc
  refine spec_of_X cx_ok Try.func23 rfl (by kernel_rfl) (by kernel_rfl) (Nat.le_of_ble_eq_true rfl) 400 5 ?_
  simp (maxSteps := 4000000) only [Try.results23, XX, Nat.reduceBEq, Nat.reduceLT, Nat.reduceAdd, Nat.reduceMul, Nat.reduceSub, Nat.reduceLeDiff, Nat.reduceEqDiff, Int.reduceToNat, Int.reduceLT, Int.reduceLE, Int.reduceAdd, Int.reduceSub, Int.reduceEq, reduceIte, Nat.reduceBNe, Int.reducePow, Nat.reducePow, Int.reduceMul, Int.reduceNeg, isB_i, isB_b, isB_y, isBv_i, isBv_b, eqCells_t, TT]
  cases d1 : decide (i < 0)
  · have d2 : decide ((n2 : Int) ≤ i) = true := by simp only [decide_eq_false_iff_not] at d1; simp only [decide_eq_true_eq]; omega
    simp (maxSteps := 4000000) only [Try.results23, hc, lt, d1, d2, XX, Nat.reduceBEq, Nat.reduceLT, Nat.reduceAdd, Nat.reduceMul, Nat.reduceSub, Nat.reduceLeDiff, Nat.reduceEqDiff, Int.reduceToNat, Int.reduceLT, Int.reduceLE, Int.reduceAdd, Int.reduceSub, Int.reduceEq, reduceIte, Nat.reduceBNe, Int.reducePow, Nat.reducePow, Int.reduceMul, Int.reduceNeg, isB_i, isB_b, isB_y, isBv_i, isBv_b, eqCells_t, TT]
  · simp (maxSteps := 4000000) only [Try.results23, hc, lt, d1, XX, Nat.reduceBEq, Nat.reduceLT, Nat.reduceAdd, Nat.reduceMul, Nat.reduceSub, Nat.reduceLeDiff, Nat.reduceEqDiff, Int.reduceToNat, Int.reduceLT, Int.reduceLE, Int.reduceAdd, Int.reduceSub, Int.reduceEq, reduceIte, Nat.reduceBNe, Int.reducePow, Nat.reducePow, Int.reduceMul, Int.reduceNeg, isB_i, isB_b, isB_y, isBv_i, isBv_b, eqCells_t, TT]
end Go.Proofs.Ythbojoiogjdbeaa.Sx
namespace Go.Proofs.Ythbojoiogjdbeaa.Sx
open Go
set_option linter.unusedSimpArgs false
set_option linter.unusedVariables false
set_option maxRecDepth 10000
set_option maxHeartbeats 2000000
/-- A card, all told. -/
structure CK where
  rx : List Sl
  tx : List Sl
  rn : Nat
  tn : Nat
  cin : Int
  cdr : Int
  cout : Int
abbrev CK.h (k : CK) : List SB := [cardB 1 2 k.rx.length k.tx.length k.rn k.tn k.cin k.cdr k.cout, stB (slC k.rx), stB (slC k.tx)]
structure CK.ok (k : CK) : Prop where
  rx0 : 0 < k.rx.length
  rx1 : k.rx.length ≤ 64
  tx0 : 0 < k.tx.length
  tx1 : k.tx.length ≤ 64
  rn : k.rn < k.rx.length
  tn : k.tn < k.tx.length
  rs : ∀ s ∈ k.rx, s.ok
  ts : ∀ s ∈ k.tx, s.ok
theorem next_mod {i n : Nat} (h : i < n) (hn : n ≤ 64) : (IntKind.i64.wrap ((i : Int) + 1)).tmod (n : Int) = (((i + 1) % n : Nat) : Int) := by
  rw [w64 (by omega) (by omega)]; rfl
theorem step1_spec (k : CK) (ok : k.ok) : Spec cx.P 25 [.c (.ptr 0 0)] k.h fun t h' => t = .tup [] ∧ h' = CK.h { k with rn := (k.rn + 1) % k.rx.length } := by
  obtain ⟨rx, tx, rn, tn, c1, c2, c3⟩ := k
  have m := next_mod ok.rn ok.rx1
  have z : ((rx.length : Int) = 0) = False := by have := ok.rx0; dsimp only at this; simp only [eq_iff_iff, iff_false]; omega
  dsimp only at m z
  refine spec_of_X cx_ok Try.func25 rfl (by kernel_rfl) (by kernel_rfl) (Nat.le_of_ble_eq_true rfl) 400 1 ?_
  simp (maxSteps := 4000000) only [Try.results25, XX, Nat.reduceBEq, Nat.reduceLT, Nat.reduceAdd, Nat.reduceMul, Nat.reduceSub, Nat.reduceLeDiff, Nat.reduceEqDiff, Int.reduceToNat, Int.reduceLT, Int.reduceLE, Int.reduceAdd, Int.reduceSub, Int.reduceEq, reduceIte, Nat.reduceBNe, Int.reducePow, Nat.reducePow, Int.reduceMul, Int.reduceNeg, isB_i, isB_b, isB_y, isBv_i, isBv_b, eqCells_t, TT]
  refine draw2_of cx_ok (by kernel_rfl) 400 [] (.pair [(0, true), (1, true), (2, true), (3, true), (6, true), (7, true), (8, true)] 4 9 (.done [(5, true), (9, false), (10, true), (11, true), (12, true), (13, true), (14, false)]) (.done [(10, true), (4, false), (5, true), (11, true), (12, true), (13, true), (14, false)])) (by kernel_rfl) rfl ?_
  simp (maxSteps := 4000000) only [Try.results25, PXT_done, PXT_pair, m, z, XX, Nat.reduceBEq, Nat.reduceLT, Nat.reduceAdd, Nat.reduceMul, Nat.reduceSub, Nat.reduceLeDiff, Nat.reduceEqDiff, Int.reduceToNat, Int.reduceLT, Int.reduceLE, Int.reduceAdd, Int.reduceSub, Int.reduceEq, reduceIte, Nat.reduceBNe, Int.reducePow, Nat.reducePow, Int.reduceMul, Int.reduceNeg, isB_i, isB_b, isB_y, isBv_i, isBv_b, eqCells_t, TT]
theorem step2_spec (k : CK) (ok : k.ok) : Spec cx.P 25 [.c (.ptr 0 2)] k.h fun t h' => t = .tup [] ∧ h' = CK.h { k with tn := (k.tn + 1) % k.tx.length } := by
  obtain ⟨rx, tx, rn, tn, c1, c2, c3⟩ := k
  have m := next_mod ok.tn ok.tx1
  have z : ((tx.length : Int) = 0) = False := by have := ok.tx0; dsimp only at this; simp only [eq_iff_iff, iff_false]; omega
  dsimp only at m z
  refine spec_of_X cx_ok Try.func25 rfl (by kernel_rfl) (by kernel_rfl) (Nat.le_of_ble_eq_true rfl) 400 1 ?_
  simp (maxSteps := 4000000) only [Try.results25, XX, Nat.reduceBEq, Nat.reduceLT, Nat.reduceAdd, Nat.reduceMul, Nat.reduceSub, Nat.reduceLeDiff, Nat.reduceEqDiff, Int.reduceToNat, Int.reduceLT, Int.reduceLE, Int.reduceAdd, Int.reduceSub, Int.reduceEq, reduceIte, Nat.reduceBNe, Int.reducePow, Nat.reducePow, Int.reduceMul, Int.reduceNeg, isB_i, isB_b, isB_y, isBv_i, isBv_b, eqCells_t, TT]
  refine draw2_of cx_ok (by kernel_rfl) 400 [] (.pair [(0, true), (1, true), (2, true), (3, true), (6, true), (7, true), (8, true)] 4 9 (.done [(5, true), (9, false), (10, true), (11, true), (12, true), (13, true), (14, false)]) (.done [(10, true), (4, false), (5, true), (11, true), (12, true), (13, true), (14, false)])) (by kernel_rfl) rfl ?_
  simp (maxSteps := 4000000) only [Try.results25, PXT_done, PXT_pair, m, z, XX, Nat.reduceBEq, Nat.reduceLT, Nat.reduceAdd, Nat.reduceMul, Nat.reduceSub, Nat.reduceLeDiff, Nat.reduceEqDiff, Int.reduceToNat, Int.reduceLT, Int.reduceLE, Int.reduceAdd, Int.reduceSub, Int.reduceEq, reduceIte, Nat.reduceBNe, Int.reducePow, Nat.reducePow, Int.reduceMul, Int.reduceNeg, isB_i, isB_b, isB_y, isBv_i, isBv_b, eqCells_t, TT]
theorem data_spec (ow : Bool) (pre post : List SC) (s : Sl) (o : Nat) (hs : s.ok) (ho : pre.length = o) :
    Spec cx.P 28 [.c (.ptr 0 o)] [⟨ow, 76, pre ++ (s.cells ++ post)⟩] fun t h' => t = .c (.sl 1 0 s.d.length s.d.length) ∧ h' = [⟨ow, 76, pre ++ (s.cells ++ post)⟩, wB true s.d] := by
  unfold Sl.ok at hs
  obtain ⟨own, d, j⟩ := s
  dsimp only at hs ⊢
  have X : pre ++ (Sl.cells ⟨own, d, j⟩ ++ post) = pre ++ bC own :: (bsC (d ++ j) ++ i64 d.length :: post) := by simp [Sl.cells]
  rw [X]
  have g1 : (pre ++ bC own :: (bsC (d ++ j) ++ i64 d.length :: post)).getD (o + 1515) .any = i64 d.length := by
    rw [List.getD_eq_getElem?_getD, List.getElem?_append_right (by omega), show o + 1515 - pre.length = 1514 + 1 by omega, List.getElem?_cons_succ, List.getElem?_append_right (by simp; omega)]
    simp
    rw [show 1514 - (d.length + j.length) = 0 by omega]
    rfl
  have g2 : ((pre ++ bC own :: (bsC (d ++ j) ++ i64 d.length :: post)).drop (o + 1)).take d.length = bsC d := by
    rw [List.drop_append, List.drop_of_length_le (by omega), show o + 1 - pre.length = 1 by omega, List.nil_append, List.drop_succ_cons, List.drop_zero, List.take_append_of_le_length (by simp), bs_take, List.take_left' rfl]
  have l1 : (pre ++ bC own :: (bsC (d ++ j) ++ i64 d.length :: post)).length = o + 1516 + post.length := by simp [ho]; omega
  generalize pre ++ bC own :: (bsC (d ++ j) ++ i64 d.length :: post) = C at *
  have hC : C.isEmpty = false := by
    cases C with
    | nil => simp only [List.length_nil] at l1; omega
    | cons x C' => rfl
  refine spec_of_X cx_ok Try.func28 rfl (by kernel_rfl) (by kernel_rfl) (Nat.le_of_ble_eq_true rfl) 400 4 ?_
  simp (maxSteps := 4000000) only [Try.results28, XX, Nat.reduceBEq, Nat.reduceLT, Nat.reduceAdd, Nat.reduceMul, Nat.reduceSub, Nat.reduceLeDiff, Nat.reduceEqDiff, Int.reduceToNat, Int.reduceLT, Int.reduceLE, Int.reduceAdd, Int.reduceSub, Int.reduceEq, reduceIte, Nat.reduceBNe, Int.reducePow, Nat.reducePow, Int.reduceMul, Int.reduceNeg, isB_i, isB_b, isB_y, isBv_i, isBv_b, eqCells_t, TT]
  simp (maxSteps := 4000000) only [Try.results28, g1, l1, XX, Nat.reduceBEq, Nat.reduceLT, Nat.reduceAdd, Nat.reduceMul, Nat.reduceSub, Nat.reduceLeDiff, Nat.reduceEqDiff, Int.reduceToNat, Int.reduceLT, Int.reduceLE, Int.reduceAdd, Int.reduceSub, Int.reduceEq, reduceIte, Nat.reduceBNe, Int.reducePow, Nat.reducePow, Int.reduceMul, Int.reduceNeg, isB_i, isB_b, isB_y, isBv_i, isBv_b, eqCells_t, TT]
  refine ⟨by omega, ⟨by omega, by omega, by omega, by omega⟩, ?_⟩
  have zf : (List.replicate d.length [SC.v (.int .u8 0)]).flatten = bsC (List.replicate d.length 0) := zeros_flat _
  have tz : (bsC d).take d.length = bsC d := List.take_of_length_le (by simp)
  have dz : (bsC (List.replicate d.length (0 : UInt8))).drop d.length = [] := List.drop_of_length_le (by simp)
  rw [zf]
  have hok : ([0].all fun i => match ([⟨ow, 76, C⟩, wB true (List.replicate d.length 0)] : List SB)[i]? with | some b => !b.void | none => false) = true := by simp [SB.void, hC]
  refine draw_of cx_ok (by kernel_rfl) 400 [0] [(0, true), (1, true), (2, true), (3, true), (4, true), (5, true), (6, true), (7, true), (8, true), (9, true), (10, true), (11, true), (12, true), (13, false)] (by kernel_rfl) (by first | exact hok | simp [*]) ?_
  simp (maxSteps := 4000000) only [Try.results28, g1, g2, l1, Nat.min_self, tz, bsC_len, List.length_replicate, dz, List.append_nil, XX, Nat.reduceBEq, Nat.reduceLT, Nat.reduceAdd, Nat.reduceMul, Nat.reduceSub, Nat.reduceLeDiff, Nat.reduceEqDiff, Int.reduceToNat, Int.reduceLT, Int.reduceLE, Int.reduceAdd, Int.reduceSub, Int.reduceEq, reduceIte, Nat.reduceBNe, Int.reducePow, Nat.reducePow, Int.reduceMul, Int.reduceNeg, isB_i, isB_b, isB_y, isBv_i, isBv_b, eqCells_t, TT]
  exact ⟨by omega, by omega, ⟨by omega, by omega, by omega⟩, by omega, by omega⟩
theorem pre_len {l : List Sl} {i : Nat} {s : Sl} (hi : l[i]? = some s) (ok : ∀ s ∈ l, s.ok) : (slC (l.take i)).length = i * 1516 := by
  obtain ⟨h1, _⟩ := List.getElem?_eq_some_iff.1 hi
  rw [slC_len fun s hs => ok s (List.mem_of_mem_take hs), List.length_take, Nat.min_eq_left (by omega)]
theorem dataS_spec (ow : Bool) (l : List Sl) (i : Nat) (s : Sl) (hi : l[i]? = some s) (ok : ∀ s ∈ l, s.ok) : Spec cx.P 28 [.c (.ptr 0 (i * 1516))] [⟨ow, 76, slC l⟩] fun t h' => t = .c (.sl 1 0 s.d.length s.d.length) ∧ h' = [⟨ow, 76, slC l⟩, wB true s.d] := by
  have := data_spec ow (slC (l.take i)) (slC (l.drop (i + 1))) s (i * 1516) (ok s (List.mem_of_getElem? hi)) (pre_len hi ok)
  rwa [← slC_split hi] at this
theorem putS_spec (H : List SB) (w : Nat) (l : List Sl) (i : Nat) (s : Sl) (hi : l[i]? = some s) (ok : ∀ s ∈ l, s.ok) (own : Bool) (b sp : List UInt8) (c : Nat) (hw : H[w]? = some (stB (slC l))) (hb : b.length ≤ 1514) :
    Spec cx.P 24 [.c (.ptr w (i * 1516)), .c (roB b sp c), .c (bC own)] H fun t h' => t = .tup [] ∧ h' = H.set w (stB (slC (l.set i ⟨own, b, (s.d ++ s.j).drop b.length⟩))) := by
  have := put_spec H w (i * 1516) (slC (l.take i)) (slC (l.drop (i + 1))) s own b sp c (ok s (List.mem_of_getElem? hi)) (by rw [← slC_split hi]; exact hw) (pre_len hi ok) hb
  rwa [← slC_set hi] at this
theorem put0S_spec (H : List SB) (w : Nat) (l : List Sl) (i : Nat) (s : Sl) (hi : l[i]? = some s) (ok : ∀ s ∈ l, s.ok) (own : Bool) (hw : H[w]? = some (stB (slC l))) :
    Spec cx.P 24 [.c (.ptr w (i * 1516)), .c (.v (.slice none 0 0)), .c (bC own)] H fun t h' => t = .tup [] ∧ h' = H.set w (stB (slC (l.set i ⟨own, [], s.d ++ s.j⟩))) := by
  have := put0_spec H w (i * 1516) (slC (l.take i)) (slC (l.drop (i + 1))) s own (ok s (List.mem_of_getElem? hi)) (by rw [← slC_split hi]; exact hw) (pre_len hi ok)
  rwa [← slC_set hi] at this
theorem slC_own {l : List Sl} {i : Nat} {s : Sl} (hi : l[i]? = some s) (ok : ∀ s ∈ l, s.ok) : (slC l).getD (i * 1516) .any = bC s.own ∧ i * 1516 < (slC l).length := by
  have h := pre_len hi ok
  rw [slC_split hi]
  refine ⟨?_, by rw [List.length_append, List.length_append, Sl.cells_len (ok s (List.mem_of_getElem? hi))]; omega⟩
  rw [List.getD_eq_getElem?_getD, List.getElem?_append_right (by omega), show i * 1516 - (slC (l.take i)).length = 0 by omega]
  rfl
/-- What a card's slot is, to see. -/
theorem show1_spec (k : CK) (ok : k.ok) (i : Nat) (s : Sl) (hi : k.rx[i]? = some s) : Spec cx.P 51 [.c (.ptr 0 0), .c (i64 i)] k.h fun t h' => t = .tup [(true, [bC s.own, .sl 3 0 s.d.length s.d.length]), (false, [i64 0])] ∧ h' = k.h ++ [wB true s.d] := by
  have hlt := (List.getElem?_eq_some_iff.1 hi).1
  obtain ⟨g1, g2⟩ := slC_own hi ok.rs
  have r1 := ok.rx1
  have hD := dataS_spec false k.rx i s hi ok.rs
  have hc : (slC k.rx).all (SC.lt 1) = true := slC_lt 1 _
  refine Spec.wk (K := fun t h' => t = .tup [(true, [bC s.own, .sl 4 0 s.d.length s.d.length]), (false, [i64 0])] ∧ ∃ x, h' = k.h ++ [x, wB true s.d]) ?_ fun t h' ⟨h1, x, h2⟩ => ⟨.tup [(true, [bC s.own, .sl 3 0 s.d.length s.d.length]), (false, [i64 0])], k.h ++ [wB true s.d], [some 0, some 1, some 2, some 4], rfl, by subst h2; simp only [XX, Nat.reduceBEq, Nat.reduceLT, Nat.reduceAdd, Nat.reduceMul, Nat.reduceSub, Nat.reduceLeDiff, Nat.reduceEqDiff, Int.reduceToNat, Int.reduceLT, Int.reduceLE, Int.reduceAdd, Int.reduceSub, Int.reduceEq, reduceIte, Nat.reduceBNe, Int.reducePow, Nat.reducePow, Int.reduceMul, Int.reduceNeg, isB_i, isB_b, isB_y, isBv_i, isBv_b, eqCells_t, TT, ids_bsC, ren_bsC, noRo_bsC, plain_bsC, lt_bsC, ids_byte, ren_byte, noRo_byte, plain_byte, lt_byte, slC_ren]; exact ⟨.inl (slC_ids _ _), .inl (slC_ids _ _)⟩, by subst h1; simp only [XX, Nat.reduceBEq, Nat.reduceLT, Nat.reduceAdd, Nat.reduceMul, Nat.reduceSub, Nat.reduceLeDiff, Nat.reduceEqDiff, Int.reduceToNat, Int.reduceLT, Int.reduceLE, Int.reduceAdd, Int.reduceSub, Int.reduceEq, reduceIte, Nat.reduceBNe, Int.reducePow, Nat.reducePow, Int.reduceMul, Int.reduceNeg, isB_i, isB_b, isB_y, isBv_i, isBv_b, eqCells_t, TT, ids_bsC, ren_bsC, noRo_bsC, plain_bsC, lt_bsC, ids_byte, ren_byte, noRo_byte, plain_byte, lt_byte], rfl, rfl⟩
  refine spec_of_X cx_ok Try.func51 rfl (by kernel_rfl) (by kernel_rfl) (Nat.le_of_ble_eq_true rfl) 400 7 ?_
  simp (maxSteps := 4000000) only [Try.results51, XX, Nat.reduceBEq, Nat.reduceLT, Nat.reduceAdd, Nat.reduceMul, Nat.reduceSub, Nat.reduceLeDiff, Nat.reduceEqDiff, Int.reduceToNat, Int.reduceLT, Int.reduceLE, Int.reduceAdd, Int.reduceSub, Int.reduceEq, reduceIte, Nat.reduceBNe, Int.reducePow, Nat.reducePow, Int.reduceMul, Int.reduceNeg, isB_i, isB_b, isB_y, isBv_i, isBv_b, eqCells_t, TT]
  refine call_is (at1_spec true _ 0 1 2 _ _ _ _ _ _ _ rfl i hlt r1) ?_
  rintro _ _ ⟨rfl, rfl⟩
  simp (maxSteps := 4000000) only [Try.results51, XX, Nat.reduceBEq, Nat.reduceLT, Nat.reduceAdd, Nat.reduceMul, Nat.reduceSub, Nat.reduceLeDiff, Nat.reduceEqDiff, Int.reduceToNat, Int.reduceLT, Int.reduceLE, Int.reduceAdd, Int.reduceSub, Int.reduceEq, reduceIte, Nat.reduceBNe, Int.reducePow, Nat.reducePow, Int.reduceMul, Int.reduceNeg, isB_i, isB_b, isB_y, isBv_i, isBv_b, eqCells_t, TT]
  refine draw_of cx_ok (by kernel_rfl) 400 [1] [(0, true), (1, true), (2, true), (3, true), (4, true), (5, false), (6, true), (7, false), (8, true)] (by kernel_rfl) rfl ?_
  simp (maxSteps := 4000000) only [Try.results51, g1, g2, XX, Nat.reduceBEq, Nat.reduceLT, Nat.reduceAdd, Nat.reduceMul, Nat.reduceSub, Nat.reduceLeDiff, Nat.reduceEqDiff, Int.reduceToNat, Int.reduceLT, Int.reduceLE, Int.reduceAdd, Int.reduceSub, Int.reduceEq, reduceIte, Nat.reduceBNe, Int.reducePow, Nat.reducePow, Int.reduceMul, Int.reduceNeg, isB_i, isB_b, isB_y, isBv_i, isBv_b, eqCells_t, TT]
  refine call_frame hD [1] rfl rfl ?_ rfl ?_ ?_
  · simp only [XX, Nat.reduceBEq, Nat.reduceLT, Nat.reduceAdd, Nat.reduceMul, Nat.reduceSub, Nat.reduceLeDiff, Nat.reduceEqDiff, Int.reduceToNat, Int.reduceLT, Int.reduceLE, Int.reduceAdd, Int.reduceSub, Int.reduceEq, reduceIte, Nat.reduceBNe, Int.reducePow, Nat.reducePow, Int.reduceMul, Int.reduceNeg, isB_i, isB_b, isB_y, isBv_i, isBv_b, eqCells_t, TT, preOk, ids_bsC, ren_bsC, noRo_bsC, plain_bsC, lt_bsC, ids_byte, ren_byte, noRo_byte, plain_byte, lt_byte, slC_ren]
  · simp only [XX, Nat.reduceBEq, Nat.reduceLT, Nat.reduceAdd, Nat.reduceMul, Nat.reduceSub, Nat.reduceLeDiff, Nat.reduceEqDiff, Int.reduceToNat, Int.reduceLT, Int.reduceLE, Int.reduceAdd, Int.reduceSub, Int.reduceEq, reduceIte, Nat.reduceBNe, Int.reducePow, Nat.reducePow, Int.reduceMul, Int.reduceNeg, isB_i, isB_b, isB_y, isBv_i, isBv_b, eqCells_t, TT, ids_bsC, ren_bsC, noRo_bsC, plain_bsC, lt_bsC, ids_byte, ren_byte, noRo_byte, plain_byte, lt_byte, hc]
  rintro _ _ ⟨rfl, rfl⟩
  simp (maxSteps := 4000000) only [Try.results51, ids_bsC, ren_bsC, noRo_bsC, plain_bsC, lt_bsC, ids_byte, ren_byte, noRo_byte, plain_byte, lt_byte, XX, Nat.reduceBEq, Nat.reduceLT, Nat.reduceAdd, Nat.reduceMul, Nat.reduceSub, Nat.reduceLeDiff, Nat.reduceEqDiff, Int.reduceToNat, Int.reduceLT, Int.reduceLE, Int.reduceAdd, Int.reduceSub, Int.reduceEq, reduceIte, Nat.reduceBNe, Int.reducePow, Nat.reducePow, Int.reduceMul, Int.reduceNeg, isB_i, isB_b, isB_y, isBv_i, isBv_b, eqCells_t, TT]
  exact ⟨_, rfl⟩
end Go.Proofs.Ythbojoiogjdbeaa.Sx
namespace Go.Proofs.Ythbojoiogjdbeaa.Sx
open Go
set_option linter.unusedSimpArgs false
set_option linter.unusedVariables false
set_option maxRecDepth 10000
set_option maxHeartbeats 2000000
/-- What a card's slot is, to see. -/
theorem show2_spec (k : CK) (ok : k.ok) (i : Nat) (s : Sl) (hi : k.tx[i]? = some s) : Spec cx.P 51 [.c (.ptr 0 2), .c (i64 i)] k.h fun t h' => t = .tup [(true, [bC s.own, .sl 3 0 s.d.length s.d.length]), (false, [i64 0])] ∧ h' = k.h ++ [wB true s.d] := by
  have hlt := (List.getElem?_eq_some_iff.1 hi).1
  obtain ⟨g1, g2⟩ := slC_own hi ok.ts
  have r1 := ok.tx1
  have hD := dataS_spec false k.tx i s hi ok.ts
  have hc : (slC k.tx).all (SC.lt 1) = true := slC_lt 1 _
  refine Spec.wk (K := fun t h' => t = .tup [(true, [bC s.own, .sl 4 0 s.d.length s.d.length]), (false, [i64 0])] ∧ ∃ x, h' = k.h ++ [x, wB true s.d]) ?_ fun t h' ⟨h1, x, h2⟩ => ⟨.tup [(true, [bC s.own, .sl 3 0 s.d.length s.d.length]), (false, [i64 0])], k.h ++ [wB true s.d], [some 0, some 1, some 2, some 4], rfl, by subst h2; simp only [XX, Nat.reduceBEq, Nat.reduceLT, Nat.reduceAdd, Nat.reduceMul, Nat.reduceSub, Nat.reduceLeDiff, Nat.reduceEqDiff, Int.reduceToNat, Int.reduceLT, Int.reduceLE, Int.reduceAdd, Int.reduceSub, Int.reduceEq, reduceIte, Nat.reduceBNe, Int.reducePow, Nat.reducePow, Int.reduceMul, Int.reduceNeg, isB_i, isB_b, isB_y, isBv_i, isBv_b, eqCells_t, TT, ids_bsC, ren_bsC, noRo_bsC, plain_bsC, lt_bsC, ids_byte, ren_byte, noRo_byte, plain_byte, lt_byte, slC_ren]; exact ⟨.inl (slC_ids _ _), .inl (slC_ids _ _)⟩, by subst h1; simp only [XX, Nat.reduceBEq, Nat.reduceLT, Nat.reduceAdd, Nat.reduceMul, Nat.reduceSub, Nat.reduceLeDiff, Nat.reduceEqDiff, Int.reduceToNat, Int.reduceLT, Int.reduceLE, Int.reduceAdd, Int.reduceSub, Int.reduceEq, reduceIte, Nat.reduceBNe, Int.reducePow, Nat.reducePow, Int.reduceMul, Int.reduceNeg, isB_i, isB_b, isB_y, isBv_i, isBv_b, eqCells_t, TT, ids_bsC, ren_bsC, noRo_bsC, plain_bsC, lt_bsC, ids_byte, ren_byte, noRo_byte, plain_byte, lt_byte], rfl, rfl⟩
  refine spec_of_X cx_ok Try.func51 rfl (by kernel_rfl) (by kernel_rfl) (Nat.le_of_ble_eq_true rfl) 400 7 ?_
  simp (maxSteps := 4000000) only [Try.results51, XX, Nat.reduceBEq, Nat.reduceLT, Nat.reduceAdd, Nat.reduceMul, Nat.reduceSub, Nat.reduceLeDiff, Nat.reduceEqDiff, Int.reduceToNat, Int.reduceLT, Int.reduceLE, Int.reduceAdd, Int.reduceSub, Int.reduceEq, reduceIte, Nat.reduceBNe, Int.reducePow, Nat.reducePow, Int.reduceMul, Int.reduceNeg, isB_i, isB_b, isB_y, isBv_i, isBv_b, eqCells_t, TT]
  refine call_is (at2_spec true _ 0 1 2 _ _ _ _ _ _ _ rfl i hlt r1) ?_
  rintro _ _ ⟨rfl, rfl⟩
  simp (maxSteps := 4000000) only [Try.results51, XX, Nat.reduceBEq, Nat.reduceLT, Nat.reduceAdd, Nat.reduceMul, Nat.reduceSub, Nat.reduceLeDiff, Nat.reduceEqDiff, Int.reduceToNat, Int.reduceLT, Int.reduceLE, Int.reduceAdd, Int.reduceSub, Int.reduceEq, reduceIte, Nat.reduceBNe, Int.reducePow, Nat.reducePow, Int.reduceMul, Int.reduceNeg, isB_i, isB_b, isB_y, isBv_i, isBv_b, eqCells_t, TT]
  refine draw_of cx_ok (by kernel_rfl) 400 [2] [(0, true), (1, true), (2, true), (3, true), (4, true), (5, false), (6, true), (7, false), (8, true)] (by kernel_rfl) rfl ?_
  simp (maxSteps := 4000000) only [Try.results51, g1, g2, XX, Nat.reduceBEq, Nat.reduceLT, Nat.reduceAdd, Nat.reduceMul, Nat.reduceSub, Nat.reduceLeDiff, Nat.reduceEqDiff, Int.reduceToNat, Int.reduceLT, Int.reduceLE, Int.reduceAdd, Int.reduceSub, Int.reduceEq, reduceIte, Nat.reduceBNe, Int.reducePow, Nat.reducePow, Int.reduceMul, Int.reduceNeg, isB_i, isB_b, isB_y, isBv_i, isBv_b, eqCells_t, TT]
  refine call_frame hD [2] rfl rfl ?_ rfl ?_ ?_
  · simp only [XX, Nat.reduceBEq, Nat.reduceLT, Nat.reduceAdd, Nat.reduceMul, Nat.reduceSub, Nat.reduceLeDiff, Nat.reduceEqDiff, Int.reduceToNat, Int.reduceLT, Int.reduceLE, Int.reduceAdd, Int.reduceSub, Int.reduceEq, reduceIte, Nat.reduceBNe, Int.reducePow, Nat.reducePow, Int.reduceMul, Int.reduceNeg, isB_i, isB_b, isB_y, isBv_i, isBv_b, eqCells_t, TT, preOk, ids_bsC, ren_bsC, noRo_bsC, plain_bsC, lt_bsC, ids_byte, ren_byte, noRo_byte, plain_byte, lt_byte, slC_ren]
  · simp only [XX, Nat.reduceBEq, Nat.reduceLT, Nat.reduceAdd, Nat.reduceMul, Nat.reduceSub, Nat.reduceLeDiff, Nat.reduceEqDiff, Int.reduceToNat, Int.reduceLT, Int.reduceLE, Int.reduceAdd, Int.reduceSub, Int.reduceEq, reduceIte, Nat.reduceBNe, Int.reducePow, Nat.reducePow, Int.reduceMul, Int.reduceNeg, isB_i, isB_b, isB_y, isBv_i, isBv_b, eqCells_t, TT, ids_bsC, ren_bsC, noRo_bsC, plain_bsC, lt_bsC, ids_byte, ren_byte, noRo_byte, plain_byte, lt_byte, hc]
  rintro _ _ ⟨rfl, rfl⟩
  simp (maxSteps := 4000000) only [Try.results51, ids_bsC, ren_bsC, noRo_bsC, plain_bsC, lt_bsC, ids_byte, ren_byte, noRo_byte, plain_byte, lt_byte, XX, Nat.reduceBEq, Nat.reduceLT, Nat.reduceAdd, Nat.reduceMul, Nat.reduceSub, Nat.reduceLeDiff, Nat.reduceEqDiff, Int.reduceToNat, Int.reduceLT, Int.reduceLE, Int.reduceAdd, Int.reduceSub, Int.reduceEq, reduceIte, Nat.reduceBNe, Int.reducePow, Nat.reducePow, Int.reduceMul, Int.reduceNeg, isB_i, isB_b, isB_y, isBv_i, isBv_b, eqCells_t, TT]
  exact ⟨_, rfl⟩
theorem show1N_spec (k : CK) (i : Int) (hi : i < 0 ∨ (k.rx.length : Int) ≤ i) : Spec cx.P 51 [.c (.ptr 0 0), .c (i64 i)] k.h fun t h' => t = .tup [(true, [bC false, .v (.slice none 0 0)]), (false, [i64 40])] ∧ h' = k.h := by
  refine Spec.wk (K := fun t h' => t = .tup [(true, [bC false, .v (.slice none 0 0)]), (false, [i64 40])] ∧ ∃ x, h' = k.h ++ [x]) ?_ fun t h' ⟨h1, x, h2⟩ => ⟨.tup [(true, [bC false, .v (.slice none 0 0)]), (false, [i64 40])], k.h, [some 0, some 1, some 2], rfl, by subst h2; simp only [XX, Nat.reduceBEq, Nat.reduceLT, Nat.reduceAdd, Nat.reduceMul, Nat.reduceSub, Nat.reduceLeDiff, Nat.reduceEqDiff, Int.reduceToNat, Int.reduceLT, Int.reduceLE, Int.reduceAdd, Int.reduceSub, Int.reduceEq, reduceIte, Nat.reduceBNe, Int.reducePow, Nat.reducePow, Int.reduceMul, Int.reduceNeg, isB_i, isB_b, isB_y, isBv_i, isBv_b, eqCells_t, TT, ids_bsC, ren_bsC, noRo_bsC, plain_bsC, lt_bsC, ids_byte, ren_byte, noRo_byte, plain_byte, lt_byte, slC_ren]; exact ⟨.inl (slC_ids _ _), .inl (slC_ids _ _)⟩, by subst h1; simp only [XX, Nat.reduceBEq, Nat.reduceLT, Nat.reduceAdd, Nat.reduceMul, Nat.reduceSub, Nat.reduceLeDiff, Nat.reduceEqDiff, Int.reduceToNat, Int.reduceLT, Int.reduceLE, Int.reduceAdd, Int.reduceSub, Int.reduceEq, reduceIte, Nat.reduceBNe, Int.reducePow, Nat.reducePow, Int.reduceMul, Int.reduceNeg, isB_i, isB_b, isB_y, isBv_i, isBv_b, eqCells_t, TT, ids_bsC, ren_bsC, noRo_bsC, plain_bsC, lt_bsC, ids_byte, ren_byte, noRo_byte, plain_byte, lt_byte], rfl, rfl⟩
  refine spec_of_X cx_ok Try.func51 rfl (by kernel_rfl) (by kernel_rfl) (Nat.le_of_ble_eq_true rfl) 400 7 ?_
  simp (maxSteps := 4000000) only [Try.results51, XX, Nat.reduceBEq, Nat.reduceLT, Nat.reduceAdd, Nat.reduceMul, Nat.reduceSub, Nat.reduceLeDiff, Nat.reduceEqDiff, Int.reduceToNat, Int.reduceLT, Int.reduceLE, Int.reduceAdd, Int.reduceSub, Int.reduceEq, reduceIte, Nat.reduceBNe, Int.reducePow, Nat.reducePow, Int.reduceMul, Int.reduceNeg, isB_i, isB_b, isB_y, isBv_i, isBv_b, eqCells_t, TT]
  refine call_is (at1N_spec true _ 0 1 2 _ _ _ _ _ _ _ rfl i hi) ?_
  rintro _ _ ⟨rfl, rfl⟩
  simp (maxSteps := 4000000) only [Try.results51, XX, Nat.reduceBEq, Nat.reduceLT, Nat.reduceAdd, Nat.reduceMul, Nat.reduceSub, Nat.reduceLeDiff, Nat.reduceEqDiff, Int.reduceToNat, Int.reduceLT, Int.reduceLE, Int.reduceAdd, Int.reduceSub, Int.reduceEq, reduceIte, Nat.reduceBNe, Int.reducePow, Nat.reducePow, Int.reduceMul, Int.reduceNeg, isB_i, isB_b, isB_y, isBv_i, isBv_b, eqCells_t, TT]
  exact ⟨_, rfl⟩
theorem show2N_spec (k : CK) (i : Int) (hi : i < 0 ∨ (k.tx.length : Int) ≤ i) : Spec cx.P 51 [.c (.ptr 0 2), .c (i64 i)] k.h fun t h' => t = .tup [(true, [bC false, .v (.slice none 0 0)]), (false, [i64 40])] ∧ h' = k.h := by
  refine Spec.wk (K := fun t h' => t = .tup [(true, [bC false, .v (.slice none 0 0)]), (false, [i64 40])] ∧ ∃ x, h' = k.h ++ [x]) ?_ fun t h' ⟨h1, x, h2⟩ => ⟨.tup [(true, [bC false, .v (.slice none 0 0)]), (false, [i64 40])], k.h, [some 0, some 1, some 2], rfl, by subst h2; simp only [XX, Nat.reduceBEq, Nat.reduceLT, Nat.reduceAdd, Nat.reduceMul, Nat.reduceSub, Nat.reduceLeDiff, Nat.reduceEqDiff, Int.reduceToNat, Int.reduceLT, Int.reduceLE, Int.reduceAdd, Int.reduceSub, Int.reduceEq, reduceIte, Nat.reduceBNe, Int.reducePow, Nat.reducePow, Int.reduceMul, Int.reduceNeg, isB_i, isB_b, isB_y, isBv_i, isBv_b, eqCells_t, TT, ids_bsC, ren_bsC, noRo_bsC, plain_bsC, lt_bsC, ids_byte, ren_byte, noRo_byte, plain_byte, lt_byte, slC_ren]; exact ⟨.inl (slC_ids _ _), .inl (slC_ids _ _)⟩, by subst h1; simp only [XX, Nat.reduceBEq, Nat.reduceLT, Nat.reduceAdd, Nat.reduceMul, Nat.reduceSub, Nat.reduceLeDiff, Nat.reduceEqDiff, Int.reduceToNat, Int.reduceLT, Int.reduceLE, Int.reduceAdd, Int.reduceSub, Int.reduceEq, reduceIte, Nat.reduceBNe, Int.reducePow, Nat.reducePow, Int.reduceMul, Int.reduceNeg, isB_i, isB_b, isB_y, isBv_i, isBv_b, eqCells_t, TT, ids_bsC, ren_bsC, noRo_bsC, plain_bsC, lt_bsC, ids_byte, ren_byte, noRo_byte, plain_byte, lt_byte], rfl, rfl⟩
  refine spec_of_X cx_ok Try.func51 rfl (by kernel_rfl) (by kernel_rfl) (Nat.le_of_ble_eq_true rfl) 400 7 ?_
  simp (maxSteps := 4000000) only [Try.results51, XX, Nat.reduceBEq, Nat.reduceLT, Nat.reduceAdd, Nat.reduceMul, Nat.reduceSub, Nat.reduceLeDiff, Nat.reduceEqDiff, Int.reduceToNat, Int.reduceLT, Int.reduceLE, Int.reduceAdd, Int.reduceSub, Int.reduceEq, reduceIte, Nat.reduceBNe, Int.reducePow, Nat.reducePow, Int.reduceMul, Int.reduceNeg, isB_i, isB_b, isB_y, isBv_i, isBv_b, eqCells_t, TT]
  refine call_is (at2N_spec true _ 0 1 2 _ _ _ _ _ _ _ rfl i hi) ?_
  rintro _ _ ⟨rfl, rfl⟩
  simp (maxSteps := 4000000) only [Try.results51, XX, Nat.reduceBEq, Nat.reduceLT, Nat.reduceAdd, Nat.reduceMul, Nat.reduceSub, Nat.reduceLeDiff, Nat.reduceEqDiff, Int.reduceToNat, Int.reduceLT, Int.reduceLE, Int.reduceAdd, Int.reduceSub, Int.reduceEq, reduceIte, Nat.reduceBNe, Int.reducePow, Nat.reducePow, Int.reduceMul, Int.reduceNeg, isB_i, isB_b, isB_y, isBv_i, isBv_b, eqCells_t, TT]
  exact ⟨_, rfl⟩
theorem rx_spec (k : CK) (ok : k.ok) (i : Nat) (s : Sl) (hi : k.rx[i]? = some s) : Spec cx.P 30 [.c (.ptr 0 0), .c (i64 i)] k.h fun t h' => t = .tup [(true, [bC s.own, .sl 3 0 s.d.length s.d.length]), (false, [i64 0])] ∧ h' = k.h ++ [wB true s.d] := by
  refine Spec.wk (K := fun t h' => t = .tup [(true, [bC s.own, .sl 4 0 s.d.length s.d.length]), (false, [i64 0])] ∧ ∃ x, h' = k.h ++ [x, wB true s.d]) ?_ fun t h' ⟨h1, x, h2⟩ => ⟨.tup [(true, [bC s.own, .sl 3 0 s.d.length s.d.length]), (false, [i64 0])], k.h ++ [wB true s.d], [some 0, some 1, some 2, some 4], rfl, by subst h2; simp only [XX, Nat.reduceBEq, Nat.reduceLT, Nat.reduceAdd, Nat.reduceMul, Nat.reduceSub, Nat.reduceLeDiff, Nat.reduceEqDiff, Int.reduceToNat, Int.reduceLT, Int.reduceLE, Int.reduceAdd, Int.reduceSub, Int.reduceEq, reduceIte, Nat.reduceBNe, Int.reducePow, Nat.reducePow, Int.reduceMul, Int.reduceNeg, isB_i, isB_b, isB_y, isBv_i, isBv_b, eqCells_t, TT, ids_bsC, ren_bsC, noRo_bsC, plain_bsC, lt_bsC, ids_byte, ren_byte, noRo_byte, plain_byte, lt_byte, slC_ren]; exact ⟨.inl (slC_ids _ _), .inl (slC_ids _ _)⟩, by subst h1; simp only [XX, Nat.reduceBEq, Nat.reduceLT, Nat.reduceAdd, Nat.reduceMul, Nat.reduceSub, Nat.reduceLeDiff, Nat.reduceEqDiff, Int.reduceToNat, Int.reduceLT, Int.reduceLE, Int.reduceAdd, Int.reduceSub, Int.reduceEq, reduceIte, Nat.reduceBNe, Int.reducePow, Nat.reducePow, Int.reduceMul, Int.reduceNeg, isB_i, isB_b, isB_y, isBv_i, isBv_b, eqCells_t, TT, ids_bsC, ren_bsC, noRo_bsC, plain_bsC, lt_bsC, ids_byte, ren_byte, noRo_byte, plain_byte, lt_byte], rfl, rfl⟩
  refine spec_of_X cx_ok Try.func30 rfl (by kernel_rfl) (by kernel_rfl) (Nat.le_of_ble_eq_true rfl) 400 6 ?_
  simp (maxSteps := 4000000) only [Try.results30, XX, Nat.reduceBEq, Nat.reduceLT, Nat.reduceAdd, Nat.reduceMul, Nat.reduceSub, Nat.reduceLeDiff, Nat.reduceEqDiff, Int.reduceToNat, Int.reduceLT, Int.reduceLE, Int.reduceAdd, Int.reduceSub, Int.reduceEq, reduceIte, Nat.reduceBNe, Int.reducePow, Nat.reducePow, Int.reduceMul, Int.reduceNeg, isB_i, isB_b, isB_y, isBv_i, isBv_b, eqCells_t, TT]
  refine call_frame (show1_spec k ok i s hi) [0, 1, 2] rfl rfl ?_ rfl ?_ ?_
  · simp only [XX, Nat.reduceBEq, Nat.reduceLT, Nat.reduceAdd, Nat.reduceMul, Nat.reduceSub, Nat.reduceLeDiff, Nat.reduceEqDiff, Int.reduceToNat, Int.reduceLT, Int.reduceLE, Int.reduceAdd, Int.reduceSub, Int.reduceEq, reduceIte, Nat.reduceBNe, Int.reducePow, Nat.reducePow, Int.reduceMul, Int.reduceNeg, isB_i, isB_b, isB_y, isBv_i, isBv_b, eqCells_t, TT, preOk, ids_bsC, ren_bsC, noRo_bsC, plain_bsC, lt_bsC, ids_byte, ren_byte, noRo_byte, plain_byte, lt_byte, slC_ren]
  · simp only [XX, Nat.reduceBEq, Nat.reduceLT, Nat.reduceAdd, Nat.reduceMul, Nat.reduceSub, Nat.reduceLeDiff, Nat.reduceEqDiff, Int.reduceToNat, Int.reduceLT, Int.reduceLE, Int.reduceAdd, Int.reduceSub, Int.reduceEq, reduceIte, Nat.reduceBNe, Int.reducePow, Nat.reducePow, Int.reduceMul, Int.reduceNeg, isB_i, isB_b, isB_y, isBv_i, isBv_b, eqCells_t, TT, ids_bsC, ren_bsC, noRo_bsC, plain_bsC, lt_bsC, ids_byte, ren_byte, noRo_byte, plain_byte, lt_byte, slC_lt]; rfl
  rintro _ _ ⟨rfl, rfl⟩
  simp (maxSteps := 4000000) only [Try.results30, ids_bsC, ren_bsC, noRo_bsC, plain_bsC, lt_bsC, ids_byte, ren_byte, noRo_byte, plain_byte, lt_byte, slC_ren, XX, Nat.reduceBEq, Nat.reduceLT, Nat.reduceAdd, Nat.reduceMul, Nat.reduceSub, Nat.reduceLeDiff, Nat.reduceEqDiff, Int.reduceToNat, Int.reduceLT, Int.reduceLE, Int.reduceAdd, Int.reduceSub, Int.reduceEq, reduceIte, Nat.reduceBNe, Int.reducePow, Nat.reducePow, Int.reduceMul, Int.reduceNeg, isB_i, isB_b, isB_y, isBv_i, isBv_b, eqCells_t, TT]
  exact ⟨_, rfl⟩
theorem rxN_spec (k : CK) (i : Int) (hi : i < 0 ∨ (k.rx.length : Int) ≤ i) : Spec cx.P 30 [.c (.ptr 0 0), .c (i64 i)] k.h fun t h' => t = .tup [(true, [bC false, .v (.slice none 0 0)]), (false, [i64 40])] ∧ h' = k.h := by
  refine Spec.wk (K := fun t h' => t = .tup [(true, [bC false, .v (.slice none 0 0)]), (false, [i64 40])] ∧ ∃ x, h' = k.h ++ [x]) ?_ fun t h' ⟨h1, x, h2⟩ => ⟨.tup [(true, [bC false, .v (.slice none 0 0)]), (false, [i64 40])], k.h, [some 0, some 1, some 2], rfl, by subst h2; simp only [XX, Nat.reduceBEq, Nat.reduceLT, Nat.reduceAdd, Nat.reduceMul, Nat.reduceSub, Nat.reduceLeDiff, Nat.reduceEqDiff, Int.reduceToNat, Int.reduceLT, Int.reduceLE, Int.reduceAdd, Int.reduceSub, Int.reduceEq, reduceIte, Nat.reduceBNe, Int.reducePow, Nat.reducePow, Int.reduceMul, Int.reduceNeg, isB_i, isB_b, isB_y, isBv_i, isBv_b, eqCells_t, TT, ids_bsC, ren_bsC, noRo_bsC, plain_bsC, lt_bsC, ids_byte, ren_byte, noRo_byte, plain_byte, lt_byte, slC_ren]; exact ⟨.inl (slC_ids _ _), .inl (slC_ids _ _)⟩, by subst h1; simp only [XX, Nat.reduceBEq, Nat.reduceLT, Nat.reduceAdd, Nat.reduceMul, Nat.reduceSub, Nat.reduceLeDiff, Nat.reduceEqDiff, Int.reduceToNat, Int.reduceLT, Int.reduceLE, Int.reduceAdd, Int.reduceSub, Int.reduceEq, reduceIte, Nat.reduceBNe, Int.reducePow, Nat.reducePow, Int.reduceMul, Int.reduceNeg, isB_i, isB_b, isB_y, isBv_i, isBv_b, eqCells_t, TT, ids_bsC, ren_bsC, noRo_bsC, plain_bsC, lt_bsC, ids_byte, ren_byte, noRo_byte, plain_byte, lt_byte], rfl, rfl⟩
  refine spec_of_X cx_ok Try.func30 rfl (by kernel_rfl) (by kernel_rfl) (Nat.le_of_ble_eq_true rfl) 400 6 ?_
  simp (maxSteps := 4000000) only [Try.results30, XX, Nat.reduceBEq, Nat.reduceLT, Nat.reduceAdd, Nat.reduceMul, Nat.reduceSub, Nat.reduceLeDiff, Nat.reduceEqDiff, Int.reduceToNat, Int.reduceLT, Int.reduceLE, Int.reduceAdd, Int.reduceSub, Int.reduceEq, reduceIte, Nat.reduceBNe, Int.reducePow, Nat.reducePow, Int.reduceMul, Int.reduceNeg, isB_i, isB_b, isB_y, isBv_i, isBv_b, eqCells_t, TT]
  refine call_frame (show1N_spec k i hi) [0, 1, 2] rfl rfl ?_ rfl ?_ ?_
  · simp only [XX, Nat.reduceBEq, Nat.reduceLT, Nat.reduceAdd, Nat.reduceMul, Nat.reduceSub, Nat.reduceLeDiff, Nat.reduceEqDiff, Int.reduceToNat, Int.reduceLT, Int.reduceLE, Int.reduceAdd, Int.reduceSub, Int.reduceEq, reduceIte, Nat.reduceBNe, Int.reducePow, Nat.reducePow, Int.reduceMul, Int.reduceNeg, isB_i, isB_b, isB_y, isBv_i, isBv_b, eqCells_t, TT, preOk, ids_bsC, ren_bsC, noRo_bsC, plain_bsC, lt_bsC, ids_byte, ren_byte, noRo_byte, plain_byte, lt_byte, slC_ren]
  · simp only [XX, Nat.reduceBEq, Nat.reduceLT, Nat.reduceAdd, Nat.reduceMul, Nat.reduceSub, Nat.reduceLeDiff, Nat.reduceEqDiff, Int.reduceToNat, Int.reduceLT, Int.reduceLE, Int.reduceAdd, Int.reduceSub, Int.reduceEq, reduceIte, Nat.reduceBNe, Int.reducePow, Nat.reducePow, Int.reduceMul, Int.reduceNeg, isB_i, isB_b, isB_y, isBv_i, isBv_b, eqCells_t, TT, ids_bsC, ren_bsC, noRo_bsC, plain_bsC, lt_bsC, ids_byte, ren_byte, noRo_byte, plain_byte, lt_byte, slC_lt]; rfl
  rintro _ _ ⟨rfl, rfl⟩
  simp (maxSteps := 4000000) only [Try.results30, ids_bsC, ren_bsC, noRo_bsC, plain_bsC, lt_bsC, ids_byte, ren_byte, noRo_byte, plain_byte, lt_byte, slC_ren, XX, Nat.reduceBEq, Nat.reduceLT, Nat.reduceAdd, Nat.reduceMul, Nat.reduceSub, Nat.reduceLeDiff, Nat.reduceEqDiff, Int.reduceToNat, Int.reduceLT, Int.reduceLE, Int.reduceAdd, Int.reduceSub, Int.reduceEq, reduceIte, Nat.reduceBNe, Int.reducePow, Nat.reducePow, Int.reduceMul, Int.reduceNeg, isB_i, isB_b, isB_y, isBv_i, isBv_b, eqCells_t, TT]
  exact ⟨_, rfl⟩
theorem tx_spec (k : CK) (ok : k.ok) (i : Nat) (s : Sl) (hi : k.tx[i]? = some s) : Spec cx.P 45 [.c (.ptr 0 0), .c (i64 i)] k.h fun t h' => t = .tup [(true, [bC s.own, .sl 3 0 s.d.length s.d.length]), (false, [i64 0])] ∧ h' = k.h ++ [wB true s.d] := by
  refine Spec.wk (K := fun t h' => t = .tup [(true, [bC s.own, .sl 4 0 s.d.length s.d.length]), (false, [i64 0])] ∧ ∃ x, h' = k.h ++ [x, wB true s.d]) ?_ fun t h' ⟨h1, x, h2⟩ => ⟨.tup [(true, [bC s.own, .sl 3 0 s.d.length s.d.length]), (false, [i64 0])], k.h ++ [wB true s.d], [some 0, some 1, some 2, some 4], rfl, by subst h2; simp only [XX, Nat.reduceBEq, Nat.reduceLT, Nat.reduceAdd, Nat.reduceMul, Nat.reduceSub, Nat.reduceLeDiff, Nat.reduceEqDiff, Int.reduceToNat, Int.reduceLT, Int.reduceLE, Int.reduceAdd, Int.reduceSub, Int.reduceEq, reduceIte, Nat.reduceBNe, Int.reducePow, Nat.reducePow, Int.reduceMul, Int.reduceNeg, isB_i, isB_b, isB_y, isBv_i, isBv_b, eqCells_t, TT, ids_bsC, ren_bsC, noRo_bsC, plain_bsC, lt_bsC, ids_byte, ren_byte, noRo_byte, plain_byte, lt_byte, slC_ren]; exact ⟨.inl (slC_ids _ _), .inl (slC_ids _ _)⟩, by subst h1; simp only [XX, Nat.reduceBEq, Nat.reduceLT, Nat.reduceAdd, Nat.reduceMul, Nat.reduceSub, Nat.reduceLeDiff, Nat.reduceEqDiff, Int.reduceToNat, Int.reduceLT, Int.reduceLE, Int.reduceAdd, Int.reduceSub, Int.reduceEq, reduceIte, Nat.reduceBNe, Int.reducePow, Nat.reducePow, Int.reduceMul, Int.reduceNeg, isB_i, isB_b, isB_y, isBv_i, isBv_b, eqCells_t, TT, ids_bsC, ren_bsC, noRo_bsC, plain_bsC, lt_bsC, ids_byte, ren_byte, noRo_byte, plain_byte, lt_byte], rfl, rfl⟩
  refine spec_of_X cx_ok Try.func45 rfl (by kernel_rfl) (by kernel_rfl) (Nat.le_of_ble_eq_true rfl) 400 6 ?_
  simp (maxSteps := 4000000) only [Try.results45, XX, Nat.reduceBEq, Nat.reduceLT, Nat.reduceAdd, Nat.reduceMul, Nat.reduceSub, Nat.reduceLeDiff, Nat.reduceEqDiff, Int.reduceToNat, Int.reduceLT, Int.reduceLE, Int.reduceAdd, Int.reduceSub, Int.reduceEq, reduceIte, Nat.reduceBNe, Int.reducePow, Nat.reducePow, Int.reduceMul, Int.reduceNeg, isB_i, isB_b, isB_y, isBv_i, isBv_b, eqCells_t, TT]
  refine call_frame (show2_spec k ok i s hi) [0, 1, 2] rfl rfl ?_ rfl ?_ ?_
  · simp only [XX, Nat.reduceBEq, Nat.reduceLT, Nat.reduceAdd, Nat.reduceMul, Nat.reduceSub, Nat.reduceLeDiff, Nat.reduceEqDiff, Int.reduceToNat, Int.reduceLT, Int.reduceLE, Int.reduceAdd, Int.reduceSub, Int.reduceEq, reduceIte, Nat.reduceBNe, Int.reducePow, Nat.reducePow, Int.reduceMul, Int.reduceNeg, isB_i, isB_b, isB_y, isBv_i, isBv_b, eqCells_t, TT, preOk, ids_bsC, ren_bsC, noRo_bsC, plain_bsC, lt_bsC, ids_byte, ren_byte, noRo_byte, plain_byte, lt_byte, slC_ren]
  · simp only [XX, Nat.reduceBEq, Nat.reduceLT, Nat.reduceAdd, Nat.reduceMul, Nat.reduceSub, Nat.reduceLeDiff, Nat.reduceEqDiff, Int.reduceToNat, Int.reduceLT, Int.reduceLE, Int.reduceAdd, Int.reduceSub, Int.reduceEq, reduceIte, Nat.reduceBNe, Int.reducePow, Nat.reducePow, Int.reduceMul, Int.reduceNeg, isB_i, isB_b, isB_y, isBv_i, isBv_b, eqCells_t, TT, ids_bsC, ren_bsC, noRo_bsC, plain_bsC, lt_bsC, ids_byte, ren_byte, noRo_byte, plain_byte, lt_byte, slC_lt]; rfl
  rintro _ _ ⟨rfl, rfl⟩
  simp (maxSteps := 4000000) only [Try.results45, ids_bsC, ren_bsC, noRo_bsC, plain_bsC, lt_bsC, ids_byte, ren_byte, noRo_byte, plain_byte, lt_byte, slC_ren, XX, Nat.reduceBEq, Nat.reduceLT, Nat.reduceAdd, Nat.reduceMul, Nat.reduceSub, Nat.reduceLeDiff, Nat.reduceEqDiff, Int.reduceToNat, Int.reduceLT, Int.reduceLE, Int.reduceAdd, Int.reduceSub, Int.reduceEq, reduceIte, Nat.reduceBNe, Int.reducePow, Nat.reducePow, Int.reduceMul, Int.reduceNeg, isB_i, isB_b, isB_y, isBv_i, isBv_b, eqCells_t, TT]
  exact ⟨_, rfl⟩
theorem txN_spec (k : CK) (i : Int) (hi : i < 0 ∨ (k.tx.length : Int) ≤ i) : Spec cx.P 45 [.c (.ptr 0 0), .c (i64 i)] k.h fun t h' => t = .tup [(true, [bC false, .v (.slice none 0 0)]), (false, [i64 40])] ∧ h' = k.h := by
  refine Spec.wk (K := fun t h' => t = .tup [(true, [bC false, .v (.slice none 0 0)]), (false, [i64 40])] ∧ ∃ x, h' = k.h ++ [x]) ?_ fun t h' ⟨h1, x, h2⟩ => ⟨.tup [(true, [bC false, .v (.slice none 0 0)]), (false, [i64 40])], k.h, [some 0, some 1, some 2], rfl, by subst h2; simp only [XX, Nat.reduceBEq, Nat.reduceLT, Nat.reduceAdd, Nat.reduceMul, Nat.reduceSub, Nat.reduceLeDiff, Nat.reduceEqDiff, Int.reduceToNat, Int.reduceLT, Int.reduceLE, Int.reduceAdd, Int.reduceSub, Int.reduceEq, reduceIte, Nat.reduceBNe, Int.reducePow, Nat.reducePow, Int.reduceMul, Int.reduceNeg, isB_i, isB_b, isB_y, isBv_i, isBv_b, eqCells_t, TT, ids_bsC, ren_bsC, noRo_bsC, plain_bsC, lt_bsC, ids_byte, ren_byte, noRo_byte, plain_byte, lt_byte, slC_ren]; exact ⟨.inl (slC_ids _ _), .inl (slC_ids _ _)⟩, by subst h1; simp only [XX, Nat.reduceBEq, Nat.reduceLT, Nat.reduceAdd, Nat.reduceMul, Nat.reduceSub, Nat.reduceLeDiff, Nat.reduceEqDiff, Int.reduceToNat, Int.reduceLT, Int.reduceLE, Int.reduceAdd, Int.reduceSub, Int.reduceEq, reduceIte, Nat.reduceBNe, Int.reducePow, Nat.reducePow, Int.reduceMul, Int.reduceNeg, isB_i, isB_b, isB_y, isBv_i, isBv_b, eqCells_t, TT, ids_bsC, ren_bsC, noRo_bsC, plain_bsC, lt_bsC, ids_byte, ren_byte, noRo_byte, plain_byte, lt_byte], rfl, rfl⟩
  refine spec_of_X cx_ok Try.func45 rfl (by kernel_rfl) (by kernel_rfl) (Nat.le_of_ble_eq_true rfl) 400 6 ?_
  simp (maxSteps := 4000000) only [Try.results45, XX, Nat.reduceBEq, Nat.reduceLT, Nat.reduceAdd, Nat.reduceMul, Nat.reduceSub, Nat.reduceLeDiff, Nat.reduceEqDiff, Int.reduceToNat, Int.reduceLT, Int.reduceLE, Int.reduceAdd, Int.reduceSub, Int.reduceEq, reduceIte, Nat.reduceBNe, Int.reducePow, Nat.reducePow, Int.reduceMul, Int.reduceNeg, isB_i, isB_b, isB_y, isBv_i, isBv_b, eqCells_t, TT]
  refine call_frame (show2N_spec k i hi) [0, 1, 2] rfl rfl ?_ rfl ?_ ?_
  · simp only [XX, Nat.reduceBEq, Nat.reduceLT, Nat.reduceAdd, Nat.reduceMul, Nat.reduceSub, Nat.reduceLeDiff, Nat.reduceEqDiff, Int.reduceToNat, Int.reduceLT, Int.reduceLE, Int.reduceAdd, Int.reduceSub, Int.reduceEq, reduceIte, Nat.reduceBNe, Int.reducePow, Nat.reducePow, Int.reduceMul, Int.reduceNeg, isB_i, isB_b, isB_y, isBv_i, isBv_b, eqCells_t, TT, preOk, ids_bsC, ren_bsC, noRo_bsC, plain_bsC, lt_bsC, ids_byte, ren_byte, noRo_byte, plain_byte, lt_byte, slC_ren]
  · simp only [XX, Nat.reduceBEq, Nat.reduceLT, Nat.reduceAdd, Nat.reduceMul, Nat.reduceSub, Nat.reduceLeDiff, Nat.reduceEqDiff, Int.reduceToNat, Int.reduceLT, Int.reduceLE, Int.reduceAdd, Int.reduceSub, Int.reduceEq, reduceIte, Nat.reduceBNe, Int.reducePow, Nat.reducePow, Int.reduceMul, Int.reduceNeg, isB_i, isB_b, isB_y, isBv_i, isBv_b, eqCells_t, TT, ids_bsC, ren_bsC, noRo_bsC, plain_bsC, lt_bsC, ids_byte, ren_byte, noRo_byte, plain_byte, lt_byte, slC_lt]; rfl
  rintro _ _ ⟨rfl, rfl⟩
  simp (maxSteps := 4000000) only [Try.results45, ids_bsC, ren_bsC, noRo_bsC, plain_bsC, lt_bsC, ids_byte, ren_byte, noRo_byte, plain_byte, lt_byte, slC_ren, XX, Nat.reduceBEq, Nat.reduceLT, Nat.reduceAdd, Nat.reduceMul, Nat.reduceSub, Nat.reduceLeDiff, Nat.reduceEqDiff, Int.reduceToNat, Int.reduceLT, Int.reduceLE, Int.reduceAdd, Int.reduceSub, Int.reduceEq, reduceIte, Nat.reduceBNe, Int.reducePow, Nat.reducePow, Int.reduceMul, Int.reduceNeg, isB_i, isB_b, isB_y, isBv_i, isBv_b, eqCells_t, TT]
  exact ⟨_, rfl⟩
/-- A call that gives a slot back. -/
theorem giveN_spec (k : CK) (i : Int) (hi : i < 0 ∨ (k.rx.length : Int) ≤ i) : Spec cx.P 33 [.c (.ptr 0 0), .c (i64 i)] k.h fun t h' => t = .c (i64 40) ∧ h' = k.h := by
  refine spec_of_X cx_ok Try.func33 rfl (by kernel_rfl) (by kernel_rfl) (Nat.le_of_ble_eq_true rfl) 400 6 ?_
  simp (maxSteps := 4000000) only [Try.results33, XX, Nat.reduceBEq, Nat.reduceLT, Nat.reduceAdd, Nat.reduceMul, Nat.reduceSub, Nat.reduceLeDiff, Nat.reduceEqDiff, Int.reduceToNat, Int.reduceLT, Int.reduceLE, Int.reduceAdd, Int.reduceSub, Int.reduceEq, reduceIte, Nat.reduceBNe, Int.reducePow, Nat.reducePow, Int.reduceMul, Int.reduceNeg, isB_i, isB_b, isB_y, isBv_i, isBv_b, eqCells_t, TT]
  refine call_is (at1N_spec true _ 0 1 2 _ _ _ _ _ _ _ rfl i hi) ?_
  rintro _ _ ⟨rfl, rfl⟩
  simp (maxSteps := 4000000) only [Try.results33, XX, Nat.reduceBEq, Nat.reduceLT, Nat.reduceAdd, Nat.reduceMul, Nat.reduceSub, Nat.reduceLeDiff, Nat.reduceEqDiff, Int.reduceToNat, Int.reduceLT, Int.reduceLE, Int.reduceAdd, Int.reduceSub, Int.reduceEq, reduceIte, Nat.reduceBNe, Int.reducePow, Nat.reducePow, Int.reduceMul, Int.reduceNeg, isB_i, isB_b, isB_y, isBv_i, isBv_b, eqCells_t, TT]
theorem giveO_spec (k : CK) (ok : k.ok) (i : Nat) (s : Sl) (hi : k.rx[i]? = some s) (hs : s.own = true) : Spec cx.P 33 [.c (.ptr 0 0), .c (i64 i)] k.h fun t h' => t = .c (i64 41) ∧ h' = k.h := by
  have hlt := (List.getElem?_eq_some_iff.1 hi).1
  obtain ⟨g1, g2⟩ := slC_own hi ok.rs
  have r1 := ok.rx1
  rw [hs] at g1
  refine spec_of_X cx_ok Try.func33 rfl (by kernel_rfl) (by kernel_rfl) (Nat.le_of_ble_eq_true rfl) 400 6 ?_
  simp (maxSteps := 4000000) only [Try.results33, XX, Nat.reduceBEq, Nat.reduceLT, Nat.reduceAdd, Nat.reduceMul, Nat.reduceSub, Nat.reduceLeDiff, Nat.reduceEqDiff, Int.reduceToNat, Int.reduceLT, Int.reduceLE, Int.reduceAdd, Int.reduceSub, Int.reduceEq, reduceIte, Nat.reduceBNe, Int.reducePow, Nat.reducePow, Int.reduceMul, Int.reduceNeg, isB_i, isB_b, isB_y, isBv_i, isBv_b, eqCells_t, TT]
  refine call_is (at1_spec true _ 0 1 2 _ _ _ _ _ _ _ rfl i hlt r1) ?_
  rintro _ _ ⟨rfl, rfl⟩
  simp (maxSteps := 4000000) only [Try.results33, g1, g2, XX, Nat.reduceBEq, Nat.reduceLT, Nat.reduceAdd, Nat.reduceMul, Nat.reduceSub, Nat.reduceLeDiff, Nat.reduceEqDiff, Int.reduceToNat, Int.reduceLT, Int.reduceLE, Int.reduceAdd, Int.reduceSub, Int.reduceEq, reduceIte, Nat.reduceBNe, Int.reducePow, Nat.reducePow, Int.reduceMul, Int.reduceNeg, isB_i, isB_b, isB_y, isBv_i, isBv_b, eqCells_t, TT]
theorem give_spec (k : CK) (ok : k.ok) (i : Nat) (s : Sl) (hi : k.rx[i]? = some s) (hs : s.own = false) : Spec cx.P 33 [.c (.ptr 0 0), .c (i64 i)] k.h fun t h' => t = .c (i64 0) ∧ h' = CK.h { k with rx := k.rx.set i ⟨true, [], s.d ++ s.j⟩ } := by
  have hlt := (List.getElem?_eq_some_iff.1 hi).1
  obtain ⟨g1, g2⟩ := slC_own hi ok.rs
  have r1 := ok.rx1
  rw [hs] at g1
  refine spec_of_X cx_ok Try.func33 rfl (by kernel_rfl) (by kernel_rfl) (Nat.le_of_ble_eq_true rfl) 400 6 ?_
  simp (maxSteps := 4000000) only [Try.results33, XX, Nat.reduceBEq, Nat.reduceLT, Nat.reduceAdd, Nat.reduceMul, Nat.reduceSub, Nat.reduceLeDiff, Nat.reduceEqDiff, Int.reduceToNat, Int.reduceLT, Int.reduceLE, Int.reduceAdd, Int.reduceSub, Int.reduceEq, reduceIte, Nat.reduceBNe, Int.reducePow, Nat.reducePow, Int.reduceMul, Int.reduceNeg, isB_i, isB_b, isB_y, isBv_i, isBv_b, eqCells_t, TT]
  refine call_is (at1_spec true _ 0 1 2 _ _ _ _ _ _ _ rfl i hlt r1) ?_
  rintro _ _ ⟨rfl, rfl⟩
  simp (maxSteps := 4000000) only [Try.results33, g1, g2, XX, Nat.reduceBEq, Nat.reduceLT, Nat.reduceAdd, Nat.reduceMul, Nat.reduceSub, Nat.reduceLeDiff, Nat.reduceEqDiff, Int.reduceToNat, Int.reduceLT, Int.reduceLE, Int.reduceAdd, Int.reduceSub, Int.reduceEq, reduceIte, Nat.reduceBNe, Int.reducePow, Nat.reducePow, Int.reduceMul, Int.reduceNeg, isB_i, isB_b, isB_y, isBv_i, isBv_b, eqCells_t, TT]
  refine call_is (put0S_spec _ 1 k.rx i s hi ok.rs true rfl) ?_
  rintro _ _ ⟨rfl, rfl⟩
  simp (maxSteps := 4000000) only [Try.results33, XX, Nat.reduceBEq, Nat.reduceLT, Nat.reduceAdd, Nat.reduceMul, Nat.reduceSub, Nat.reduceLeDiff, Nat.reduceEqDiff, Int.reduceToNat, Int.reduceLT, Int.reduceLE, Int.reduceAdd, Int.reduceSub, Int.reduceEq, reduceIte, Nat.reduceBNe, Int.reducePow, Nat.reducePow, Int.reduceMul, Int.reduceNeg, isB_i, isB_b, isB_y, isBv_i, isBv_b, eqCells_t, TT]
  simp only [CK.h, List.length_set, List.set_cons_succ, List.set_cons_zero]
/-- A frame is laid to be sent. -/
theorem layN_spec (k : CK) (i : Int) (x : SC) (hi : i < 0 ∨ (k.tx.length : Int) ≤ i) : Spec cx.P 57 [.c (.ptr 0 0), .c (i64 i), .c x] k.h fun t h' => t = .c (i64 40) ∧ h' = k.h := by
  refine spec_of_X cx_ok Try.func57 rfl (by kernel_rfl) (by kernel_rfl) (Nat.le_of_ble_eq_true rfl) 400 8 ?_
  simp (maxSteps := 4000000) only [Try.results57, XX, Nat.reduceBEq, Nat.reduceLT, Nat.reduceAdd, Nat.reduceMul, Nat.reduceSub, Nat.reduceLeDiff, Nat.reduceEqDiff, Int.reduceToNat, Int.reduceLT, Int.reduceLE, Int.reduceAdd, Int.reduceSub, Int.reduceEq, reduceIte, Nat.reduceBNe, Int.reducePow, Nat.reducePow, Int.reduceMul, Int.reduceNeg, isB_i, isB_b, isB_y, isBv_i, isBv_b, eqCells_t, TT]
  refine call_is (at2N_spec true _ 0 1 2 _ _ _ _ _ _ _ rfl i hi) ?_
  rintro _ _ ⟨rfl, rfl⟩
  simp (maxSteps := 4000000) only [Try.results57, XX, Nat.reduceBEq, Nat.reduceLT, Nat.reduceAdd, Nat.reduceMul, Nat.reduceSub, Nat.reduceLeDiff, Nat.reduceEqDiff, Int.reduceToNat, Int.reduceLT, Int.reduceLE, Int.reduceAdd, Int.reduceSub, Int.reduceEq, reduceIte, Nat.reduceBNe, Int.reducePow, Nat.reducePow, Int.reduceMul, Int.reduceNeg, isB_i, isB_b, isB_y, isBv_i, isBv_b, eqCells_t, TT]
theorem layE_spec (k : CK) (ok : k.ok) (i : Nat) (s : Sl) (hi : k.tx[i]? = some s) (b sp : List UInt8) (c : Nat) (e : Int) (he : (b.length < 60 ∧ e = 5) ∨ (1514 < b.length ∧ e = 2) ∨ (60 ≤ b.length ∧ b.length ≤ 1514 ∧ s.own = true ∧ e = 41)) : Spec cx.P 57 [.c (.ptr 0 0), .c (i64 i), .c (roB b sp c)] k.h fun t h' => t = .c (i64 e) ∧ h' = k.h := by
  have hlt := (List.getElem?_eq_some_iff.1 hi).1
  obtain ⟨g1, g2⟩ := slC_own hi ok.ts
  have r1 := ok.tx1
  refine spec_of_X cx_ok Try.func57 rfl (by kernel_rfl) (by kernel_rfl) (Nat.le_of_ble_eq_true rfl) 400 8 ?_
  simp (maxSteps := 4000000) only [Try.results57, XX, Nat.reduceBEq, Nat.reduceLT, Nat.reduceAdd, Nat.reduceMul, Nat.reduceSub, Nat.reduceLeDiff, Nat.reduceEqDiff, Int.reduceToNat, Int.reduceLT, Int.reduceLE, Int.reduceAdd, Int.reduceSub, Int.reduceEq, reduceIte, Nat.reduceBNe, Int.reducePow, Nat.reducePow, Int.reduceMul, Int.reduceNeg, isB_i, isB_b, isB_y, isBv_i, isBv_b, eqCells_t, TT]
  refine call_is (at2_spec true _ 0 1 2 _ _ _ _ _ _ _ rfl i hlt r1) ?_
  rintro _ _ ⟨rfl, rfl⟩
  by_cases h1 : b.length < 60
  · obtain rfl : e = 5 := by omega
    have d1 : decide ((b.length : Int) < 60) = true := by simp only [decide_eq_true_eq]; omega
    simp (maxSteps := 4000000) only [Try.results57, d1, XX, Nat.reduceBEq, Nat.reduceLT, Nat.reduceAdd, Nat.reduceMul, Nat.reduceSub, Nat.reduceLeDiff, Nat.reduceEqDiff, Int.reduceToNat, Int.reduceLT, Int.reduceLE, Int.reduceAdd, Int.reduceSub, Int.reduceEq, reduceIte, Nat.reduceBNe, Int.reducePow, Nat.reducePow, Int.reduceMul, Int.reduceNeg, isB_i, isB_b, isB_y, isBv_i, isBv_b, eqCells_t, TT]
  · have d1 : decide ((b.length : Int) < 60) = false := by simp only [decide_eq_false_iff_not]; omega
    by_cases h2 : 1514 < b.length
    · obtain rfl : e = 2 := by omega
      have d2 : decide (1514 < (b.length : Int)) = true := by simp only [decide_eq_true_eq]; omega
      simp (maxSteps := 4000000) only [Try.results57, d1, d2, XX, Nat.reduceBEq, Nat.reduceLT, Nat.reduceAdd, Nat.reduceMul, Nat.reduceSub, Nat.reduceLeDiff, Nat.reduceEqDiff, Int.reduceToNat, Int.reduceLT, Int.reduceLE, Int.reduceAdd, Int.reduceSub, Int.reduceEq, reduceIte, Nat.reduceBNe, Int.reducePow, Nat.reducePow, Int.reduceMul, Int.reduceNeg, isB_i, isB_b, isB_y, isBv_i, isBv_b, eqCells_t, TT]
    · have d2 : decide (1514 < (b.length : Int)) = false := by simp only [decide_eq_false_iff_not]; omega
      have hs : s.own = true := by rcases he with h | h | h <;> first | omega | exact h.2.2.1
      obtain rfl : e = 41 := by omega
      rw [hs] at g1
      simp (maxSteps := 4000000) only [Try.results57, d1, d2, g1, g2, XX, Nat.reduceBEq, Nat.reduceLT, Nat.reduceAdd, Nat.reduceMul, Nat.reduceSub, Nat.reduceLeDiff, Nat.reduceEqDiff, Int.reduceToNat, Int.reduceLT, Int.reduceLE, Int.reduceAdd, Int.reduceSub, Int.reduceEq, reduceIte, Nat.reduceBNe, Int.reducePow, Nat.reducePow, Int.reduceMul, Int.reduceNeg, isB_i, isB_b, isB_y, isBv_i, isBv_b, eqCells_t, TT]
theorem lay_spec (k : CK) (ok : k.ok) (i : Nat) (s : Sl) (hi : k.tx[i]? = some s) (b sp : List UInt8) (c : Nat) (h1 : 60 ≤ b.length) (h2 : b.length ≤ 1514) (hs : s.own = false) : Spec cx.P 57 [.c (.ptr 0 0), .c (i64 i), .c (roB b sp c)] k.h fun t h' => t = .c (i64 0) ∧ h' = CK.h { k with tx := k.tx.set i ⟨true, b, (s.d ++ s.j).drop b.length⟩ } := by
  have hlt := (List.getElem?_eq_some_iff.1 hi).1
  obtain ⟨g1, g2⟩ := slC_own hi ok.ts
  have r1 := ok.tx1
  rw [hs] at g1
  have d1 : decide ((b.length : Int) < 60) = false := by simp only [decide_eq_false_iff_not]; omega
  have d2 : decide (1514 < (b.length : Int)) = false := by simp only [decide_eq_false_iff_not]; omega
  refine spec_of_X cx_ok Try.func57 rfl (by kernel_rfl) (by kernel_rfl) (Nat.le_of_ble_eq_true rfl) 400 8 ?_
  simp (maxSteps := 4000000) only [Try.results57, XX, Nat.reduceBEq, Nat.reduceLT, Nat.reduceAdd, Nat.reduceMul, Nat.reduceSub, Nat.reduceLeDiff, Nat.reduceEqDiff, Int.reduceToNat, Int.reduceLT, Int.reduceLE, Int.reduceAdd, Int.reduceSub, Int.reduceEq, reduceIte, Nat.reduceBNe, Int.reducePow, Nat.reducePow, Int.reduceMul, Int.reduceNeg, isB_i, isB_b, isB_y, isBv_i, isBv_b, eqCells_t, TT]
  refine call_is (at2_spec true _ 0 1 2 _ _ _ _ _ _ _ rfl i hlt r1) ?_
  rintro _ _ ⟨rfl, rfl⟩
  simp (maxSteps := 4000000) only [Try.results57, d1, d2, g1, g2, XX, Nat.reduceBEq, Nat.reduceLT, Nat.reduceAdd, Nat.reduceMul, Nat.reduceSub, Nat.reduceLeDiff, Nat.reduceEqDiff, Int.reduceToNat, Int.reduceLT, Int.reduceLE, Int.reduceAdd, Int.reduceSub, Int.reduceEq, reduceIte, Nat.reduceBNe, Int.reducePow, Nat.reducePow, Int.reduceMul, Int.reduceNeg, isB_i, isB_b, isB_y, isBv_i, isBv_b, eqCells_t, TT]
  refine call_is (putS_spec _ 2 k.tx i s hi ok.ts true b sp c rfl h2) ?_
  rintro _ _ ⟨rfl, rfl⟩
  simp (maxSteps := 4000000) only [Try.results57, XX, Nat.reduceBEq, Nat.reduceLT, Nat.reduceAdd, Nat.reduceMul, Nat.reduceSub, Nat.reduceLeDiff, Nat.reduceEqDiff, Int.reduceToNat, Int.reduceLT, Int.reduceLE, Int.reduceAdd, Int.reduceSub, Int.reduceEq, reduceIte, Nat.reduceBNe, Int.reducePow, Nat.reducePow, Int.reduceMul, Int.reduceNeg, isB_i, isB_b, isB_y, isBv_i, isBv_b, eqCells_t, TT]
  simp only [CK.h, List.length_set, List.set_cons_succ, List.set_cons_zero]
theorem rings_spec (k : CK) : Spec cx.P 29 [.c (.ptr 0 0)] k.h fun t h' => t = .tup [(false, [i64 k.rx.length]), (false, [i64 k.tx.length])] ∧ h' = k.h := by
  refine spec_of_X cx_ok Try.func29 rfl (by kernel_rfl) (by kernel_rfl) (Nat.le_of_ble_eq_true rfl) 400 4 ?_
  simp (maxSteps := 4000000) only [Try.results29, XX, Nat.reduceBEq, Nat.reduceLT, Nat.reduceAdd, Nat.reduceMul, Nat.reduceSub, Nat.reduceLeDiff, Nat.reduceEqDiff, Int.reduceToNat, Int.reduceLT, Int.reduceLE, Int.reduceAdd, Int.reduceSub, Int.reduceEq, reduceIte, Nat.reduceBNe, Int.reducePow, Nat.reducePow, Int.reduceMul, Int.reduceNeg, isB_i, isB_b, isB_y, isBv_i, isBv_b, eqCells_t, TT]
  refine draw_of cx_ok (by kernel_rfl) 400 [0] [(0, true), (1, true), (2, true), (3, true), (4, true), (5, true), (6, true), (7, true), (8, true), (9, true), (10, true), (11, true), (12, true), (13, true)] (by kernel_rfl) rfl ?_
  simp (maxSteps := 4000000) only [Try.results29, XX, Nat.reduceBEq, Nat.reduceLT, Nat.reduceAdd, Nat.reduceMul, Nat.reduceSub, Nat.reduceLeDiff, Nat.reduceEqDiff, Int.reduceToNat, Int.reduceLT, Int.reduceLE, Int.reduceAdd, Int.reduceSub, Int.reduceEq, reduceIte, Nat.reduceBNe, Int.reducePow, Nat.reducePow, Int.reduceMul, Int.reduceNeg, isB_i, isB_b, isB_y, isBv_i, isBv_b, eqCells_t, TT]
theorem set_ok {l : List Sl} {i : Nat} {s : Sl} {own : Bool} {b : List UInt8} (h : ∀ s ∈ l, s.ok) (hs : s.ok) (hb : b.length ≤ 1514) : ∀ x ∈ l.set i ⟨own, b, (s.d ++ s.j).drop b.length⟩, x.ok := by
  intro x hx
  rcases List.mem_or_eq_of_mem_set hx with hx | rfl
  · exact h x hx
  · unfold Sl.ok at hs ⊢
    simp only [List.length_drop, List.length_append]
    omega
/-- A frame comes. -/
theorem arriveB_spec (k : CK) (b sp : List UInt8) (c : Nat) (hb : b.length = 0 ∨ 1514 < b.length) : Spec cx.P 10 [.c (.ptr 0 0), .c (roB b sp c)] k.h fun t h' => t = .c (bC false) ∧ h' = k.h := by
  refine spec_of_X cx_ok Try.func10 rfl (by kernel_rfl) (by kernel_rfl) (Nat.le_of_ble_eq_true rfl) 400 6 ?_
  simp (maxSteps := 4000000) only [Try.results10, XX, Nat.reduceBEq, Nat.reduceLT, Nat.reduceAdd, Nat.reduceMul, Nat.reduceSub, Nat.reduceLeDiff, Nat.reduceEqDiff, Int.reduceToNat, Int.reduceLT, Int.reduceLE, Int.reduceAdd, Int.reduceSub, Int.reduceEq, reduceIte, Nat.reduceBNe, Int.reducePow, Nat.reducePow, Int.reduceMul, Int.reduceNeg, isB_i, isB_b, isB_y, isBv_i, isBv_b, eqCells_t, TT]
  by_cases h0 : b.length = 0
  · have d1 : decide ((b.length : Int) = 0) = true := by simp only [decide_eq_true_eq]; omega
    simp (maxSteps := 4000000) only [Try.results10, d1, XX, Nat.reduceBEq, Nat.reduceLT, Nat.reduceAdd, Nat.reduceMul, Nat.reduceSub, Nat.reduceLeDiff, Nat.reduceEqDiff, Int.reduceToNat, Int.reduceLT, Int.reduceLE, Int.reduceAdd, Int.reduceSub, Int.reduceEq, reduceIte, Nat.reduceBNe, Int.reducePow, Nat.reducePow, Int.reduceMul, Int.reduceNeg, isB_i, isB_b, isB_y, isBv_i, isBv_b, eqCells_t, TT]
  · have d1 : decide ((b.length : Int) = 0) = false := by simp only [decide_eq_false_iff_not]; omega
    have d2 : decide (1514 < (b.length : Int)) = true := by simp only [decide_eq_true_eq]; omega
    simp (maxSteps := 4000000) only [Try.results10, d1, d2, XX, Nat.reduceBEq, Nat.reduceLT, Nat.reduceAdd, Nat.reduceMul, Nat.reduceSub, Nat.reduceLeDiff, Nat.reduceEqDiff, Int.reduceToNat, Int.reduceLT, Int.reduceLE, Int.reduceAdd, Int.reduceSub, Int.reduceEq, reduceIte, Nat.reduceBNe, Int.reducePow, Nat.reducePow, Int.reduceMul, Int.reduceNeg, isB_i, isB_b, isB_y, isBv_i, isBv_b, eqCells_t, TT]
theorem arriveF_spec (k : CK) (ok : k.ok) (s : Sl) (hi : k.rx[k.rn]? = some s) (hs : s.own = false) (b sp : List UInt8) (c : Nat) (h1 : 0 < b.length) (h2 : b.length ≤ 1514) : Spec cx.P 10 [.c (.ptr 0 0), .c (roB b sp c)] k.h fun t h' => t = .c (bC false) ∧ h' = CK.h { k with cdr := IntKind.i64.wrap (k.cdr + 1) } := by
  have d1 : decide ((b.length : Int) = 0) = false := by simp only [decide_eq_false_iff_not]; omega
  have d2 : decide (1514 < (b.length : Int)) = false := by simp only [decide_eq_false_iff_not]; omega
  obtain ⟨g1, g2⟩ := slC_own hi ok.rs
  rw [hs] at g1
  refine spec_of_X cx_ok Try.func10 rfl (by kernel_rfl) (by kernel_rfl) (Nat.le_of_ble_eq_true rfl) 400 6 ?_
  simp (maxSteps := 4000000) only [Try.results10, XX, Nat.reduceBEq, Nat.reduceLT, Nat.reduceAdd, Nat.reduceMul, Nat.reduceSub, Nat.reduceLeDiff, Nat.reduceEqDiff, Int.reduceToNat, Int.reduceLT, Int.reduceLE, Int.reduceAdd, Int.reduceSub, Int.reduceEq, reduceIte, Nat.reduceBNe, Int.reducePow, Nat.reducePow, Int.reduceMul, Int.reduceNeg, isB_i, isB_b, isB_y, isBv_i, isBv_b, eqCells_t, TT]
  simp (maxSteps := 4000000) only [Try.results10, d1, d2, XX, Nat.reduceBEq, Nat.reduceLT, Nat.reduceAdd, Nat.reduceMul, Nat.reduceSub, Nat.reduceLeDiff, Nat.reduceEqDiff, Int.reduceToNat, Int.reduceLT, Int.reduceLE, Int.reduceAdd, Int.reduceSub, Int.reduceEq, reduceIte, Nat.reduceBNe, Int.reducePow, Nat.reducePow, Int.reduceMul, Int.reduceNeg, isB_i, isB_b, isB_y, isBv_i, isBv_b, eqCells_t, TT]
  refine draw_of cx_ok (by kernel_rfl) 400 [0] [(0, true), (1, true), (2, true), (3, true), (4, true), (5, true), (6, true), (7, true), (8, false), (9, true)] (by kernel_rfl) rfl ?_
  simp (maxSteps := 4000000) only [Try.results10, XX, Nat.reduceBEq, Nat.reduceLT, Nat.reduceAdd, Nat.reduceMul, Nat.reduceSub, Nat.reduceLeDiff, Nat.reduceEqDiff, Int.reduceToNat, Int.reduceLT, Int.reduceLE, Int.reduceAdd, Int.reduceSub, Int.reduceEq, reduceIte, Nat.reduceBNe, Int.reducePow, Nat.reducePow, Int.reduceMul, Int.reduceNeg, isB_i, isB_b, isB_y, isBv_i, isBv_b, eqCells_t, TT]
  refine call_is (at1_spec false _ 0 1 2 _ _ _ _ _ _ _ rfl k.rn ok.rn ok.rx1) ?_
  rintro _ _ ⟨rfl, rfl⟩
  simp (maxSteps := 4000000) only [Try.results10, g1, g2, XX, Nat.reduceBEq, Nat.reduceLT, Nat.reduceAdd, Nat.reduceMul, Nat.reduceSub, Nat.reduceLeDiff, Nat.reduceEqDiff, Int.reduceToNat, Int.reduceLT, Int.reduceLE, Int.reduceAdd, Int.reduceSub, Int.reduceEq, reduceIte, Nat.reduceBNe, Int.reducePow, Nat.reducePow, Int.reduceMul, Int.reduceNeg, isB_i, isB_b, isB_y, isBv_i, isBv_b, eqCells_t, TT]
theorem arrive_spec (k : CK) (ok : k.ok) (s : Sl) (hi : k.rx[k.rn]? = some s) (hs : s.own = true) (b sp : List UInt8) (c : Nat) (h1 : 0 < b.length) (h2 : b.length ≤ 1514) : Spec cx.P 10 [.c (.ptr 0 0), .c (roB b sp c)] k.h fun t h' => t = .c (bC true) ∧ h' = CK.h { k with rx := k.rx.set k.rn ⟨false, b, (s.d ++ s.j).drop b.length⟩, rn := (k.rn + 1) % k.rx.length, cin := IntKind.i64.wrap (k.cin + 1) } := by
  have d1 : decide ((b.length : Int) = 0) = false := by simp only [decide_eq_false_iff_not]; omega
  have d2 : decide (1514 < (b.length : Int)) = false := by simp only [decide_eq_false_iff_not]; omega
  obtain ⟨g1, g2⟩ := slC_own hi ok.rs
  rw [hs] at g1
  refine spec_of_X cx_ok Try.func10 rfl (by kernel_rfl) (by kernel_rfl) (Nat.le_of_ble_eq_true rfl) 400 6 ?_
  simp (maxSteps := 4000000) only [Try.results10, XX, Nat.reduceBEq, Nat.reduceLT, Nat.reduceAdd, Nat.reduceMul, Nat.reduceSub, Nat.reduceLeDiff, Nat.reduceEqDiff, Int.reduceToNat, Int.reduceLT, Int.reduceLE, Int.reduceAdd, Int.reduceSub, Int.reduceEq, reduceIte, Nat.reduceBNe, Int.reducePow, Nat.reducePow, Int.reduceMul, Int.reduceNeg, isB_i, isB_b, isB_y, isBv_i, isBv_b, eqCells_t, TT]
  simp (maxSteps := 4000000) only [Try.results10, d1, d2, XX, Nat.reduceBEq, Nat.reduceLT, Nat.reduceAdd, Nat.reduceMul, Nat.reduceSub, Nat.reduceLeDiff, Nat.reduceEqDiff, Int.reduceToNat, Int.reduceLT, Int.reduceLE, Int.reduceAdd, Int.reduceSub, Int.reduceEq, reduceIte, Nat.reduceBNe, Int.reducePow, Nat.reducePow, Int.reduceMul, Int.reduceNeg, isB_i, isB_b, isB_y, isBv_i, isBv_b, eqCells_t, TT]
  refine draw_of cx_ok (by kernel_rfl) 400 [0] [(0, true), (1, true), (2, true), (3, true), (4, true), (5, true), (6, true), (7, true), (8, false), (9, true)] (by kernel_rfl) rfl ?_
  simp (maxSteps := 4000000) only [Try.results10, XX, Nat.reduceBEq, Nat.reduceLT, Nat.reduceAdd, Nat.reduceMul, Nat.reduceSub, Nat.reduceLeDiff, Nat.reduceEqDiff, Int.reduceToNat, Int.reduceLT, Int.reduceLE, Int.reduceAdd, Int.reduceSub, Int.reduceEq, reduceIte, Nat.reduceBNe, Int.reducePow, Nat.reducePow, Int.reduceMul, Int.reduceNeg, isB_i, isB_b, isB_y, isBv_i, isBv_b, eqCells_t, TT]
  refine call_is (at1_spec false _ 0 1 2 _ _ _ _ _ _ _ rfl k.rn ok.rn ok.rx1) ?_
  rintro _ _ ⟨rfl, rfl⟩
  simp (maxSteps := 4000000) only [Try.results10, g1, g2, XX, Nat.reduceBEq, Nat.reduceLT, Nat.reduceAdd, Nat.reduceMul, Nat.reduceSub, Nat.reduceLeDiff, Nat.reduceEqDiff, Int.reduceToNat, Int.reduceLT, Int.reduceLE, Int.reduceAdd, Int.reduceSub, Int.reduceEq, reduceIte, Nat.reduceBNe, Int.reducePow, Nat.reducePow, Int.reduceMul, Int.reduceNeg, isB_i, isB_b, isB_y, isBv_i, isBv_b, eqCells_t, TT]
  refine call_is (putS_spec _ 1 k.rx k.rn s hi ok.rs false b sp c rfl h2) ?_
  rintro _ _ ⟨rfl, rfl⟩
  simp (maxSteps := 4000000) only [Try.results10, XX, Nat.reduceBEq, Nat.reduceLT, Nat.reduceAdd, Nat.reduceMul, Nat.reduceSub, Nat.reduceLeDiff, Nat.reduceEqDiff, Int.reduceToNat, Int.reduceLT, Int.reduceLE, Int.reduceAdd, Int.reduceSub, Int.reduceEq, reduceIte, Nat.reduceBNe, Int.reducePow, Nat.reducePow, Int.reduceMul, Int.reduceNeg, isB_i, isB_b, isB_y, isBv_i, isBv_b, eqCells_t, TT]
  have hst := step1_spec { k with rx := k.rx.set k.rn ⟨false, b, (s.d ++ s.j).drop b.length⟩ } ⟨by simpa using ok.rx0, by simpa using ok.rx1, ok.tx0, ok.tx1, by simpa using ok.rn, ok.tn, set_ok ok.rs (ok.rs s (List.mem_of_getElem? hi)) h2, ok.ts⟩
  simp only [CK.h, List.length_set] at hst
  refine call_is hst ?_
  rintro _ _ ⟨rfl, rfl⟩
  simp (maxSteps := 4000000) only [Try.results10, XX, Nat.reduceBEq, Nat.reduceLT, Nat.reduceAdd, Nat.reduceMul, Nat.reduceSub, Nat.reduceLeDiff, Nat.reduceEqDiff, Int.reduceToNat, Int.reduceLT, Int.reduceLE, Int.reduceAdd, Int.reduceSub, Int.reduceEq, reduceIte, Nat.reduceBNe, Int.reducePow, Nat.reducePow, Int.reduceMul, Int.reduceNeg, isB_i, isB_b, isB_y, isBv_i, isBv_b, eqCells_t, TT]
  simp only [CK.h, List.length_set]
theorem departN_spec (k : CK) (ok : k.ok) (s : Sl) (hi : k.tx[k.tn]? = some s) (hs : s.own = false) : Spec cx.P 13 [.c (.ptr 0 0)] k.h fun t h' => t = .tup [(false, [.v (.slice none 0 0)]), (false, [bC false])] ∧ h' = k.h := by
  obtain ⟨g1, g2⟩ := slC_own hi ok.ts
  rw [hs] at g1
  refine spec_of_X cx_ok Try.func13 rfl (by kernel_rfl) (by kernel_rfl) (Nat.le_of_ble_eq_true rfl) 400 6 ?_
  simp (maxSteps := 4000000) only [Try.results13, XX, Nat.reduceBEq, Nat.reduceLT, Nat.reduceAdd, Nat.reduceMul, Nat.reduceSub, Nat.reduceLeDiff, Nat.reduceEqDiff, Int.reduceToNat, Int.reduceLT, Int.reduceLE, Int.reduceAdd, Int.reduceSub, Int.reduceEq, reduceIte, Nat.reduceBNe, Int.reducePow, Nat.reducePow, Int.reduceMul, Int.reduceNeg, isB_i, isB_b, isB_y, isBv_i, isBv_b, eqCells_t, TT]
  refine draw_of cx_ok (by kernel_rfl) 400 [0] [(0, true), (1, true), (2, true), (3, true), (4, true), (5, true), (6, true), (7, true), (8, false), (9, true)] (by kernel_rfl) rfl ?_
  simp (maxSteps := 4000000) only [Try.results13, XX, Nat.reduceBEq, Nat.reduceLT, Nat.reduceAdd, Nat.reduceMul, Nat.reduceSub, Nat.reduceLeDiff, Nat.reduceEqDiff, Int.reduceToNat, Int.reduceLT, Int.reduceLE, Int.reduceAdd, Int.reduceSub, Int.reduceEq, reduceIte, Nat.reduceBNe, Int.reducePow, Nat.reducePow, Int.reduceMul, Int.reduceNeg, isB_i, isB_b, isB_y, isBv_i, isBv_b, eqCells_t, TT]
  refine call_is (at2_spec false _ 0 1 2 _ _ _ _ _ _ _ rfl k.tn ok.tn ok.tx1) ?_
  rintro _ _ ⟨rfl, rfl⟩
  simp (maxSteps := 4000000) only [Try.results13, g1, g2, XX, Nat.reduceBEq, Nat.reduceLT, Nat.reduceAdd, Nat.reduceMul, Nat.reduceSub, Nat.reduceLeDiff, Nat.reduceEqDiff, Int.reduceToNat, Int.reduceLT, Int.reduceLE, Int.reduceAdd, Int.reduceSub, Int.reduceEq, reduceIte, Nat.reduceBNe, Int.reducePow, Nat.reducePow, Int.reduceMul, Int.reduceNeg, isB_i, isB_b, isB_y, isBv_i, isBv_b, eqCells_t, TT]
theorem depart_spec (k : CK) (ok : k.ok) (s : Sl) (hi : k.tx[k.tn]? = some s) (hs : s.own = true) : Spec cx.P 13 [.c (.ptr 0 0)] k.h fun t h' => t = .tup [(false, [.sl 3 0 s.d.length s.d.length]), (false, [bC true])] ∧ h' = CK.h { k with tx := k.tx.set k.tn ⟨false, [], s.d ++ s.j⟩, tn := (k.tn + 1) % k.tx.length, cout := IntKind.i64.wrap (k.cout + 1) } ++ [wB true s.d] := by
  obtain ⟨g1, g2⟩ := slC_own hi ok.ts
  rw [hs] at g1
  have hc : (slC k.tx).all (SC.lt 1) = true := slC_lt 1 _
  refine spec_of_X cx_ok Try.func13 rfl (by kernel_rfl) (by kernel_rfl) (Nat.le_of_ble_eq_true rfl) 400 6 ?_
  simp (maxSteps := 4000000) only [Try.results13, XX, Nat.reduceBEq, Nat.reduceLT, Nat.reduceAdd, Nat.reduceMul, Nat.reduceSub, Nat.reduceLeDiff, Nat.reduceEqDiff, Int.reduceToNat, Int.reduceLT, Int.reduceLE, Int.reduceAdd, Int.reduceSub, Int.reduceEq, reduceIte, Nat.reduceBNe, Int.reducePow, Nat.reducePow, Int.reduceMul, Int.reduceNeg, isB_i, isB_b, isB_y, isBv_i, isBv_b, eqCells_t, TT]
  refine draw_of cx_ok (by kernel_rfl) 400 [0] [(0, true), (1, true), (2, true), (3, true), (4, true), (5, true), (6, true), (7, true), (8, false), (9, true)] (by kernel_rfl) rfl ?_
  simp (maxSteps := 4000000) only [Try.results13, XX, Nat.reduceBEq, Nat.reduceLT, Nat.reduceAdd, Nat.reduceMul, Nat.reduceSub, Nat.reduceLeDiff, Nat.reduceEqDiff, Int.reduceToNat, Int.reduceLT, Int.reduceLE, Int.reduceAdd, Int.reduceSub, Int.reduceEq, reduceIte, Nat.reduceBNe, Int.reducePow, Nat.reducePow, Int.reduceMul, Int.reduceNeg, isB_i, isB_b, isB_y, isBv_i, isBv_b, eqCells_t, TT]
  refine call_is (at2_spec false _ 0 1 2 _ _ _ _ _ _ _ rfl k.tn ok.tn ok.tx1) ?_
  rintro _ _ ⟨rfl, rfl⟩
  simp (maxSteps := 4000000) only [Try.results13, g1, g2, XX, Nat.reduceBEq, Nat.reduceLT, Nat.reduceAdd, Nat.reduceMul, Nat.reduceSub, Nat.reduceLeDiff, Nat.reduceEqDiff, Int.reduceToNat, Int.reduceLT, Int.reduceLE, Int.reduceAdd, Int.reduceSub, Int.reduceEq, reduceIte, Nat.reduceBNe, Int.reducePow, Nat.reducePow, Int.reduceMul, Int.reduceNeg, isB_i, isB_b, isB_y, isBv_i, isBv_b, eqCells_t, TT]
  refine call_frame (dataS_spec true k.tx k.tn s hi ok.ts) [2] rfl rfl ?_ rfl ?_ ?_
  · simp only [XX, Nat.reduceBEq, Nat.reduceLT, Nat.reduceAdd, Nat.reduceMul, Nat.reduceSub, Nat.reduceLeDiff, Nat.reduceEqDiff, Int.reduceToNat, Int.reduceLT, Int.reduceLE, Int.reduceAdd, Int.reduceSub, Int.reduceEq, reduceIte, Nat.reduceBNe, Int.reducePow, Nat.reducePow, Int.reduceMul, Int.reduceNeg, isB_i, isB_b, isB_y, isBv_i, isBv_b, eqCells_t, TT, preOk, ids_bsC, ren_bsC, noRo_bsC, plain_bsC, lt_bsC, ids_byte, ren_byte, noRo_byte, plain_byte, lt_byte, slC_ren]
  · simp only [XX, Nat.reduceBEq, Nat.reduceLT, Nat.reduceAdd, Nat.reduceMul, Nat.reduceSub, Nat.reduceLeDiff, Nat.reduceEqDiff, Int.reduceToNat, Int.reduceLT, Int.reduceLE, Int.reduceAdd, Int.reduceSub, Int.reduceEq, reduceIte, Nat.reduceBNe, Int.reducePow, Nat.reducePow, Int.reduceMul, Int.reduceNeg, isB_i, isB_b, isB_y, isBv_i, isBv_b, eqCells_t, TT, ids_bsC, ren_bsC, noRo_bsC, plain_bsC, lt_bsC, ids_byte, ren_byte, noRo_byte, plain_byte, lt_byte, hc]
  rintro _ _ ⟨rfl, rfl⟩
  simp (maxSteps := 4000000) only [Try.results13, ids_bsC, ren_bsC, noRo_bsC, plain_bsC, lt_bsC, ids_byte, ren_byte, noRo_byte, plain_byte, lt_byte, slC_ren, XX, Nat.reduceBEq, Nat.reduceLT, Nat.reduceAdd, Nat.reduceMul, Nat.reduceSub, Nat.reduceLeDiff, Nat.reduceEqDiff, Int.reduceToNat, Int.reduceLT, Int.reduceLE, Int.reduceAdd, Int.reduceSub, Int.reduceEq, reduceIte, Nat.reduceBNe, Int.reducePow, Nat.reducePow, Int.reduceMul, Int.reduceNeg, isB_i, isB_b, isB_y, isBv_i, isBv_b, eqCells_t, TT]
  refine call_is (put0S_spec _ 2 k.tx k.tn s hi ok.ts false rfl) ?_
  rintro _ _ ⟨rfl, rfl⟩
  simp (maxSteps := 4000000) only [Try.results13, XX, Nat.reduceBEq, Nat.reduceLT, Nat.reduceAdd, Nat.reduceMul, Nat.reduceSub, Nat.reduceLeDiff, Nat.reduceEqDiff, Int.reduceToNat, Int.reduceLT, Int.reduceLE, Int.reduceAdd, Int.reduceSub, Int.reduceEq, reduceIte, Nat.reduceBNe, Int.reducePow, Nat.reducePow, Int.reduceMul, Int.reduceNeg, isB_i, isB_b, isB_y, isBv_i, isBv_b, eqCells_t, TT]
  have hst := step2_spec { k with tx := k.tx.set k.tn ⟨false, [], s.d ++ s.j⟩ } ⟨ok.rx0, ok.rx1, by simpa using ok.tx0, by simpa using ok.tx1, ok.rn, by simpa using ok.tn, ok.rs, set_ok (b := []) ok.ts (ok.ts s (List.mem_of_getElem? hi)) (by simp)⟩
  simp only [CK.h, List.length_set] at hst
  refine call_frame hst [0, 1, 2] rfl rfl ?_ rfl ?_ ?_
  · simp only [XX, Nat.reduceBEq, Nat.reduceLT, Nat.reduceAdd, Nat.reduceMul, Nat.reduceSub, Nat.reduceLeDiff, Nat.reduceEqDiff, Int.reduceToNat, Int.reduceLT, Int.reduceLE, Int.reduceAdd, Int.reduceSub, Int.reduceEq, reduceIte, Nat.reduceBNe, Int.reducePow, Nat.reducePow, Int.reduceMul, Int.reduceNeg, isB_i, isB_b, isB_y, isBv_i, isBv_b, eqCells_t, TT, preOk, ids_bsC, ren_bsC, noRo_bsC, plain_bsC, lt_bsC, ids_byte, ren_byte, noRo_byte, plain_byte, lt_byte, slC_ren]
  · simp only [XX, Nat.reduceBEq, Nat.reduceLT, Nat.reduceAdd, Nat.reduceMul, Nat.reduceSub, Nat.reduceLeDiff, Nat.reduceEqDiff, Int.reduceToNat, Int.reduceLT, Int.reduceLE, Int.reduceAdd, Int.reduceSub, Int.reduceEq, reduceIte, Nat.reduceBNe, Int.reducePow, Nat.reducePow, Int.reduceMul, Int.reduceNeg, isB_i, isB_b, isB_y, isBv_i, isBv_b, eqCells_t, TT, ids_bsC, ren_bsC, noRo_bsC, plain_bsC, lt_bsC, ids_byte, ren_byte, noRo_byte, plain_byte, lt_byte, slC_lt]; rfl
  rintro _ _ ⟨rfl, rfl⟩
  simp (maxSteps := 4000000) only [Try.results13, ids_bsC, ren_bsC, noRo_bsC, plain_bsC, lt_bsC, ids_byte, ren_byte, noRo_byte, plain_byte, lt_byte, slC_ren, XX, Nat.reduceBEq, Nat.reduceLT, Nat.reduceAdd, Nat.reduceMul, Nat.reduceSub, Nat.reduceLeDiff, Nat.reduceEqDiff, Int.reduceToNat, Int.reduceLT, Int.reduceLE, Int.reduceAdd, Int.reduceSub, Int.reduceEq, reduceIte, Nat.reduceBNe, Int.reducePow, Nat.reducePow, Int.reduceMul, Int.reduceNeg, isB_i, isB_b, isB_y, isBv_i, isBv_b, eqCells_t, TT]
  simp only [CK.h, List.length_set, List.cons_append, List.nil_append]
end Go.Proofs.Ythbojoiogjdbeaa.Sx
namespace Go.Proofs.Ythbojoiogjdbeaa.Sx
open Go
set_option linter.unusedSimpArgs false
set_option linter.unusedVariables false
set_option maxRecDepth 10000
set_option maxHeartbeats 2000000
theorem newN_spec (n m : Int) (h : n < 1 ∨ 64 < n ∨ m < 1 ∨ 64 < m) : Spec cx.P 7 [.c (i64 n), .c (i64 m)] [] fun t _ => t.plain = true ∧ t = .c (.v (.pointer none)) := by
  refine spec_of_X cx_ok Try.func7 rfl (by kernel_rfl) (by kernel_rfl) (Nat.le_of_ble_eq_true rfl) 400 36 ?_
  simp (maxSteps := 4000000) only [Try.results7, XX, Nat.reduceBEq, Nat.reduceLT, Nat.reduceAdd, Nat.reduceMul, Nat.reduceSub, Nat.reduceLeDiff, Nat.reduceEqDiff, Int.reduceToNat, Int.reduceLT, Int.reduceLE, Int.reduceAdd, Int.reduceSub, Int.reduceEq, reduceIte, Nat.reduceBNe, Int.reducePow, Nat.reducePow, Int.reduceMul, Int.reduceNeg, isB_i, isB_b, isB_y, isBv_i, isBv_b, eqCells_t, TT]
  cases h1 : decide (n < 1)
  · cases h2 : decide (64 < n)
    · cases h3 : decide (m < 1)
      · have h4 : decide (64 < m) = true := by
          simp only [decide_eq_false_iff_not] at h1 h2 h3
          simp only [decide_eq_true_eq]; omega
        simp (maxSteps := 4000000) only [Try.results7, h1, h2, h3, h4, XX, Nat.reduceBEq, Nat.reduceLT, Nat.reduceAdd, Nat.reduceMul, Nat.reduceSub, Nat.reduceLeDiff, Nat.reduceEqDiff, Int.reduceToNat, Int.reduceLT, Int.reduceLE, Int.reduceAdd, Int.reduceSub, Int.reduceEq, reduceIte, Nat.reduceBNe, Int.reducePow, Nat.reducePow, Int.reduceMul, Int.reduceNeg, isB_i, isB_b, isB_y, isBv_i, isBv_b, eqCells_t, TT]
      · simp (maxSteps := 4000000) only [Try.results7, h1, h2, h3, XX, Nat.reduceBEq, Nat.reduceLT, Nat.reduceAdd, Nat.reduceMul, Nat.reduceSub, Nat.reduceLeDiff, Nat.reduceEqDiff, Int.reduceToNat, Int.reduceLT, Int.reduceLE, Int.reduceAdd, Int.reduceSub, Int.reduceEq, reduceIte, Nat.reduceBNe, Int.reducePow, Nat.reducePow, Int.reduceMul, Int.reduceNeg, isB_i, isB_b, isB_y, isBv_i, isBv_b, eqCells_t, TT]
    · simp (maxSteps := 4000000) only [Try.results7, h1, h2, XX, Nat.reduceBEq, Nat.reduceLT, Nat.reduceAdd, Nat.reduceMul, Nat.reduceSub, Nat.reduceLeDiff, Nat.reduceEqDiff, Int.reduceToNat, Int.reduceLT, Int.reduceLE, Int.reduceAdd, Int.reduceSub, Int.reduceEq, reduceIte, Nat.reduceBNe, Int.reducePow, Nat.reducePow, Int.reduceMul, Int.reduceNeg, isB_i, isB_b, isB_y, isBv_i, isBv_b, eqCells_t, TT]
  · simp (maxSteps := 4000000) only [Try.results7, h1, XX, Nat.reduceBEq, Nat.reduceLT, Nat.reduceAdd, Nat.reduceMul, Nat.reduceSub, Nat.reduceLeDiff, Nat.reduceEqDiff, Int.reduceToNat, Int.reduceLT, Int.reduceLE, Int.reduceAdd, Int.reduceSub, Int.reduceEq, reduceIte, Nat.reduceBNe, Int.reducePow, Nat.reducePow, Int.reduceMul, Int.reduceNeg, isB_i, isB_b, isB_y, isBv_i, isBv_b, eqCells_t, TT]
abbrev slT (b : Bool) : Sl := ⟨b, [], List.replicate 1514 0⟩
abbrev newK (n m : Nat) : CK := ⟨List.replicate n (slT true), List.replicate m (slT false), 0, 0, 0, 0, 0⟩
theorem newK_ok {n m : Nat} (h1 : 1 ≤ n) (h2 : n ≤ 64) (h3 : 1 ≤ m) (h4 : m ≤ 64) : (newK n m).ok :=
  ⟨by simp; omega, by simpa using h2, by simp; omega, by simpa using h4, by simp; omega, by simp; omega, fun s hs => by rw [List.eq_of_mem_replicate hs]; rfl, fun s hs => by rw [List.eq_of_mem_replicate hs]; rfl⟩
theorem fillS_ok (n i : Nat) : ∀ s ∈ List.replicate i (slT true) ++ List.replicate (n - i) (slT false), s.ok := by
  intro s hs
  rcases List.mem_append.1 hs with h | h <;> (rw [List.eq_of_mem_replicate h]; rfl)
theorem fillE {n i : Nat} (h : i < n) : (slC (List.replicate i (slT true) ++ List.replicate (n - i) (slT false))).take (i * 1516) ++ [SC.v (.bool true)] ++ (slC (List.replicate i (slT true) ++ List.replicate (n - i) (slT false))).drop (i * 1516 + 1) = slC (List.replicate (i + 1) (slT true) ++ List.replicate (n - (i + 1)) (slT false)) := by
  have l0 : (slC (List.replicate i (slT true))).length = i * 1516 := by rw [slC_len fun s hs => by rw [List.eq_of_mem_replicate hs]; rfl, List.length_replicate]
  rw [show n - i = (n - (i + 1)) + 1 by omega, List.replicate_succ, slC_app, slC_cons, List.replicate_succ' (n := i), slC_app, slC_app]
  have := seg (A := slC (List.replicate i (slT true))) (x := [SC.v (.bool false)]) (y := [SC.v (.bool true)]) (C := (slT false).cells.tail ++ slC (List.replicate (n - (i + 1)) (slT false))) l0 rfl
  refine this.trans ?_
  rw [List.append_assoc]
  congr 1
  first | done | simp only [slC, List.map_cons, List.map_nil, List.flatten_cons, List.flatten_nil, List.append_nil, Sl.cells, slotC, List.tail_cons, List.cons_append, List.nil_append]
theorem new_spec (n m : Nat) (h1 : 1 ≤ n) (h2 : n ≤ 64) (h3 : 1 ≤ m) (h4 : m ≤ 64) : Spec cx.P 7 [.c (i64 n), .c (i64 m)] [] fun t h' => t = .c (.ptr 0 0) ∧ h' = (newK n m).h := by
  refine Spec.wk (K := fun t h' => t = .c (.ptr 2 0) ∧ h' = [stB (slC (List.replicate n (slT true))), stB (slC (List.replicate m (slT false))), cardB 0 1 n m 0 0 0 0 0]) ?_ fun t h' ⟨h1, h2⟩ => ⟨.c (.ptr 0 0), (newK n m).h, [some 2, some 0, some 1], rfl, by subst h2; simp only [XX, Nat.reduceBEq, Nat.reduceLT, Nat.reduceAdd, Nat.reduceMul, Nat.reduceSub, Nat.reduceLeDiff, Nat.reduceEqDiff, Int.reduceToNat, Int.reduceLT, Int.reduceLE, Int.reduceAdd, Int.reduceSub, Int.reduceEq, reduceIte, Nat.reduceBNe, Int.reducePow, Nat.reducePow, Int.reduceMul, Int.reduceNeg, isB_i, isB_b, isB_y, isBv_i, isBv_b, eqCells_t, TT, ids_bsC, ren_bsC, noRo_bsC, plain_bsC, lt_bsC, ids_byte, ren_byte, noRo_byte, plain_byte, lt_byte, slC_ren, List.length_replicate]; exact ⟨.inl (slC_ids _ _), .inl (slC_ids _ _)⟩, by subst h1; simp only [XX, Nat.reduceBEq, Nat.reduceLT, Nat.reduceAdd, Nat.reduceMul, Nat.reduceSub, Nat.reduceLeDiff, Nat.reduceEqDiff, Int.reduceToNat, Int.reduceLT, Int.reduceLE, Int.reduceAdd, Int.reduceSub, Int.reduceEq, reduceIte, Nat.reduceBNe, Int.reducePow, Nat.reducePow, Int.reduceMul, Int.reduceNeg, isB_i, isB_b, isB_y, isBv_i, isBv_b, eqCells_t, TT, ids_bsC, ren_bsC, noRo_bsC, plain_bsC, lt_bsC, ids_byte, ren_byte, noRo_byte, plain_byte, lt_byte], rfl, rfl⟩
  have d1 : decide ((n : Int) < 1) = false := by simp only [decide_eq_false_iff_not]; omega
  have d2 : decide (64 < (n : Int)) = false := by simp only [decide_eq_false_iff_not]; omega
  have d3 : decide ((m : Int) < 1) = false := by simp only [decide_eq_false_iff_not]; omega
  have d4 : decide (64 < (m : Int)) = false := by simp only [decide_eq_false_iff_not]; omega
  refine spec_of_X cx_ok Try.func7 rfl (by kernel_rfl) (by kernel_rfl) (Nat.le_of_ble_eq_true rfl) 400 36 ?_
  simp (maxSteps := 4000000) only [Try.results7, XX, Nat.reduceBEq, Nat.reduceLT, Nat.reduceAdd, Nat.reduceMul, Nat.reduceSub, Nat.reduceLeDiff, Nat.reduceEqDiff, Int.reduceToNat, Int.reduceLT, Int.reduceLE, Int.reduceAdd, Int.reduceSub, Int.reduceEq, reduceIte, Nat.reduceBNe, Int.reducePow, Nat.reducePow, Int.reduceMul, Int.reduceNeg, isB_i, isB_b, isB_y, isBv_i, isBv_b, eqCells_t, TT]
  simp (maxSteps := 4000000) only [Try.results7, d1, d2, d3, d4, XX, Nat.reduceBEq, Nat.reduceLT, Nat.reduceAdd, Nat.reduceMul, Nat.reduceSub, Nat.reduceLeDiff, Nat.reduceEqDiff, Int.reduceToNat, Int.reduceLT, Int.reduceLE, Int.reduceAdd, Int.reduceSub, Int.reduceEq, reduceIte, Nat.reduceBNe, Int.reducePow, Nat.reducePow, Int.reduceMul, Int.reduceNeg, isB_i, isB_b, isB_y, isBv_i, isBv_b, eqCells_t, TT]
  have bz : ∀ k : Nat, (List.replicate k (SC.v (.bool false) :: List.map SC.v (List.replicate 1514 (Value.int .u8 0) ++ [Value.int .i64 0]))).flatten = slC (List.replicate k (slT false)) := by
    intro k
    unfold slC
    rw [List.map_replicate]
    congr 2
  refine draw2_of cx_ok (by kernel_rfl) 400 [] (.pair [(0, true), (3, true)] 1 4 (.done [(2, true), (4, false), (5, true), (6, true), (7, false), (8, true)]) (.done [(5, true), (1, false), (2, true), (6, true), (7, false), (8, true)])) (by kernel_rfl) rfl ?_
  simp (maxSteps := 4000000) only [Try.results7, PXT_done, PXT_pair, XX, Nat.reduceBEq, Nat.reduceLT, Nat.reduceAdd, Nat.reduceMul, Nat.reduceSub, Nat.reduceLeDiff, Nat.reduceEqDiff, Int.reduceToNat, Int.reduceLT, Int.reduceLE, Int.reduceAdd, Int.reduceSub, Int.reduceEq, reduceIte, Nat.reduceBNe, Int.reducePow, Nat.reducePow, Int.reduceMul, Int.reduceNeg, isB_i, isB_b, isB_y, isBv_i, isBv_b, eqCells_t, TT]
  refine ⟨⟨⟨by omega, by omega, by omega, by omega⟩, ⟨by omega, by omega, by omega, by omega⟩, ?_⟩, ⟨by omega, by omega, by omega, by omega⟩, ⟨by omega, by omega, by omega, by omega⟩, ?_⟩
  · refine loop_of cx_ok 400 (fun μ σ => ∃ i, μ = n - i ∧ i ≤ n ∧
        σ = ⟨⟨36, 0⟩, [(4, .c (.v (.pointer none))), (5, .c (.ptr 2 0)), (34, .c (i64 (n : Nat))), (35, .c (i64 (i : Nat)))], [stB (slC (List.replicate i (slT true) ++ List.replicate (n - i) (slT false))), stB (slC (List.replicate m (slT false))), cardB 0 1 n m 0 0 0 0 0]⟩) n ⟨⟨36, 0⟩, [(4, .c (.v (.pointer none))), (5, .c (.ptr 2 0)), (34, .c (i64 (n : Nat))), (35, .c (i64 (0 : Nat)))], [stB (slC (List.replicate 0 (slT true) ++ List.replicate (n - 0) (slT false))), stB (slC (List.replicate m (slT false))), cardB 0 1 n m 0 0 0 0 0]⟩ ⟨0, by omega, Nat.zero_le _, rfl⟩ [some 0, some 1, some 2]
      ⟨rfl, rfl, by simp only [XX, Nat.reduceBEq, Nat.reduceLT, Nat.reduceAdd, Nat.reduceMul, Nat.reduceSub, Nat.reduceLeDiff, Nat.reduceEqDiff, Int.reduceToNat, Int.reduceLT, Int.reduceLE, Int.reduceAdd, Int.reduceSub, Int.reduceEq, reduceIte, Nat.reduceBNe, Int.reducePow, Nat.reducePow, Int.reduceMul, Int.reduceNeg, isB_i, isB_b, isB_y, isBv_i, isBv_b, eqCells_t, TT, bz, slC_ids, slC_ren, List.replicate_zero, List.nil_append, Nat.sub_zero], by simp only [XX, Nat.reduceBEq, Nat.reduceLT, Nat.reduceAdd, Nat.reduceMul, Nat.reduceSub, Nat.reduceLeDiff, Nat.reduceEqDiff, Int.reduceToNat, Int.reduceLT, Int.reduceLE, Int.reduceAdd, Int.reduceSub, Int.reduceEq, reduceIte, Nat.reduceBNe, Int.reducePow, Nat.reducePow, Int.reduceMul, Int.reduceNeg, isB_i, isB_b, isB_y, isBv_i, isBv_b, eqCells_t, TT]⟩ ?_
    rintro μ σ ⟨i, rfl, hi, rfl⟩
    simp (maxSteps := 4000000) only [Try.results7, XX, Nat.reduceBEq, Nat.reduceLT, Nat.reduceAdd, Nat.reduceMul, Nat.reduceSub, Nat.reduceLeDiff, Nat.reduceEqDiff, Int.reduceToNat, Int.reduceLT, Int.reduceLE, Int.reduceAdd, Int.reduceSub, Int.reduceEq, reduceIte, Nat.reduceBNe, Int.reducePow, Nat.reducePow, Int.reduceMul, Int.reduceNeg, isB_i, isB_b, isB_y, isBv_i, isBv_b, eqCells_t, TT]
    by_cases hlt : i < n
    · have hd : decide ((i : Int) < (n : Int)) = true := by simp only [decide_eq_true_eq]; omega
      have e1 : IntKind.i64.wrap ((i : Int) + 1) = ((i + 1 : Nat) : Int) := by rw [w64] <;> omega
      simp (maxSteps := 4000000) only [Try.results7, hd, e1, XX, Nat.reduceBEq, Nat.reduceLT, Nat.reduceAdd, Nat.reduceMul, Nat.reduceSub, Nat.reduceLeDiff, Nat.reduceEqDiff, Int.reduceToNat, Int.reduceLT, Int.reduceLE, Int.reduceAdd, Int.reduceSub, Int.reduceEq, reduceIte, Nat.reduceBNe, Int.reducePow, Nat.reducePow, Int.reduceMul, Int.reduceNeg, isB_i, isB_b, isB_y, isBv_i, isBv_b, eqCells_t, TT]
      refine ⟨⟨by omega, by omega⟩, by rw [slC_len (fillS_ok n i)]; simp only [List.length_append, List.length_replicate]; omega, n - (i + 1), by omega, _, ⟨i + 1, rfl, by omega, rfl⟩, [some 0, some 1, some 2], ⟨rfl, rfl, ?_, ?_⟩⟩
      · rw [fillE hlt]
        simp only [XX, Nat.reduceBEq, Nat.reduceLT, Nat.reduceAdd, Nat.reduceMul, Nat.reduceSub, Nat.reduceLeDiff, Nat.reduceEqDiff, Int.reduceToNat, Int.reduceLT, Int.reduceLE, Int.reduceAdd, Int.reduceSub, Int.reduceEq, reduceIte, Nat.reduceBNe, Int.reducePow, Nat.reducePow, Int.reduceMul, Int.reduceNeg, isB_i, isB_b, isB_y, isBv_i, isBv_b, eqCells_t, TT, slC_ids, slC_ren]
      · simp only [XX, Nat.reduceBEq, Nat.reduceLT, Nat.reduceAdd, Nat.reduceMul, Nat.reduceSub, Nat.reduceLeDiff, Nat.reduceEqDiff, Int.reduceToNat, Int.reduceLT, Int.reduceLE, Int.reduceAdd, Int.reduceSub, Int.reduceEq, reduceIte, Nat.reduceBNe, Int.reducePow, Nat.reducePow, Int.reduceMul, Int.reduceNeg, isB_i, isB_b, isB_y, isBv_i, isBv_b, eqCells_t, TT]
    · have hd : decide ((i : Int) < (n : Int)) = false := by simp only [decide_eq_false_iff_not]; omega
      obtain rfl : i = n := by omega
      simp (maxSteps := 4000000) only [Try.results7, hd, XX, Nat.reduceBEq, Nat.reduceLT, Nat.reduceAdd, Nat.reduceMul, Nat.reduceSub, Nat.reduceLeDiff, Nat.reduceEqDiff, Int.reduceToNat, Int.reduceLT, Int.reduceLE, Int.reduceAdd, Int.reduceSub, Int.reduceEq, reduceIte, Nat.reduceBNe, Int.reducePow, Nat.reducePow, Int.reduceMul, Int.reduceNeg, isB_i, isB_b, isB_y, isBv_i, isBv_b, eqCells_t, TT]
      simp only [Nat.sub_self, List.replicate_zero, List.append_nil]
  · refine loop_of cx_ok 400 (fun μ σ => ∃ i, μ = n - i ∧ i ≤ n ∧
        σ = ⟨⟨36, 0⟩, [(4, .c (.v (.pointer none))), (5, .c (.ptr 2 0)), (34, .c (i64 (n : Nat))), (35, .c (i64 (i : Nat)))], [stB (slC (List.replicate i (slT true) ++ List.replicate (n - i) (slT false))), stB (slC (List.replicate m (slT false))), cardB 0 1 n m 0 0 0 0 0]⟩) n ⟨⟨36, 0⟩, [(4, .c (.v (.pointer none))), (5, .c (.ptr 2 0)), (34, .c (i64 (n : Nat))), (35, .c (i64 (0 : Nat)))], [stB (slC (List.replicate 0 (slT true) ++ List.replicate (n - 0) (slT false))), stB (slC (List.replicate m (slT false))), cardB 0 1 n m 0 0 0 0 0]⟩ ⟨0, by omega, Nat.zero_le _, rfl⟩ [some 1, some 0, some 2]
      ⟨rfl, rfl, by simp only [XX, Nat.reduceBEq, Nat.reduceLT, Nat.reduceAdd, Nat.reduceMul, Nat.reduceSub, Nat.reduceLeDiff, Nat.reduceEqDiff, Int.reduceToNat, Int.reduceLT, Int.reduceLE, Int.reduceAdd, Int.reduceSub, Int.reduceEq, reduceIte, Nat.reduceBNe, Int.reducePow, Nat.reducePow, Int.reduceMul, Int.reduceNeg, isB_i, isB_b, isB_y, isBv_i, isBv_b, eqCells_t, TT, bz, slC_ids, slC_ren, List.replicate_zero, List.nil_append, Nat.sub_zero], by simp only [XX, Nat.reduceBEq, Nat.reduceLT, Nat.reduceAdd, Nat.reduceMul, Nat.reduceSub, Nat.reduceLeDiff, Nat.reduceEqDiff, Int.reduceToNat, Int.reduceLT, Int.reduceLE, Int.reduceAdd, Int.reduceSub, Int.reduceEq, reduceIte, Nat.reduceBNe, Int.reducePow, Nat.reducePow, Int.reduceMul, Int.reduceNeg, isB_i, isB_b, isB_y, isBv_i, isBv_b, eqCells_t, TT]⟩ ?_
    rintro μ σ ⟨i, rfl, hi, rfl⟩
    simp (maxSteps := 4000000) only [Try.results7, XX, Nat.reduceBEq, Nat.reduceLT, Nat.reduceAdd, Nat.reduceMul, Nat.reduceSub, Nat.reduceLeDiff, Nat.reduceEqDiff, Int.reduceToNat, Int.reduceLT, Int.reduceLE, Int.reduceAdd, Int.reduceSub, Int.reduceEq, reduceIte, Nat.reduceBNe, Int.reducePow, Nat.reducePow, Int.reduceMul, Int.reduceNeg, isB_i, isB_b, isB_y, isBv_i, isBv_b, eqCells_t, TT]
    by_cases hlt : i < n
    · have hd : decide ((i : Int) < (n : Int)) = true := by simp only [decide_eq_true_eq]; omega
      have e1 : IntKind.i64.wrap ((i : Int) + 1) = ((i + 1 : Nat) : Int) := by rw [w64] <;> omega
      simp (maxSteps := 4000000) only [Try.results7, hd, e1, XX, Nat.reduceBEq, Nat.reduceLT, Nat.reduceAdd, Nat.reduceMul, Nat.reduceSub, Nat.reduceLeDiff, Nat.reduceEqDiff, Int.reduceToNat, Int.reduceLT, Int.reduceLE, Int.reduceAdd, Int.reduceSub, Int.reduceEq, reduceIte, Nat.reduceBNe, Int.reducePow, Nat.reducePow, Int.reduceMul, Int.reduceNeg, isB_i, isB_b, isB_y, isBv_i, isBv_b, eqCells_t, TT]
      refine ⟨⟨by omega, by omega⟩, by rw [slC_len (fillS_ok n i)]; simp only [List.length_append, List.length_replicate]; omega, n - (i + 1), by omega, _, ⟨i + 1, rfl, by omega, rfl⟩, [some 0, some 1, some 2], ⟨rfl, rfl, ?_, ?_⟩⟩
      · rw [fillE hlt]
        simp only [XX, Nat.reduceBEq, Nat.reduceLT, Nat.reduceAdd, Nat.reduceMul, Nat.reduceSub, Nat.reduceLeDiff, Nat.reduceEqDiff, Int.reduceToNat, Int.reduceLT, Int.reduceLE, Int.reduceAdd, Int.reduceSub, Int.reduceEq, reduceIte, Nat.reduceBNe, Int.reducePow, Nat.reducePow, Int.reduceMul, Int.reduceNeg, isB_i, isB_b, isB_y, isBv_i, isBv_b, eqCells_t, TT, slC_ids, slC_ren]
      · simp only [XX, Nat.reduceBEq, Nat.reduceLT, Nat.reduceAdd, Nat.reduceMul, Nat.reduceSub, Nat.reduceLeDiff, Nat.reduceEqDiff, Int.reduceToNat, Int.reduceLT, Int.reduceLE, Int.reduceAdd, Int.reduceSub, Int.reduceEq, reduceIte, Nat.reduceBNe, Int.reducePow, Nat.reducePow, Int.reduceMul, Int.reduceNeg, isB_i, isB_b, isB_y, isBv_i, isBv_b, eqCells_t, TT]
    · have hd : decide ((i : Int) < (n : Int)) = false := by simp only [decide_eq_false_iff_not]; omega
      obtain rfl : i = n := by omega
      simp (maxSteps := 4000000) only [Try.results7, hd, XX, Nat.reduceBEq, Nat.reduceLT, Nat.reduceAdd, Nat.reduceMul, Nat.reduceSub, Nat.reduceLeDiff, Nat.reduceEqDiff, Int.reduceToNat, Int.reduceLT, Int.reduceLE, Int.reduceAdd, Int.reduceSub, Int.reduceEq, reduceIte, Nat.reduceBNe, Int.reducePow, Nat.reducePow, Int.reduceMul, Int.reduceNeg, isB_i, isB_b, isB_y, isBv_i, isBv_b, eqCells_t, TT]
      simp only [Nat.sub_self, List.replicate_zero, List.append_nil]
end Go.Proofs.Ythbojoiogjdbeaa.Sx
namespace Go.Proofs.Ythbojoiogjdbeaa.Sx
open Go
set_option linter.unusedSimpArgs false
set_option linter.unusedVariables false
set_option maxRecDepth 10000
set_option maxHeartbeats 2000000
theorem card_noRo (K : CK) : (K.h.all fun b => b.cells.all SC.noRo) = true := by
  simp only [XX, Nat.reduceBEq, Nat.reduceLT, Nat.reduceAdd, Nat.reduceMul, Nat.reduceSub, Nat.reduceLeDiff, Nat.reduceEqDiff, Int.reduceToNat, Int.reduceLT, Int.reduceLE, Int.reduceAdd, Int.reduceSub, Int.reduceEq, reduceIte, Nat.reduceBNe, Int.reducePow, Nat.reducePow, Int.reduceMul, Int.reduceNeg, isB_i, isB_b, isB_y, isBv_i, isBv_b, eqCells_t, TT, ids_bsC, ren_bsC, noRo_bsC, plain_bsC, lt_bsC, ids_byte, ren_byte, noRo_byte, plain_byte, lt_byte, slC_noRo]
theorem card_lt (K : CK) : (K.h.all fun b => b.cells.all (SC.lt K.h.length)) = true := by
  simp only [XX, Nat.reduceBEq, Nat.reduceLT, Nat.reduceAdd, Nat.reduceMul, Nat.reduceSub, Nat.reduceLeDiff, Nat.reduceEqDiff, Int.reduceToNat, Int.reduceLT, Int.reduceLE, Int.reduceAdd, Int.reduceSub, Int.reduceEq, reduceIte, Nat.reduceBNe, Int.reducePow, Nat.reducePow, Int.reduceMul, Int.reduceNeg, isB_i, isB_b, isB_y, isBv_i, isBv_b, eqCells_t, TT, ids_bsC, ren_bsC, noRo_bsC, plain_bsC, lt_bsC, ids_byte, ren_byte, noRo_byte, plain_byte, lt_byte, slC_lt]
  rfl
end Go.Proofs.Ythbojoiogjdbeaa.Sx
namespace Go.Proofs.Ythbojoiogjdbeaa.Sx
open Go
set_option linter.unusedSimpArgs false
set_option linter.unusedVariables false
set_option maxRecDepth 10000
set_option maxHeartbeats 2000000
/-- Descriptors' cells. -/
abbrev dsC (l : List (Bool × SC)) : List SC := (l.map fun q => [bC q.1, q.2]).flatten
abbrev zD : Bool × SC := (false, .v (.slice none 0 0))
abbrev rcB (r t : SC) (a1 a2 c1 c2 c3 : Int) : SB := ⟨true, 83, [r, t, i64 a1, i64 a2, i64 c1, i64 c2, i64 c3]⟩
abbrev dB (o : Bool) (l : List (Bool × SC)) : SB := ⟨o, 85, dsC l⟩
/-- Descriptors without bytes. -/
abbrev rowsN (b : Bool) (i j : Nat) : List (Bool × SC) := List.replicate i (b, .v (.slice none 0 0)) ++ List.replicate j zD
theorem rnewN_spec (n m : Int) (h : n < 1 ∨ 64 < n ∨ m < 1 ∨ 64 < m) : Spec cx.P 9 [.c (i64 n), .c (i64 m)] [] fun t _ => t.plain = true ∧ t = .c (.v (.pointer none)) := by
  refine spec_of_X cx_ok Try.func9 rfl (by kernel_rfl) (by kernel_rfl) (Nat.le_of_ble_eq_true rfl) 400 8 ?_
  simp (maxSteps := 4000000) only [Try.results9, XX, Nat.reduceBEq, Nat.reduceLT, Nat.reduceAdd, Nat.reduceMul, Nat.reduceSub, Nat.reduceLeDiff, Nat.reduceEqDiff, Int.reduceToNat, Int.reduceLT, Int.reduceLE, Int.reduceAdd, Int.reduceSub, Int.reduceEq, reduceIte, Nat.reduceBNe, Int.reducePow, Nat.reducePow, Int.reduceMul, Int.reduceNeg, isB_i, isB_b, isB_y, isBv_i, isBv_b, eqCells_t, TT]
  cases h1 : decide (n < 1)
  · cases h2 : decide (64 < n)
    · cases h3 : decide (m < 1)
      · have h4 : decide (64 < m) = true := by
          simp only [decide_eq_false_iff_not] at h1 h2 h3
          simp only [decide_eq_true_eq]; omega
        simp (maxSteps := 4000000) only [Try.results9, h1, h2, h3, h4, XX, Nat.reduceBEq, Nat.reduceLT, Nat.reduceAdd, Nat.reduceMul, Nat.reduceSub, Nat.reduceLeDiff, Nat.reduceEqDiff, Int.reduceToNat, Int.reduceLT, Int.reduceLE, Int.reduceAdd, Int.reduceSub, Int.reduceEq, reduceIte, Nat.reduceBNe, Int.reducePow, Nat.reducePow, Int.reduceMul, Int.reduceNeg, isB_i, isB_b, isB_y, isBv_i, isBv_b, eqCells_t, TT]
      · simp (maxSteps := 4000000) only [Try.results9, h1, h2, h3, XX, Nat.reduceBEq, Nat.reduceLT, Nat.reduceAdd, Nat.reduceMul, Nat.reduceSub, Nat.reduceLeDiff, Nat.reduceEqDiff, Int.reduceToNat, Int.reduceLT, Int.reduceLE, Int.reduceAdd, Int.reduceSub, Int.reduceEq, reduceIte, Nat.reduceBNe, Int.reducePow, Nat.reducePow, Int.reduceMul, Int.reduceNeg, isB_i, isB_b, isB_y, isBv_i, isBv_b, eqCells_t, TT]
    · simp (maxSteps := 4000000) only [Try.results9, h1, h2, XX, Nat.reduceBEq, Nat.reduceLT, Nat.reduceAdd, Nat.reduceMul, Nat.reduceSub, Nat.reduceLeDiff, Nat.reduceEqDiff, Int.reduceToNat, Int.reduceLT, Int.reduceLE, Int.reduceAdd, Int.reduceSub, Int.reduceEq, reduceIte, Nat.reduceBNe, Int.reducePow, Nat.reducePow, Int.reduceMul, Int.reduceNeg, isB_i, isB_b, isB_y, isBv_i, isBv_b, eqCells_t, TT]
  · simp (maxSteps := 4000000) only [Try.results9, h1, XX, Nat.reduceBEq, Nat.reduceLT, Nat.reduceAdd, Nat.reduceMul, Nat.reduceSub, Nat.reduceLeDiff, Nat.reduceEqDiff, Int.reduceToNat, Int.reduceLT, Int.reduceLE, Int.reduceAdd, Int.reduceSub, Int.reduceEq, reduceIte, Nat.reduceBNe, Int.reducePow, Nat.reducePow, Int.reduceMul, Int.reduceNeg, isB_i, isB_b, isB_y, isBv_i, isBv_b, eqCells_t, TT]
end Go.Proofs.Ythbojoiogjdbeaa.Sx
namespace Go.Proofs.Ythbojoiogjdbeaa.Sx
open Go
set_option linter.unusedSimpArgs false
set_option linter.unusedVariables false
set_option maxRecDepth 10000
set_option maxHeartbeats 2000000
/-- A ring of 'n' slots holds what was put, from 'a' on; such slots are 'full', the others not. -/
structure Rg (full : Bool) (n : Nat) (l : List Sl) (a : Nat) (q : List (List UInt8)) : Prop where
  len : l.length = n
  ab : a ≤ q.length
  bn : q.length ≤ a + n
  on : ∀ k, a ≤ k → k < q.length → ∃ s, l[k % n]? = some s ∧ s.own = full ∧ q[k]? = some s.d
  off : ∀ k, q.length ≤ k → k < a + n → ∃ s, l[k % n]? = some s ∧ s.own = !full
theorem mod_ne {a n x y : Nat} (hx : a ≤ x) (hy : a ≤ y) (hx' : x < a + n) (hy' : y < a + n) (h : x ≠ y) : x % n ≠ y % n := by
  intro he
  rcases Nat.lt_or_gt_of_ne h with hlt | hlt
  · have := Nat.sub_mod_eq_zero_of_mod_eq he.symm
    rw [Nat.mod_eq_of_lt (by omega)] at this
    omega
  · have := Nat.sub_mod_eq_zero_of_mod_eq he
    rw [Nat.mod_eq_of_lt (by omega)] at this
    omega
theorem Rg.push {full : Bool} {n : Nat} {l : List Sl} {a : Nat} {q : List (List UInt8)} (h : Rg full n l a q) (hr : q.length < a + n) (x j : List UInt8) : Rg full n (l.set (q.length % n) ⟨full, x, j⟩) a (q ++ [x]) := by
  have hl := h.len
  have hab := h.ab
  have hn : 0 < n := by omega
  have hlt : q.length % n < l.length := by rw [hl]; exact Nat.mod_lt _ hn
  refine ⟨by simpa using hl, by simp; omega, by simp; omega, fun k h1 h2 => ?_, fun k h1 h2 => ?_⟩
  · simp only [List.length_append, List.length_cons, List.length_nil] at h2
    by_cases hk : k = q.length
    · subst hk
      exact ⟨_, List.getElem?_set_self hlt, rfl, by simp⟩
    · obtain ⟨s, g1, g2, g3⟩ := h.on k h1 (by omega)
      refine ⟨s, ?_, g2, ?_⟩
      · rw [List.getElem?_set_ne (mod_ne (a := a) (by omega) (by omega) (by omega) (by omega) (Ne.symm hk))]
        exact g1
      · rw [List.getElem?_append_left (by omega)]
        exact g3
  · simp only [List.length_append, List.length_cons, List.length_nil] at h1
    obtain ⟨s, g1, g2⟩ := h.off k (by omega) h2
    exact ⟨s, by rw [List.getElem?_set_ne (mod_ne (a := a) (by omega) (by omega) (by omega) (by omega) (by omega))]; exact g1, g2⟩
theorem Rg.pop {full : Bool} {n : Nat} {l : List Sl} {a : Nat} {q : List (List UInt8)} (h : Rg full n l a q) (hlt : a < q.length) (x j : List UInt8) : Rg full n (l.set (a % n) ⟨!full, x, j⟩) (a + 1) q := by
  have hl := h.len
  have hbn := h.bn
  have hn : 0 < n := by omega
  have hlt2 : a % n < l.length := by rw [hl]; exact Nat.mod_lt _ hn
  refine ⟨by simpa using hl, by omega, by omega, fun k h1 h2 => ?_, fun k h1 h2 => ?_⟩
  · obtain ⟨s, g1, g2, g3⟩ := h.on k (by omega) h2
    exact ⟨s, by rw [List.getElem?_set_ne (mod_ne (a := a) (by omega) (by omega) (by omega) (by omega) (by omega))]; exact g1, g2, g3⟩
  · by_cases hk : k = a + n
    · subst hk
      rw [Nat.add_mod_right]
      exact ⟨_, List.getElem?_set_self hlt2, rfl⟩
    · obtain ⟨s, g1, g2⟩ := h.off k h1 (by omega)
      exact ⟨s, by rw [List.getElem?_set_ne (mod_ne (a := a) (by omega) (by omega) (by omega) (by omega) (by omega))]; exact g1, g2⟩
theorem Rg.at_b {full : Bool} {n : Nat} {l : List Sl} {a : Nat} {q : List (List UInt8)} (h : Rg full n l a q) (hn : 0 < n) : ∃ s, l[q.length % n]? = some s ∧ (q.length < a + n → s.own = !full) ∧ (¬ q.length < a + n → s.own = full) := by
  have hbn := h.bn
  by_cases hr : q.length < a + n
  · obtain ⟨s, g1, g2⟩ := h.off q.length (Nat.le_refl _) hr
    exact ⟨s, g1, fun _ => g2, fun h => absurd hr h⟩
  · have e : q.length = a + n := by omega
    obtain ⟨s, g1, g2, _⟩ := h.on a (Nat.le_refl _) (by omega)
    refine ⟨s, ?_, fun h => absurd h hr, fun _ => g2⟩
    rw [e, Nat.add_mod_right]
    exact g1
theorem Rg.at_a {full : Bool} {n : Nat} {l : List Sl} {a : Nat} {q : List (List UInt8)} (h : Rg full n l a q) (hn : 0 < n) : ∃ s, l[a % n]? = some s ∧ (a < q.length → s.own = full ∧ q[a]? = some s.d) ∧ (¬ a < q.length → s.own = !full) := by
  have hab := h.ab
  by_cases hr : a < q.length
  · obtain ⟨s, g1, g2, g3⟩ := h.on a (Nat.le_refl _) hr
    exact ⟨s, g1, fun _ => ⟨g2, g3⟩, fun h => absurd hr h⟩
  · obtain ⟨s, g1, g2⟩ := h.off a (by omega) (by omega)
    exact ⟨s, g1, fun h => absurd h hr, fun _ => g2⟩
theorem Rg.new (full : Bool) (n : Nat) : Rg full n (List.replicate n (slT !full)) 0 [] := by
  refine ⟨by simp, by simp, by simp, fun k h1 h2 => by simp at h2, fun k h1 h2 => ?_⟩
  rw [List.getElem?_replicate, if_pos (Nat.mod_lt _ (by omega))]
  exact ⟨_, rfl, rfl⟩
structure OpC where
  k : Int
  i : Int
  l : List UInt8
  sp : List UInt8
  c : Nat
abbrev OpC.rc (o : OpC) : List RC := [.v (.int .i64 o.k), .v (.int .i64 o.i), .sl (bsR (o.l ++ o.sp)) o.l.length o.c]
def OpC.ok (o : OpC) : Prop := o.l.length ≤ o.c ∧ o.c = o.l.length + o.sp.length ∧ o.c ≤ maxLen ∧ o.c ≤ 140737488351232
end Go.Proofs.Ythbojoiogjdbeaa.Sx
namespace Go.Proofs.Ythbojoiogjdbeaa.Sx
open Go
set_option linter.unusedSimpArgs false
set_option linter.unusedVariables false
set_option maxRecDepth 10000
set_option maxHeartbeats 2000000
theorem fz_nil4 {ok : Nat → Bool} {r : Nat → Nat} {n : Nat} {h : List SB} {sp : List UInt8} : frC true ok r n h (.v (.slice none 0 0)) (roB [] sp 0) :=
  .inr ⟨rfl, .inl ⟨_, _, _, rfl, .inr (.inl ⟨rfl, rfl, rfl⟩)⟩⟩
theorem fz_any4 {r : Nat → Nat} {n : Nat} {h : List SB} {i : Nat} {l sp : List UInt8} {o : Bool} (hb : h[i]? = some (wB o (l ++ sp))) (ho : 0 < l.length + sp.length → o = true) : frC true (fun _ => true) r n h (slB i l sp) (roB l sp (l.length + sp.length)) := by
  by_cases h0 : 0 < l.length + sp.length
  · obtain rfl := ho h0
    exact fz_sl hb rfl rfl
  · exact .inr ⟨rfl, .inl ⟨_, _, _, rfl, .inr (.inr ⟨i, 0, rfl, .inl ⟨by omega, by omega⟩⟩)⟩⟩
/-- A slice of bytes in a heap, not in a window of 'S'. -/
def DX (S : Nat → Prop) (H : List SB) (x : SC) (d : List UInt8) : Prop := (x = .v (.slice none 0 0) ∧ d = []) ∨ ∃ w z o, x = slB w d z ∧ H[w]? = some (wB o (d ++ z)) ∧ (0 < d.length + z.length → o = true) ∧ ¬ S w
theorem DX.app {S : Nat → Prop} {H : List SB} {x : SC} {d : List UInt8} (h : DX S H x d) (X : List SB) : DX S (H ++ X) x d := by
  rcases h with h | ⟨w, z, o, h1, h2, h3⟩
  · exact .inl h
  · exact .inr ⟨w, z, o, h1, by rw [List.getElem?_append_left (lt_of h2)]; exact h2, h3⟩
theorem DX.grow {S S' : Nat → Prop} {H : List SB} {x : SC} {d : List UInt8} (h : DX S H x d) (hs : ∀ i, S' i → S i ∨ H.length ≤ i) : DX S' H x d := by
  rcases h with h | ⟨w, z, o, h1, h2, h3, h4⟩
  · exact .inl h
  · exact .inr ⟨w, z, o, h1, h2, h3, fun hw => by have := lt_of h2; rcases hs w hw with h | h; exact h4 h; omega⟩
theorem DX.fz {S : Nat → Prop} {H : List SB} {x : SC} {d : List UInt8} (h : DX S H x d) {r : Nat → Nat} {n : Nat} : ∃ sp c, d.length ≤ c ∧ frC true (fun _ => true) r n H x (roB d sp c) := by
  rcases h with ⟨rfl, rfl⟩ | ⟨w, z, o, rfl, h2, h3, _⟩
  · exact ⟨[], 0, Nat.le_refl _, fz_nil4⟩
  · exact ⟨z, d.length + z.length, by omega, fz_any4 h2 h3⟩
/-- The document's card in a heap. -/
structure RC4 (H : List SB) (c r t : Nat) (lr lt : List (Bool × SC)) (nr nt cr ct : Nat) (ar at' : Nat) (c1 c2 c3 : Int) : Prop where
  hc : H[c]? = some (rcB (.sl r 0 nr cr) (.sl t 0 nt ct) ar at' c1 c2 c3)
  hr : H[r]? = some (dB true lr)
  ht : H[t]? = some (dB true lt)
  ne : c ≠ r ∧ c ≠ t ∧ r ≠ t
  lr : nr ≤ lr.length
  lt : nt ≤ lt.length
  n1 : 0 < nr ∧ nr ≤ 64
  n2 : 0 < nt ∧ nt ≤ 64
  ar : ar < nr
  at' : at' < nt
section
variable {H : List SB} {c r t : Nat} {lr lt : List (Bool × SC)} {nr nt cr ct ar at' : Nat} {c1 c2 c3 : Int}
end
end Go.Proofs.Ythbojoiogjdbeaa.Sx
namespace Go.Proofs.Ythbojoiogjdbeaa.Sx
open Go
set_option linter.unusedSimpArgs false
set_option linter.unusedVariables false
set_option maxRecDepth 10000
set_option maxHeartbeats 2000000
abbrev CK.B (k : CK) (w1 w2 : Nat) : SB := cardB w1 w2 k.rx.length k.tx.length k.rn k.tn k.cin k.cdr k.cout
/-- A card in a heap. -/
structure PC (H : List SB) (c w1 w2 : Nat) (k : CK) : Prop where
  hc : H[c]? = some (k.B w1 w2)
  h1 : H[w1]? = some (stB (slC k.rx))
  h2 : H[w2]? = some (stB (slC k.tx))
  ne : c ≠ w1 ∧ c ≠ w2 ∧ w1 ≠ w2
def setC (H : List SB) (c w1 w2 : Nat) (k : CK) : List SB := ((H.set c (k.B w1 w2)).set w1 (stB (slC k.rx))).set w2 (stB (slC k.tx))
theorem setC_len (H : List SB) (c w1 w2 : Nat) (k : CK) : (setC H c w1 w2 k).length = H.length := by simp [setC]
theorem setC_off {H : List SB} {c w1 w2 : Nat} {k : CK} {i : Nat} (h1 : i ≠ c) (h2 : i ≠ w1) (h3 : i ≠ w2) : (setC H c w1 w2 k)[i]? = H[i]? := by
  unfold setC
  rw [List.getElem?_set_ne (Ne.symm h3), List.getElem?_set_ne (Ne.symm h2), List.getElem?_set_ne (Ne.symm h1)]
theorem PC.set {H : List SB} {c w1 w2 : Nat} {k : CK} (h : PC H c w1 w2 k) (k' : CK) : PC (setC H c w1 w2 k') c w1 w2 k' := by
  obtain ⟨n1, n2, n3⟩ := h.ne
  have l1 := lt_of h.hc
  have l2 := lt_of h.h1
  have l3 := lt_of h.h2
  refine ⟨?_, ?_, ?_, h.ne⟩ <;> unfold setC
  · rw [List.getElem?_set_ne (Ne.symm n2), List.getElem?_set_ne (Ne.symm n1), List.getElem?_set_self l1]
  · rw [List.getElem?_set_ne (Ne.symm n3), List.getElem?_set_self (by simpa using l2)]
  · rw [List.getElem?_set_self (by simpa using l3)]
theorem PC.app {H : List SB} {c w1 w2 : Nat} {k : CK} (h : PC H c w1 w2 k) (X : List SB) : PC (H ++ X) c w1 w2 k :=
  ⟨by rw [List.getElem?_append_left (lt_of h.hc)]; exact h.hc, by rw [List.getElem?_append_left (lt_of h.h1)]; exact h.h1, by rw [List.getElem?_append_left (lt_of h.h2)]; exact h.h2, h.ne⟩
theorem PC.mono {H H' : List SB} {c w1 w2 : Nat} {k : CK} (h : PC H c w1 w2 k) (e1 : H'[c]? = H[c]?) (e2 : H'[w1]? = H[w1]?) (e3 : H'[w2]? = H[w2]?) : PC H' c w1 w2 k :=
  ⟨e1.trans h.hc, e2.trans h.h1, e3.trans h.h2, h.ne⟩
theorem plug3 {H : List SB} {c w1 w2 : Nat} (k k' : CK) (X : List SB) : plug (renF [c, w1, w2] H.length) [c, w1, w2] k.h (k'.h ++ X) H = setC H c w1 w2 k' ++ X.map (SB.ren (renF [c, w1, w2] H.length)) := by
  simp only [XX, Nat.reduceBEq, Nat.reduceLT, Nat.reduceAdd, Nat.reduceMul, Nat.reduceSub, Nat.reduceLeDiff, Nat.reduceEqDiff, Int.reduceToNat, Int.reduceLT, Int.reduceLE, Int.reduceAdd, Int.reduceSub, Int.reduceEq, reduceIte, Nat.reduceBNe, Int.reducePow, Nat.reducePow, Int.reduceMul, Int.reduceNeg, isB_i, isB_b, isB_y, isBv_i, isBv_b, eqCells_t, TT, ids_bsC, ren_bsC, noRo_bsC, plain_bsC, lt_bsC, ids_byte, ren_byte, noRo_byte, plain_byte, lt_byte, slC_ren]
  rfl
/-- A contract of a card's call, met in any heap. -/
theorem PC.spec {H : List SB} {c w1 w2 : Nat} {k : CK} (h : PC H c w1 w2 k) {f : FuncId} {bs as0 : List SV} {K : SV → List SB → Prop} (s : Spec cx.P f (.c (.ptr 0 0) :: as0) k.h K) (hno : ∀ t h', K t h' → t.noRo = true ∧ (h'.all fun b => b.cells.all SC.noRo) = true)
    (ha : frA true (notW [c, w1, w2] k.h) (renF [c, w1, w2] H.length) 3 H bs as0) :
    Spec cx.P f (.c (.ptr c 0) :: bs) H fun t h' => ∃ s0 h0', K s0 h0' ∧ t = s0.ren (renF [c, w1, w2] H.length) ∧ h' = plug (renF [c, w1, w2] H.length) [c, w1, w2] k.h h0' H := by
  obtain ⟨n1, n2, n3⟩ := h.ne
  refine s.frame true (fun _ => hno) [c, w1, w2] ⟨.inl ⟨rfl, rfl⟩, ha⟩ ?_ ?_ (card_lt k)
  · simp [piOk, n1, n2, n3]
  · simp only [XX, Nat.reduceBEq, Nat.reduceLT, Nat.reduceAdd, Nat.reduceMul, Nat.reduceSub, Nat.reduceLeDiff, Nat.reduceEqDiff, Int.reduceToNat, Int.reduceLT, Int.reduceLE, Int.reduceAdd, Int.reduceSub, Int.reduceEq, reduceIte, Nat.reduceBNe, Int.reducePow, Nat.reducePow, Int.reduceMul, Int.reduceNeg, isB_i, isB_b, isB_y, isBv_i, isBv_b, eqCells_t, TT, preOk, ids_bsC, ren_bsC, noRo_bsC, plain_bsC, lt_bsC, ids_byte, ren_byte, noRo_byte, plain_byte, lt_byte, slC_ren, h.hc, h.h1, h.h2]
theorem plug3' {H : List SB} {c w1 w2 : Nat} (k k' : CK) : plug (renF [c, w1, w2] H.length) [c, w1, w2] k.h k'.h H = setC H c w1 w2 k' := by
  have := plug3 (H := H) (c := c) (w1 := w1) (w2 := w2) k k' []
  simp only [List.append_nil, List.map_nil] at this
  exact this
theorem ty_ne {H : List SB} {i j : Nat} {a b : SB} (hi : H[i]? = some a) (hj : H[j]? = some b) (h : a.ty ≠ b.ty) : i ≠ j := by
  rintro rfl
  rw [hi] at hj
  exact h (congrArg SB.ty (Option.some.inj hj))
end Go.Proofs.Ythbojoiogjdbeaa.Sx
namespace Go.Proofs.Ythbojoiogjdbeaa.Sx
open Go
set_option linter.unusedSimpArgs false
set_option linter.unusedVariables false
set_option maxRecDepth 10000
set_option maxHeartbeats 2000000
abbrev noSl : Sl := ⟨false, [], []⟩
/-- What a slot shows: whose it is, its bytes, the error. -/
def seeS (l : List Sl) (i : Int) : Bool := if 0 ≤ i ∧ i < (l.length : Int) then (l.getD i.toNat noSl).own else false
def seeD (l : List Sl) (i : Int) : List UInt8 := if 0 ≤ i ∧ i < (l.length : Int) then (l.getD i.toNat noSl).d else []
def seeE (l : List Sl) (i : Int) : Int := if 0 ≤ i ∧ i < (l.length : Int) then 0 else 40
def resD (k : CK) (b : Bool) (d : List UInt8) (e : Int) (t : SV) (h' : List SB) : Prop := ∃ o, t = .tup [(true, [bC b, .sl 3 0 d.length d.length]), (false, [i64 e])] ∧ h' = k.h ++ [wB o d] ∧ (0 < d.length → o = true)
theorem resD_noRo {k : CK} {b : Bool} {d : List UInt8} {e : Int} {t : SV} {h' : List SB} (h : resD k b d e t h') : t.noRo = true ∧ (h'.all fun b => b.cells.all SC.noRo) = true := by
  obtain ⟨o, rfl, rfl, _⟩ := h
  exact ⟨rfl, by simp only [XX, Nat.reduceBEq, Nat.reduceLT, Nat.reduceAdd, Nat.reduceMul, Nat.reduceSub, Nat.reduceLeDiff, Nat.reduceEqDiff, Int.reduceToNat, Int.reduceLT, Int.reduceLE, Int.reduceAdd, Int.reduceSub, Int.reduceEq, reduceIte, Nat.reduceBNe, Int.reducePow, Nat.reducePow, Int.reduceMul, Int.reduceNeg, isB_i, isB_b, isB_y, isBv_i, isBv_b, eqCells_t, TT, ids_bsC, ren_bsC, noRo_bsC, plain_bsC, lt_bsC, ids_byte, ren_byte, noRo_byte, plain_byte, lt_byte, slC_noRo]⟩
theorem at_of {l : List Sl} {i : Int} (h : 0 ≤ i ∧ i < (l.length : Int)) : ∃ j : Nat, i = j ∧ l[j]? = some (l.getD j noSl) := by
  refine ⟨i.toNat, by omega, ?_⟩
  rw [List.getD_eq_getElem?_getD, List.getElem?_eq_getElem (by omega)]
  rfl
theorem rxA_spec (k : CK) (ok : k.ok) (i : Int) : Spec cx.P 30 [.c (.ptr 0 0), .c (i64 i)] k.h (resD k (seeS k.rx i) (seeD k.rx i) (seeE k.rx i)) := by
  unfold seeS seeD seeE
  by_cases h : 0 ≤ i ∧ i < (k.rx.length : Int)
  · rw [if_pos h, if_pos h, if_pos h]
    obtain ⟨j, rfl, hj⟩ := at_of h
    rw [Int.toNat_natCast]
    exact (rx_spec k ok j _ hj).mono fun t h' ⟨h1, h2⟩ => ⟨true, h1, h2, fun _ => rfl⟩
  · rw [if_neg h, if_neg h, if_neg h]
    refine (rxN_spec k i (by omega)).wk fun t h' ⟨h1, h2⟩ => ⟨.tup [(true, [bC false, .sl 3 0 0 0]), (false, [i64 40])], k.h ++ [wB false []], [some 0, some 1, some 2, none], rfl, ?_, ?_, false, rfl, rfl, fun h => absurd h (by simp)⟩
    · subst h2
      simp only [XX, Nat.reduceBEq, Nat.reduceLT, Nat.reduceAdd, Nat.reduceMul, Nat.reduceSub, Nat.reduceLeDiff, Nat.reduceEqDiff, Int.reduceToNat, Int.reduceLT, Int.reduceLE, Int.reduceAdd, Int.reduceSub, Int.reduceEq, reduceIte, Nat.reduceBNe, Int.reducePow, Nat.reducePow, Int.reduceMul, Int.reduceNeg, isB_i, isB_b, isB_y, isBv_i, isBv_b, eqCells_t, TT, ids_bsC, ren_bsC, noRo_bsC, plain_bsC, lt_bsC, ids_byte, ren_byte, noRo_byte, plain_byte, lt_byte, slC_ren, List.map_nil]
      exact ⟨.inl (slC_ids _ _), .inl (slC_ids _ _)⟩
    · subst h1
      exact .inr ⟨rfl, ⟨.inl ⟨rfl, rfl⟩, .inr (.inr ⟨_, _, rfl, .inl rfl⟩), trivial⟩, rfl, ⟨.inl ⟨rfl, rfl⟩, trivial⟩, trivial⟩
theorem txA_spec (k : CK) (ok : k.ok) (i : Int) : Spec cx.P 45 [.c (.ptr 0 0), .c (i64 i)] k.h (resD k (seeS k.tx i) (seeD k.tx i) (seeE k.tx i)) := by
  unfold seeS seeD seeE
  by_cases h : 0 ≤ i ∧ i < (k.tx.length : Int)
  · rw [if_pos h, if_pos h, if_pos h]
    obtain ⟨j, rfl, hj⟩ := at_of h
    rw [Int.toNat_natCast]
    exact (tx_spec k ok j _ hj).mono fun t h' ⟨h1, h2⟩ => ⟨true, h1, h2, fun _ => rfl⟩
  · rw [if_neg h, if_neg h, if_neg h]
    refine (txN_spec k i (by omega)).wk fun t h' ⟨h1, h2⟩ => ⟨.tup [(true, [bC false, .sl 3 0 0 0]), (false, [i64 40])], k.h ++ [wB false []], [some 0, some 1, some 2, none], rfl, ?_, ?_, false, rfl, rfl, fun h => absurd h (by simp)⟩
    · subst h2
      simp only [XX, Nat.reduceBEq, Nat.reduceLT, Nat.reduceAdd, Nat.reduceMul, Nat.reduceSub, Nat.reduceLeDiff, Nat.reduceEqDiff, Int.reduceToNat, Int.reduceLT, Int.reduceLE, Int.reduceAdd, Int.reduceSub, Int.reduceEq, reduceIte, Nat.reduceBNe, Int.reducePow, Nat.reducePow, Int.reduceMul, Int.reduceNeg, isB_i, isB_b, isB_y, isBv_i, isBv_b, eqCells_t, TT, ids_bsC, ren_bsC, noRo_bsC, plain_bsC, lt_bsC, ids_byte, ren_byte, noRo_byte, plain_byte, lt_byte, slC_ren, List.map_nil]
      exact ⟨.inl (slC_ids _ _), .inl (slC_ids _ _)⟩
    · subst h1
      exact .inr ⟨rfl, ⟨.inl ⟨rfl, rfl⟩, .inr (.inr ⟨_, _, rfl, .inl rfl⟩), trivial⟩, rfl, ⟨.inl ⟨rfl, rfl⟩, trivial⟩, trivial⟩
/-- A frame comes. -/
def arrB (k : CK) (b : List UInt8) : Bool := if b.length = 0 ∨ 1514 < b.length then false else (k.rx.getD k.rn noSl).own
def arrK (k : CK) (b : List UInt8) : CK := if b.length = 0 ∨ 1514 < b.length then k else
  if (k.rx.getD k.rn noSl).own then { k with rx := k.rx.set k.rn ⟨false, b, ((k.rx.getD k.rn noSl).d ++ (k.rx.getD k.rn noSl).j).drop b.length⟩, rn := (k.rn + 1) % k.rx.length, cin := IntKind.i64.wrap (k.cin + 1) } else { k with cdr := IntKind.i64.wrap (k.cdr + 1) }
theorem getS {l : List Sl} {i : Nat} (h : i < l.length) : l[i]? = some (l.getD i noSl) := by
  rw [List.getD_eq_getElem?_getD, List.getElem?_eq_getElem h]
  rfl
theorem arriveA_spec (k : CK) (ok : k.ok) (b sp : List UInt8) (c : Nat) : Spec cx.P 10 [.c (.ptr 0 0), .c (roB b sp c)] k.h fun t h' => t = .c (bC (arrB k b)) ∧ h' = (arrK k b).h := by
  unfold arrB arrK
  by_cases h : b.length = 0 ∨ 1514 < b.length
  · rw [if_pos h, if_pos h]
    exact arriveB_spec k b sp c h
  · rw [if_neg h, if_neg h]
    have hs := getS ok.rn
    cases ho : (k.rx.getD k.rn noSl).own
    · exact arriveF_spec k ok _ hs ho b sp c (by omega) (by omega)
    · exact arrive_spec k ok _ hs ho b sp c (by omega) (by omega)
theorem arrK_ok (k : CK) (ok : k.ok) (b : List UInt8) : (arrK k b).ok := by
  unfold arrK
  split
  · exact ok
  split
  · exact ⟨by simpa using ok.rx0, by simpa using ok.rx1, ok.tx0, ok.tx1, by simp; exact Nat.mod_lt _ ok.rx0, ok.tn, set_ok ok.rs (ok.rs _ (List.mem_of_getElem? (getS ok.rn))) (by omega), ok.ts⟩
  · exact ⟨ok.1, ok.2, ok.3, ok.4, ok.5, ok.6, ok.7, ok.8⟩
/-- A frame goes. -/
def depB (k : CK) : Bool := (k.tx.getD k.tn noSl).own
def depD (k : CK) : List UInt8 := if (k.tx.getD k.tn noSl).own then (k.tx.getD k.tn noSl).d else []
def depK (k : CK) : CK := if (k.tx.getD k.tn noSl).own then { k with tx := k.tx.set k.tn ⟨false, [], (k.tx.getD k.tn noSl).d ++ (k.tx.getD k.tn noSl).j⟩, tn := (k.tn + 1) % k.tx.length, cout := IntKind.i64.wrap (k.cout + 1) } else k
def resO (k : CK) (d : List UInt8) (b : Bool) (t : SV) (h' : List SB) : Prop := ∃ o, t = .tup [(false, [.sl 3 0 d.length d.length]), (false, [bC b])] ∧ h' = k.h ++ [wB o d] ∧ (0 < d.length → o = true)
theorem resO_noRo {k : CK} {b : Bool} {d : List UInt8} {t : SV} {h' : List SB} (h : resO k d b t h') : t.noRo = true ∧ (h'.all fun b => b.cells.all SC.noRo) = true := by
  obtain ⟨o, rfl, rfl, _⟩ := h
  exact ⟨rfl, by simp only [XX, Nat.reduceBEq, Nat.reduceLT, Nat.reduceAdd, Nat.reduceMul, Nat.reduceSub, Nat.reduceLeDiff, Nat.reduceEqDiff, Int.reduceToNat, Int.reduceLT, Int.reduceLE, Int.reduceAdd, Int.reduceSub, Int.reduceEq, reduceIte, Nat.reduceBNe, Int.reducePow, Nat.reducePow, Int.reduceMul, Int.reduceNeg, isB_i, isB_b, isB_y, isBv_i, isBv_b, eqCells_t, TT, ids_bsC, ren_bsC, noRo_bsC, plain_bsC, lt_bsC, ids_byte, ren_byte, noRo_byte, plain_byte, lt_byte, slC_noRo]⟩
theorem departA_spec (k : CK) (ok : k.ok) : Spec cx.P 13 [.c (.ptr 0 0)] k.h (resO (depK k) (depD k) (depB k)) := by
  unfold depK depD depB
  have hs := getS ok.tn
  cases ho : (k.tx.getD k.tn noSl).own
  · refine (departN_spec k ok _ hs ho).wk fun t h' ⟨h1, h2⟩ => ⟨.tup [(false, [.sl 3 0 0 0]), (false, [bC false])], k.h ++ [wB false []], [some 0, some 1, some 2, none], rfl, ?_, ?_, false, rfl, rfl, fun h => absurd h (by simp)⟩
    · subst h2
      simp only [XX, Nat.reduceBEq, Nat.reduceLT, Nat.reduceAdd, Nat.reduceMul, Nat.reduceSub, Nat.reduceLeDiff, Nat.reduceEqDiff, Int.reduceToNat, Int.reduceLT, Int.reduceLE, Int.reduceAdd, Int.reduceSub, Int.reduceEq, reduceIte, Nat.reduceBNe, Int.reducePow, Nat.reducePow, Int.reduceMul, Int.reduceNeg, isB_i, isB_b, isB_y, isBv_i, isBv_b, eqCells_t, TT, ids_bsC, ren_bsC, noRo_bsC, plain_bsC, lt_bsC, ids_byte, ren_byte, noRo_byte, plain_byte, lt_byte, slC_ren, List.map_nil]
      exact ⟨.inl (slC_ids _ _), .inl (slC_ids _ _)⟩
    · subst h1
      exact .inr ⟨rfl, ⟨.inr (.inr ⟨_, _, rfl, .inl rfl⟩), trivial⟩, rfl, ⟨.inl ⟨rfl, rfl⟩, trivial⟩, trivial⟩
  · exact (depart_spec k ok _ hs ho).mono fun t h' ⟨h1, h2⟩ => ⟨true, h1, h2, fun _ => rfl⟩
theorem depK_ok (k : CK) (ok : k.ok) : (depK k).ok := by
  unfold depK
  split
  · exact ⟨ok.rx0, ok.rx1, by simpa using ok.tx0, by simpa using ok.tx1, ok.rn, by simp; exact Nat.mod_lt _ ok.tx0, ok.rs, set_ok (b := []) ok.ts (ok.ts _ (List.mem_of_getElem? (getS ok.tn))) (by simp)⟩
  · exact ok
/-- A slot is given back. -/
def givE (k : CK) (i : Int) : Int := if 0 ≤ i ∧ i < (k.rx.length : Int) then (if (k.rx.getD i.toNat noSl).own then 41 else 0) else 40
def givK (k : CK) (i : Int) : CK := if 0 ≤ i ∧ i < (k.rx.length : Int) then (if (k.rx.getD i.toNat noSl).own then k else { k with rx := k.rx.set i.toNat ⟨true, [], (k.rx.getD i.toNat noSl).d ++ (k.rx.getD i.toNat noSl).j⟩ }) else k
theorem giveA_spec (k : CK) (ok : k.ok) (i : Int) : Spec cx.P 33 [.c (.ptr 0 0), .c (i64 i)] k.h fun t h' => t = .c (i64 (givE k i)) ∧ h' = (givK k i).h := by
  unfold givE givK
  by_cases h : 0 ≤ i ∧ i < (k.rx.length : Int)
  · rw [if_pos h, if_pos h]
    obtain ⟨j, rfl, hj⟩ := at_of h
    rw [Int.toNat_natCast]
    cases ho : (k.rx.getD j noSl).own
    · exact give_spec k ok j _ hj ho
    · exact giveO_spec k ok j _ hj ho
  · rw [if_neg h, if_neg h]
    exact giveN_spec k i (by omega)
theorem givK_ok (k : CK) (ok : k.ok) (i : Int) : (givK k i).ok := by
  unfold givK
  split
  · next h =>
    split
    · exact ok
    · exact ⟨by simpa using ok.rx0, by simpa using ok.rx1, ok.tx0, ok.tx1, by simpa using ok.rn, ok.tn, set_ok (b := []) ok.rs (ok.rs _ (List.mem_of_getElem? (getS (by omega)))) (by simp), ok.ts⟩
  · exact ok
/-- A frame is laid. -/
def layE (k : CK) (i : Int) (b : List UInt8) : Int := if 0 ≤ i ∧ i < (k.tx.length : Int) then (if b.length < 60 then 5 else if 1514 < b.length then 2 else if (k.tx.getD i.toNat noSl).own then 41 else 0) else 40
def layK (k : CK) (i : Int) (b : List UInt8) : CK := if 0 ≤ i ∧ i < (k.tx.length : Int) then (if b.length < 60 then k else if 1514 < b.length then k else if (k.tx.getD i.toNat noSl).own then k else { k with tx := k.tx.set i.toNat ⟨true, b, ((k.tx.getD i.toNat noSl).d ++ (k.tx.getD i.toNat noSl).j).drop b.length⟩ }) else k
theorem layA_spec (k : CK) (ok : k.ok) (i : Int) (b sp : List UInt8) (c : Nat) : Spec cx.P 57 [.c (.ptr 0 0), .c (i64 i), .c (roB b sp c)] k.h fun t h' => t = .c (i64 (layE k i b)) ∧ h' = (layK k i b).h := by
  unfold layE layK
  by_cases h : 0 ≤ i ∧ i < (k.tx.length : Int)
  · rw [if_pos h, if_pos h]
    obtain ⟨j, rfl, hj⟩ := at_of h
    rw [Int.toNat_natCast]
    by_cases h1 : b.length < 60
    · rw [if_pos h1, if_pos h1]
      exact layE_spec k ok j _ hj b sp c 5 (.inl ⟨h1, rfl⟩)
    rw [if_neg h1, if_neg h1]
    by_cases h2 : 1514 < b.length
    · rw [if_pos h2, if_pos h2]
      exact layE_spec k ok j _ hj b sp c 2 (.inr (.inl ⟨h2, rfl⟩))
    rw [if_neg h2, if_neg h2]
    cases ho : (k.tx.getD j noSl).own
    · exact lay_spec k ok j _ hj b sp c (by omega) (by omega) ho
    · exact layE_spec k ok j _ hj b sp c 41 (.inr (.inr ⟨by omega, by omega, ho, rfl⟩))
  · rw [if_neg h, if_neg h]
    exact layN_spec k i _ (by omega)
theorem layK_ok (k : CK) (ok : k.ok) (i : Int) (b : List UInt8) : (layK k i b).ok := by
  unfold layK
  repeat' split
  all_goals first | exact ok | skip
  next h h1 h2 h3 =>
    refine ⟨ok.rx0, ok.rx1, by simpa using ok.tx0, by simpa using ok.tx1, ok.rn, by simpa using ok.tn, ok.rs, ?_⟩
    intro x hx
    rcases List.mem_or_eq_of_mem_set hx with hx | rfl
    · exact ok.ts x hx
    · have := ok.ts _ (List.mem_of_getElem? (getS (l := k.tx) (i := i.toNat) (by omega)))
      unfold Sl.ok at this ⊢
      simp only [List.length_drop, List.length_append]
      omega
end Go.Proofs.Ythbojoiogjdbeaa.Sx
namespace Go.Proofs.Ythbojoiogjdbeaa.Sx
open Go
set_option linter.unusedSimpArgs false
set_option linter.unusedVariables false
set_option maxRecDepth 10000
set_option maxHeartbeats 2000000
theorem DX.set {S : Nat → Prop} {H : List SB} {x : SC} {d : List UInt8} (h : DX S H x d) {j : Nat} {b X : SB} (hj : H[j]? = some b) (ht : b.ty ≠ 5) : DX S (H.set j X) x d := by
  rcases h with h | ⟨w, z, o, h1, h2, h3⟩
  · exact .inl h
  · exact .inr ⟨w, z, o, h1, by rw [List.getElem?_set_ne (ty_ne hj h2 ht)]; exact h2, h3⟩
def rowsOf (S : Nat → Prop) (H : List SB) (ss : List Sl) (l : List (Bool × SC)) : Prop := ∀ (i : Nat) (s : Sl), ss[i]? = some s → ∃ x, l[i]? = some (s.own, x) ∧ DX S H x s.d
theorem rowsOf.mono {S S' : Nat → Prop} {H H' : List SB} {ss : List Sl} {l : List (Bool × SC)} (h : rowsOf S H ss l) (hd : ∀ x d, DX S H x d → DX S' H' x d) : rowsOf S' H' ss l := fun i s hs => let ⟨x, h1, h2⟩ := h i s hs; ⟨x, h1, hd _ _ h2⟩
theorem rowsOf.set {S : Nat → Prop} {H : List SB} {ss : List Sl} {l : List (Bool × SC)} (h : rowsOf S H ss l) (hl : ss.length ≤ l.length) (i : Nat) (s : Sl) {x : SC} (hx : DX S H x s.d) : rowsOf S H (ss.set i s) (l.set i (s.own, x)) := by
  intro j s' hj
  by_cases he : i = j
  · subst he
    have hi : i < ss.length := by
      have := (List.getElem?_eq_some_iff.1 hj).1
      simpa using this
    rw [List.getElem?_set_self hi] at hj
    cases hj
    exact ⟨x, List.getElem?_set_self (by omega), hx⟩
  · rw [List.getElem?_set_ne he] at hj
    obtain ⟨x', h1, h2⟩ := h j s' hj
    exact ⟨x', by rw [List.getElem?_set_ne he]; exact h1, h2⟩
/-- The document's card stands as the card 'k'. -/
structure RS (S : Nat → Prop) (H : List SB) (rc rr rt : Nat) (k : CK) (lr lt : List (Bool × SC)) (cr ct : Nat) : Prop where
  R : RC4 H rc rr rt lr lt k.rx.length k.tx.length cr ct k.rn k.tn k.cin k.cdr k.cout
  rx : rowsOf S H k.rx lr
  tx : rowsOf S H k.tx lt
def RSx (S : Nat → Prop) (H : List SB) (rc rr rt : Nat) (k : CK) : Prop := ∃ lr lt cr ct, RS S H rc rr rt k lr lt cr ct
section
variable {H : List SB} {c r t : Nat} {lr lt : List (Bool × SC)} {nr nt cr ct ar at' : Nat} {c1 c2 c3 : Int}
theorem RC4.app (R : RC4 H c r t lr lt nr nt cr ct ar at' c1 c2 c3) (X : List SB) : RC4 (H ++ X) c r t lr lt nr nt cr ct ar at' c1 c2 c3 :=
  ⟨by rw [List.getElem?_append_left (lt_of R.hc)]; exact R.hc, by rw [List.getElem?_append_left (lt_of R.hr)]; exact R.hr, by rw [List.getElem?_append_left (lt_of R.ht)]; exact R.ht, R.ne, R.lr, R.lt, R.n1, R.n2, R.ar, R.at'⟩
theorem RC4.mono {H' : List SB} (R : RC4 H c r t lr lt nr nt cr ct ar at' c1 c2 c3) (e1 : H'[c]? = H[c]?) (e2 : H'[r]? = H[r]?) (e3 : H'[t]? = H[t]?) : RC4 H' c r t lr lt nr nt cr ct ar at' c1 c2 c3 :=
  ⟨e1.trans R.hc, e2.trans R.hr, e3.trans R.ht, R.ne, R.lr, R.lt, R.n1, R.n2, R.ar, R.at'⟩
end
theorem But.rfl' (H : List SB) (p : Nat → Prop) : But H H p := ⟨Nat.le_refl _, fun _ _ _ => rfl⟩
theorem But.set {H H' : List SB} {p : Nat → Prop} (h : But H H' p) {j : Nat} (hj : p j) (X : SB) : But H (H'.set j X) p :=
  ⟨by rw [List.length_set]; exact h.1, fun k hk hp => by rw [List.getElem?_set_ne (fun e => hp (by rw [← e]; exact hj))]; exact h.2 k hk hp⟩
theorem But.app {H H' : List SB} {p : Nat → Prop} (h : But H H' p) (X : List SB) : But H (H' ++ X) p :=
  ⟨by rw [List.length_append]; have := h.1; omega, fun k hk hp => by rw [List.getElem?_append_left (by have := h.1; omega)]; exact h.2 k hk hp⟩
end Go.Proofs.Ythbojoiogjdbeaa.Sx
