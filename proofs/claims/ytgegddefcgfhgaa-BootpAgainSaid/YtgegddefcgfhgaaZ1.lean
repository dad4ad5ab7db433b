/- The symbolic executor, at work: what the laws lean on, part 1. No condition. -/
import Derived.Test.YtgegddefcgfhgaaSxOpen
import Derived.Laws.Strings
import Derived.Test.YtgegddefcgfhgaaSxRg2
import Derived.Below
import Derived.Shelf.Abstract
import Derived.Lib.Strings
import Derived.Lib.Slices
import Derived.Lib.Walk
import Derived.Lib.Bytealg
import Derived.Lib.BytesEntry
namespace Go.Proofs.Ytgegddefcgfhgaa.Sx
open Go
set_option linter.unusedSimpArgs false
set_option linter.unusedVariables false
/-- Behind nothing: new memory, or none. -/
theorem xapp_nil {xn : XN} {dst : Option Tmp} {k : List KI} {nm : NB} {tm : List (Nat × SV)} {Q : XE → St → Prop} {h : List SB} {ty : TypeId} {news z : List SC} {m g : Nat} {grow : Nat → SV × List SB} (hm : m = 0 → news = []) (hg : g = h.length)
    (hk : ∀ (j : Nat) (o : Bool), (0 < m + j → o = true) → xn k ⟨nm, put dst (.c (.sl g 0 m (m + j))) tm, h ++ [⟨o, ty, news ++ (List.replicate j z).flatten⟩]⟩ Q)
    (he : ∀ c, grow c = (.c (.sl g 0 m c), h ++ [⟨true, ty, news ++ (List.replicate (c - m) z).flatten⟩])) :
    XApp xn m 0 dst k nm tm (.c (.v (.slice none 0 0)), h) grow Q := by
  refine ⟨fun h0 => .inr ⟨_, fun e a w S => S.voidD ty (i := g) (o := 0), ?_⟩, fun h0 c h1 _ => .inl ?_⟩
  · have := hk 0 false (fun h => by omega)
    obtain rfl : m = 0 := by omega
    rw [hm rfl] at this
    exact this
  · obtain ⟨j, rfl⟩ := Nat.exists_eq_add_of_le h1
    rw [he, Nat.add_sub_cancel_left]
    exact hk j true fun _ => rfl
theorem rep_len {z : List SC} {sz : Nat} (hz : z.length = sz) : ∀ j : Nat, (List.replicate j z).flatten.length = j * sz
  | 0 => by simp
  | j + 1 => by rw [List.replicate_succ, List.flatten_cons, List.length_append, rep_len hz j, hz, Nat.succ_mul, Nat.add_comm]
end Go.Proofs.Ytgegddefcgfhgaa.Sx
namespace Go.Proofs.Ytgegddefcgfhgaa.Sx
open Go
set_option linter.unusedSimpArgs false
set_option linter.unusedVariables false
set_option maxRecDepth 10000
set_option maxHeartbeats 1000000
abbrev i32 (n : Int) : SC := .v (.int .u32 n)
abbrev i64 (n : Int) : SC := .v (.int .i64 n)
abbrev u64 (n : Int) : SC := .v (.int .u64 n)
abbrev bC (b : Bool) : SC := .v (.bool b)
theorem wrap_u32 (x : Int) : IntKind.u32.wrap x = x % 4294967296 := by
  simp [IntKind.wrap, IntKind.bits, IntKind.signed]
theorem wrap_u8 (x : Int) : IntKind.u8.wrap x = x % 256 := by
  simp [IntKind.wrap, IntKind.bits, IntKind.signed]
theorem wrap_u64 (x : Int) : IntKind.u64.wrap x = x % 18446744073709551616 := by
  simp [IntKind.wrap, IntKind.bits, IntKind.signed]
theorem wrap_i64 (x : Int) : IntKind.i64.wrap x = (x + 9223372036854775808) % 18446744073709551616 - 9223372036854775808 := by
  have : IntKind.i64.wrap x = if x % 18446744073709551616 ≥ 9223372036854775808 then x % 18446744073709551616 - 18446744073709551616 else x % 18446744073709551616 := by simp [IntKind.wrap, IntKind.bits, IntKind.signed]
  rw [this]
  split <;> omega
/-- Within bounds nothing is wrapped. -/
theorem w64 {x : Int} (h1 : -9223372036854775808 ≤ x) (h2 : x < 9223372036854775808) : IntKind.i64.wrap x = x := by rw [wrap_i64]; omega
theorem wu64 {x : Int} (h1 : 0 ≤ x) (h2 : x < 18446744073709551616) : IntKind.u64.wrap x = x := by rw [wrap_u64]; omega
theorem wu32 {x : Int} (h1 : 0 ≤ x) (h2 : x < 4294967296) : IntKind.u32.wrap x = x := by rw [wrap_u32]; omega
theorem byte_nat (b : UInt8) : 0 ≤ (b.toNat : Int) ∧ (b.toNat : Int) < 256 := by
  have := b.toNat_lt
  constructor <;> omega
def byteR (b : UInt8) : RC := .v (.int .u8 b.toNat)
abbrev bsC (l : List UInt8) : List SC := l.map byteC
abbrev bsR (l : List UInt8) : List RC := l.map byteR
/-- Bytes as they came in: 'sp' stands behind them. -/
abbrev roB (l sp : List UInt8) (c : Nat) : SC := .ro (bsR (l ++ sp)) l.length c
abbrev strB (l : List UInt8) : SC := .v (.string ⟨l.toArray⟩)
abbrev wB (own : Bool) (l : List UInt8) : SB := ⟨own, 5, bsC l⟩
theorem bsR_toSC (l : List UInt8) : (bsR l).map RC.toSC = bsC l := by
  simp only [List.map_map]
  exact List.map_congr_left fun b _ => rfl
theorem byteOf_byteC (b : UInt8) : byteOf (byteC b) = b := by
  simp [byteOf, byteC]
theorem strOf_bsC (l : List UInt8) : strOf (bsC l) = ⟨l.toArray⟩ := by
  simp only [strOf, List.map_map]
  congr 2
  conv => rhs; rw [← List.map_id l]
  exact List.map_congr_left fun b _ => byteOf_byteC b
theorem isByte_byteC (b : UInt8) : isByte (byteC b) = true := by
  have := byte_nat b
  simp [isByte, byteC]
  omega
theorem isByte_bsC (l : List UInt8) : ∀ c ∈ bsC l, isByte c = true := by
  intro c hc
  simp only [List.mem_map] at hc
  obtain ⟨b, _, rfl⟩ := hc
  exact isByte_byteC b
theorem str_eq (a b : List UInt8) : ((⟨a.toArray⟩ : ByteArray).toList == (⟨b.toArray⟩ : ByteArray).toList) = decide (a = b) := by
  rw [ByteArray.toList_eq, ByteArray.toList_eq]
  simp only [List.toList_toArray]
  rw [Bool.eq_iff_iff]
  simp
theorem byteC_of (x : Int) : SC.v (.int .u8 (IntKind.u8.wrap x)) = byteC (UInt8.ofInt x) := by
  simp only [byteC, wrap_u8]
  congr 2
  simp [UInt8.ofInt]
  omega
theorem bsC_len (l : List UInt8) : (bsC l).length = l.length := by simp
theorem bsC_zeros (n : Nat) : (List.replicate n (SC.v (.int .u8 0))) = bsC (List.replicate n 0) := by
  simp only [bsC, List.map_replicate]; rfl
theorem zeros_flat (n : Nat) : (List.replicate n [SC.v (.int .u8 0)]).flatten = bsC (List.replicate n 0) := by
  rw [← bsC_zeros]
  induction n with
  | zero => rfl
  | succ n ih => simp [List.replicate_succ, ih]
theorem bs_take (n : Nat) (l : List UInt8) : (bsC l).take n = bsC (l.take n) := List.map_take.symm
theorem bs_drop (n : Nat) (l : List UInt8) : (bsC l).drop n = bsC (l.drop n) := List.map_drop.symm
theorem bs_app (a b : List UInt8) : bsC a ++ bsC b = bsC (a ++ b) := List.map_append.symm
theorem rs_take (n : Nat) (l : List UInt8) : (bsR l).take n = bsR (l.take n) := List.map_take.symm
theorem rs_drop (n : Nat) (l : List UInt8) : (bsR l).drop n = bsR (l.drop n) := List.map_drop.symm
theorem rs_len (l : List UInt8) : (bsR l).length = l.length := by simp
theorem ids_bsC (p : Nat → Bool) (l : List UInt8) : (bsC l).all (SC.ids p) = true := by simp [List.all_eq_true, byteC, SC.ids]
theorem ren_bsC (r : Nat → Nat) (l : List UInt8) : (bsC l).map (SC.ren r) = bsC l := by
  rw [List.map_map]; exact List.map_congr_left fun b _ => rfl
theorem noRo_bsC (l : List UInt8) : (bsC l).all SC.noRo = true := by simp [List.all_eq_true, byteC, SC.noRo]
theorem lt_bsC (n : Nat) (l : List UInt8) : (bsC l).all (SC.lt n) = true := by simp [List.all_eq_true, byteC, SC.lt]
theorem ids_byte (p : Nat → Bool) (b : UInt8) : (byteC b).ids p = true := rfl
theorem ren_byte (r : Nat → Nat) (b : UInt8) : (byteC b).ren r = byteC b := rfl
theorem noRo_byte (b : UInt8) : (byteC b).noRo = true := rfl
theorem plain_byte (b : UInt8) : (byteC b).plain = true := rfl
theorem lt_byte (n : Nat) (b : UInt8) : (byteC b).lt n = true := rfl
theorem plain_bsC (l : List UInt8) : (bsC l).all SC.plain = true := by simp [List.all_eq_true, byteC, SC.plain]
theorem bvn (n x : Nat) (h : x < 2 ^ n) : (BitVec.ofInt n (x : Int)).toNat = x := by
  rw [BitVec.ofInt_natCast, BitVec.toNat_ofNat, Nat.mod_eq_of_lt h]
theorem or_u64 {x y : Nat} (hx : x < 18446744073709551616) (hy : y < 18446744073709551616) : bitI .or .u64 (x : Int) (y : Int) = ((x ||| y : Nat) : Int) := by
  show IntKind.u64.wrap (((BitVec.ofInt 64 (x : Int) ||| BitVec.ofInt 64 (y : Int) : BitVec 64).toNat : Nat) : Int) = _
  rw [BitVec.toNat_or, bvn 64 x hx, bvn 64 y hy]
  have : x ||| y < 2 ^ 64 := Nat.or_lt_two_pow hx hy
  rw [wu64] <;> omega
theorem or_add {a b : Nat} (hb : b < 256) : a * 256 ||| b = a * 256 + b := by
  have := Nat.shiftLeft_add_eq_or_of_lt (i := 8) (b := b) (by omega) a
  rw [Nat.shiftLeft_eq] at this
  exact this.symm
/-- A number's next byte. -/
theorem or_next {a b : Nat} (ha : a < 72057594037927936) (hb : b < 256) : bitI .or .u64 (IntKind.u64.wrap ((a : Int) * 2 ^ min 8 64)) (IntKind.u64.wrap (b : Int)) = ((a * 256 + b : Nat) : Int) := by
  have e : (a : Int) * 2 ^ min 8 64 = ((a * 256 : Nat) : Int) := by push_cast; rfl
  rw [e, wu64 (by omega) (by omega), wu64 (by omega) (by omega), or_u64 (by omega) (by omega), or_add hb]
theorem xapp_grow {xn : XN} {need cap : Nat} {dst : Option Tmp} {k : List KI} {nm : NB} {tm : List (Nat × SV)} {room : SV × List SB} {grow : Nat → SV × List SB} {Q : XE → St → Prop} (h : cap < need)
    (hk : ∀ c, need ≤ c → c ≤ maxLen → xn k ⟨nm, put dst (grow c).1 tm, (grow c).2⟩ Q) : XApp xn need cap dst k nm tm room grow Q := ⟨fun h' => absurd h' (by omega), fun _ c h1 h2 => .inl (hk c h1 h2)⟩
theorem xapp_room {xn : XN} {need cap : Nat} {dst : Option Tmp} {k : List KI} {nm : NB} {tm : List (Nat × SV)} {room : SV × List SB} {grow : Nat → SV × List SB} {Q : XE → St → Prop} (h : need ≤ cap)
    (hk : xn k ⟨nm, put dst room.1 tm, room.2⟩ Q) : XApp xn need cap dst k nm tm room grow Q := ⟨fun _ => .inl hk, fun h' => absurd h (by omega)⟩
theorem byteC_nat (m : Nat) {x : Int} (h : x % 256 = ((m % 256 : Nat) : Int)) : SC.v (.int .u8 (IntKind.u8.wrap x)) = byteC (UInt8.ofNat m) := by
  simp only [byteC, wrap_u8, h]
  congr 2
theorem fdiv_nat (n k : Nat) : (n : Int).fdiv (k : Int) = ((n / k : Nat) : Int) := by
  rw [Int.fdiv_eq_ediv_of_nonneg _ (Int.natCast_nonneg k), Int.natCast_ediv]
theorem shr0 (n : Nat) : (n : Int).fdiv (2 ^ min 0 64) = ((n : Nat) : Int) := by have := fdiv_nat n 1; rwa [Nat.div_one] at this
theorem shr8 (n : Nat) : (n : Int).fdiv (2 ^ min 8 64) = ((n / 256 : Nat) : Int) := fdiv_nat n 256
theorem shr16 (n : Nat) : (n : Int).fdiv (2 ^ min 16 64) = ((n / 65536 : Nat) : Int) := fdiv_nat n 65536
theorem shr24 (n : Nat) : (n : Int).fdiv (2 ^ min 24 64) = ((n / 16777216 : Nat) : Int) := fdiv_nat n 16777216
theorem byteC_n (m : Nat) : SC.v (.int .u8 (IntKind.u8.wrap (m : Int))) = byteC (UInt8.ofNat m) := byteC_nat m (by omega)
theorem frL_bs {ok : Nat → Bool} {h : List SB} (b : List UInt8) : ∀ a : List UInt8, frL ok h (bsR a) (bsC (a ++ b))
  | [] => by simp only [bsR, List.map_nil, frL]
  | x :: a => ⟨rfl, frL_bs b a⟩
theorem fz_sl {r : Nat → Nat} {n : Nat} {h : List SB} {i o c : Nat} {l sp : List UInt8} {b : SB} (hb : h[i]? = some b) (hv : b.void = false) (hc : b.cells.drop o = bsC (l ++ sp)) : frC true (fun _ => true) r n h (.sl i o l.length c) (roB l sp c) :=
  .inr ⟨rfl, .inl ⟨_, _, _, rfl, .inr (.inr ⟨i, o, rfl, .inr ⟨rfl, b, hb, hv, by
    have := frL_bs (ok := fun _ => true) (h := h) [] (l ++ sp)
    rw [List.append_nil] at this
    rw [hc]; exact this⟩⟩)⟩⟩
/-- A call of a function that has no windows of its own: what is handed in is read alone. -/
theorem call_fz {P : Program} {xn : XN} {f : FuncId} {args : List SV} (args0 : List SV) {dst : Option Tmp} {k : List KI} {nm : NB} {tm : List (Nat × SV)} {hp : List SB} {Q : XE → St → Prop} {K : SV → List SB → Prop}
    (s : Spec P f args0 [] K) (hno : ∀ t h', K t h' → t.noRo = true ∧ (h'.all fun b => b.cells.all SC.noRo) = true) (ha : frA true (fun _ => true) (renF [] hp.length) 0 hp args args0)
    (hk : ∀ s0 h0', K s0 h0' → xn k ⟨nm, put dst (s0.ren (renF [] hp.length)) tm, hp ++ h0'.map (SB.ren (renF [] hp.length))⟩ Q) : CallGoal P xn f args dst k ⟨nm, tm, hp⟩ Q :=
  call_fr s true (fun _ => hno) [] ha rfl trivial rfl hk
end Go.Proofs.Ytgegddefcgfhgaa.Sx
namespace Go.Proofs.Ytgegddefcgfhgaa.Sx
open Go
set_option linter.unusedSimpArgs false
set_option linter.unusedVariables false
theorem gset (l : List SB) (i : Nat) (a : SB) : (l.set i a)[i]? = (l[i]?).map fun _ => a := by
  rw [List.getElem?_set]
  by_cases h : i < l.length
  · simp [h]
  · simp [h, List.getElem?_eq_none (Nat.le_of_not_lt h)]
theorem maskL_nil : ∀ (h : List SB) (k : Nat), maskL [] k h = h
  | [], _ => rfl
  | b :: h, k => by simp [maskL, maskL_nil h (k + 1)]
theorem unL_nil : ∀ (h0 h : List SB) (k : Nat), unL [] k h0 h = h := by
  intro h0 h k
  apply List.ext_getElem?
  intro i
  rw [unL_get]
  cases h[i]? with
  | none => rfl
  | some b =>
    simp only [Option.map_some]
    cases h0[i]? <;> simp
theorem maskL_at {L : List Nat} {h : List SB} {i : Nat} {b : SB} (hb : h[i]? = some b) : ∃ o, (maskL L 0 h)[i]? = some ⟨o, b.ty, b.cells⟩ := by
  rw [maskL_get, hb]
  simp only [Option.map_some, Nat.zero_add]
  cases L.contains i
  · exact ⟨b.own, rfl⟩
  · exact ⟨false, rfl⟩
theorem lt_of {h : List SB} {i : Nat} {b : SB} (hb : h[i]? = some b) : i < h.length := (List.getElem?_eq_some_iff.1 hb).1
theorem ne_of_ty {h : List SB} {i j : Nat} {a b : SB} (ha : h[i]? = some a) (hb : h[j]? = some b) (hne : a.ty ≠ b.ty) : i ≠ j := by
  rintro rfl
  rw [ha] at hb
  cases hb
  exact hne rfl
theorem kept_nil {h : List SB} : (([] : List Nat).all fun i => match h[i]? with
    | some b => !b.void
    | none => false) = true := rfl
theorem kept_cons {h : List SB} {i : Nat} {L : List Nat} {b : SB} (hb : h[i]? = some b) (hv : b.void = false) (hL : (L.all fun i => match h[i]? with
    | some b => !b.void
    | none => false) = true) : ((i :: L).all fun i => match h[i]? with
    | some b => !b.void
    | none => false) = true := by
  rw [List.all_cons, hL, hb, Bool.and_true]
  show (!b.void) = true
  rw [hv]; rfl
theorem rep_flat (n : Nat) (x : SC) : (List.replicate n [x]).flatten = List.replicate n x := by
  induction n with
  | zero => rfl
  | succ n ih => simp [List.replicate_succ, ih]
/-- Nil may stand for a list of nothing. -/
theorem wk_nil {π : List (Option Nat)} {i o : Nat} : leV π (.c (.v (.slice none 0 0))) (.c (.sl i o 0 0)) := .inr (.inr (.inr ⟨_, _, rfl, .inl rfl⟩))
theorem binS_ib {d : TD} {sz : List Bool} {fl : Bool} {op : BinOp} {k : IntKind} {a : Int} {b : Bool} : binS d sz fl op (.c (.v (.int k a))) (.c (.v (.bool b))) = .bad := by cases fl <;> rfl
theorem binS_bi {d : TD} {sz : List Bool} {fl : Bool} {op : BinOp} {k : IntKind} {a : Int} {b : Bool} : binS d sz fl op (.c (.v (.bool b))) (.c (.v (.int k a))) = .bad := by cases fl <;> rfl
end Go.Proofs.Ytgegddefcgfhgaa.Sx
namespace Go.Proofs.Ytgegddefcgfhgaa.Sx
open Go
set_option linter.unusedSimpArgs false
set_option linter.unusedVariables false
/-- Both ways of an append, at once. -/
theorem xapp_P {xn : XN} {need cap : Nat} {dst : Option Tmp} {k : List KI} {nm : NB} {tm : List (Nat × SV)} {room : SV × List SB} {grow : Nat → SV × List SB} {Q : XE → St → Prop} (P : SV → List SB → Prop)
    (h1 : need ≤ cap → P room.1 room.2) (h2 : cap < need → ∀ c, need ≤ c → c ≤ maxLen → P (grow c).1 (grow c).2) (hk : ∀ s h, P s h → xn k ⟨nm, put dst s tm, h⟩ Q) : XApp xn need cap dst k nm tm room grow Q :=
  ⟨fun h => .inl (hk _ _ (h1 h)), fun h c h3 h4 => .inl (hk _ _ (h2 h c h3 h4))⟩
/-- A loop; less may be known, or fewer temporaries. -/
theorem loop_any {cx : Cx} (hc : CxOk cx) {c : Code} {k : List KI} {σ : St} {Q : XE → St → Prop} (n : Nat) (I : Nat → St → Prop) (m : Nat) (σ0 : St) (h0 : I m σ0) (hw : Sub σ σ0 ∨ ∃ π, Wk π σ σ0)
    (round : ∀ m σ', I m σ' → X cx n (.code c :: .lp (fun σ'' => ∃ m', m' < m ∧ ∃ σ3, I m' σ3 ∧ (Sub σ'' σ3 ∨ ∃ π, Wk π σ'' σ3)) :: k) σ' Q) : LoopGoal cx.P c k σ Q :=
  loop_gen hc (fun σ τ => Sub σ τ ∨ ∃ π, Wk π σ τ) (fun _ _ _ _ _ h S => h.elim (fun h => S.sub h) fun ⟨_, h⟩ => S.wk h) n I m σ0 h0 hw round
/-- 'l' stands in a window, whole: 's' is it. -/
structure Buf (h : List SB) (w : Nat) (o : Bool) (l sp : List UInt8) : Prop where
  at_ : h[w]? = some (wB o (l ++ sp))
  own : 0 < l.length + sp.length → o = true
abbrev slB (w : Nat) (l sp : List UInt8) : SC := .sl w 0 l.length (l.length + sp.length)
/-- What an append to window 'w' of 'H' comes to. -/
def BufP (H : List SB) (w : Nat) (l : List UInt8) (s : SV) (H' : List SB) : Prop :=
  ∃ w' sp, s = .c (slB w' l sp) ∧ Buf H' w' true l sp ∧ H.length ≤ H'.length ∧ (∀ k, k < H.length → k ≠ w → H'[k]? = H[k]?) ∧ (w' = w ∨ H.length ≤ w')
theorem bufP_room {H t : List SB} {w n c : Nat} {o : Bool} {l l' sp' : List UInt8} {cells : List SC} (hw : H[w]? = some (wB o l)) (ho : o = true) (hcells : cells = bsC (l' ++ sp')) (hn : l'.length = n) (hc : c = n + sp'.length) :
    BufP H w l' (.c (.sl w 0 n c)) (H.set w ⟨o, 5, cells⟩ ++ t) := by
  subst ho; subst hcells; subst hn; subst hc
  have lw := lt_of hw
  refine ⟨w, sp', rfl, ⟨?_, fun _ => rfl⟩, by simp, fun k hk hne => ?_, .inl rfl⟩
  · rw [List.getElem?_append_left (by simpa using lw), gset, hw]; rfl
  · rw [List.getElem?_append_left (by simpa using hk), List.getElem?_set_ne (Ne.symm hne)]
theorem bufP_grow {H t : List SB} {w n c x : Nat} {l' sp' : List UInt8} {cells : List SC} (hcells : cells = bsC (l' ++ sp')) (hx : x = H.length + t.length) (hn : l'.length = n) (hc : c = n + sp'.length) :
    BufP H w l' (.c (.sl x 0 n c)) (H ++ (t ++ [⟨true, 5, cells⟩])) := by
  subst hcells; subst hx; subst hn; subst hc
  refine ⟨_, sp', rfl, ⟨?_, fun _ => rfl⟩, by simp, fun k hk hne => ?_, .inr (by omega)⟩
  · rw [List.getElem?_append_right (by omega), Nat.add_sub_cancel_left, List.getElem?_append_right (Nat.le_refl _), Nat.sub_self]; rfl
  · rw [List.getElem?_append_left hk]
theorem cellsB_app {l sp news : List UInt8} {n m : Nat} (hn : l.length = n) (hm : news.length = m) : (bsC (l ++ sp)).take n ++ (bsC news ++ (bsC (l ++ sp)).drop (n + m)) = bsC ((l ++ news) ++ sp.drop m) := by
  subst hn; subst hm
  rw [bs_take, List.take_left' rfl, bs_drop, List.drop_append, List.drop_of_length_le (by omega), List.nil_append, Nat.add_sub_cancel_left, bs_app, bs_app, List.append_assoc]
theorem cellsB_new {l sp news : List UInt8} {n c : Nat} (hn : l.length = n) : (bsC (l ++ sp)).take n ++ (bsC news ++ List.replicate c (SC.v (.int .u8 0))) = bsC ((l ++ news) ++ List.replicate c 0) := by
  subst hn
  rw [bs_take, List.take_left' rfl, bsC_zeros, bs_app, bs_app, List.append_assoc]
/-- Bytes behind a list, either way. -/
theorem xapp_more {xn : XN} {dst : Option Tmp} {k : List KI} {nm : NB} {tm : List (Nat × SV)} {Q : XE → St → Prop} {H : List SB} {w n m c : Nat} {o : Bool} {l sp news : List UInt8} {t : List SB} {g : Nat} (B : Buf H w o l sp) (hn : l.length = n) (hm : news.length = m) (hc : c = n + sp.length) (hg : g = H.length + t.length) (hp : 0 < n + m)
    (hk : ∀ H' w' sp', Buf H' w' true (l ++ news) sp' → H.length ≤ H'.length → (∀ k, k < H.length → k ≠ w → H'[k]? = H[k]?) → (w' = w ∨ H.length ≤ w') → xn k ⟨nm, put dst (.c (slB w' (l ++ news) sp')) tm, H'⟩ Q) :
    XApp xn (n + m) c dst k nm tm (.c (.sl w 0 (n + m) c), H.set w ⟨o, 5, (bsC (l ++ sp)).take n ++ (bsC news ++ (bsC (l ++ sp)).drop (n + m))⟩ ++ t)
      (fun c' => (.c (.sl g 0 (n + m) c'), H ++ (t ++ [⟨true, 5, (bsC (l ++ sp)).take n ++ (bsC news ++ List.replicate (c' - (n + m)) (SC.v (.int .u8 0)))⟩]))) Q := by
  refine xapp_P (BufP H w (l ++ news)) (fun h => ?_) (fun h c' h1 h2 => ?_) ?_
  · exact bufP_room B.at_ (B.own (by omega)) (cellsB_app hn hm) (by simp [hn, hm]) (by simp; omega)
  · exact bufP_grow (cellsB_new hn) hg (by simp [hn, hm]) (by simp; omega)
  · rintro s H' ⟨w', sp', rfl, b, h1, h2, h3⟩
    exact hk H' w' sp' b h1 h2 h3
theorem xapp_more0 {xn : XN} {dst : Option Tmp} {k : List KI} {nm : NB} {tm : List (Nat × SV)} {Q : XE → St → Prop} {H : List SB} {w n m c : Nat} {o : Bool} {l sp news : List UInt8} {g : Nat} (B : Buf H w o l sp) (hn : l.length = n) (hm : news.length = m) (hc : c = n + sp.length) (hg : g = H.length) (hp : 0 < n + m)
    (hk : ∀ H' w' sp', Buf H' w' true (l ++ news) sp' → H.length ≤ H'.length → (∀ k, k < H.length → k ≠ w → H'[k]? = H[k]?) → (w' = w ∨ H.length ≤ w') → xn k ⟨nm, put dst (.c (slB w' (l ++ news) sp')) tm, H'⟩ Q) :
    XApp xn (n + m) c dst k nm tm (.c (.sl w 0 (n + m) c), H.set w ⟨o, 5, (bsC (l ++ sp)).take n ++ (bsC news ++ (bsC (l ++ sp)).drop (n + m))⟩)
      (fun c' => (.c (.sl g 0 (n + m) c'), H ++ [⟨true, 5, (bsC (l ++ sp)).take n ++ (bsC news ++ List.replicate (c' - (n + m)) (SC.v (.int .u8 0)))⟩])) Q := by
  have := xapp_more (t := []) (xn := xn) (dst := dst) (k := k) (nm := nm) (tm := tm) (Q := Q) (g := g) B hn hm hc hg hp hk
  simpa only [List.append_nil, List.nil_append] using this
theorem Buf.mono {h h' : List SB} {w : Nat} {o : Bool} {l sp : List UInt8} (B : Buf h w o l sp) (h1 : h'[w]? = h[w]?) : Buf h' w o l sp := ⟨h1.trans B.at_, B.own⟩
theorem Buf.app {h t : List SB} {w : Nat} {o : Bool} {l sp : List UInt8} (B : Buf h w o l sp) : Buf (h ++ t) w o l sp := B.mono (List.getElem?_append_left (lt_of B.at_))
/-- A call by a contract over all windows. -/
theorem call_is {P : Program} {xn : XN} {f : FuncId} {args : List SV} {dst : Option Tmp} {k : List KI} {nm : NB} {tm : List (Nat × SV)} {hp : List SB} {Q : XE → St → Prop} {K : SV → List SB → Prop}
    (s : Spec P f args hp K) (hk : ∀ s h', K s h' → xn k ⟨nm, put dst s tm, h'⟩ Q) : CallGoal P xn f args dst k ⟨nm, tm, hp⟩ Q := .inl ⟨K, s, fun s h' h => .inl (hk s h' h)⟩
/-- What a function gives: bytes and an error's number. -/
def resB (l : List UInt8) (e : Int) (s : SV) (h' : List SB) : Prop := ∃ sp o, s = .tup [(false, [slB 0 l sp]), (false, [i64 e])] ∧ h' = [wB o (l ++ sp)] ∧ (0 < l.length + sp.length → o = true)
theorem resB_of {P : Program} {f : FuncId} {args : List SV} {l : List UInt8} {e : Int} (s : Spec P f args [] fun s h' => ∃ w sp o, s = .tup [(false, [slB w l sp]), (false, [i64 e])] ∧ Buf h' w o l sp) : Spec P f args [] (resB l e) :=
  s.wk fun t h' ⟨w, sp, o, h1, b⟩ => ⟨.tup [(false, [slB 0 l sp]), (false, [i64 e])], [wB o (l ++ sp)], [some w], rfl, by simp only [XX, Nat.reduceBEq, Nat.reduceLT, Nat.reduceAdd, Nat.reduceMul, Nat.reduceSub, Nat.reduceLeDiff, Nat.reduceEqDiff, Int.reduceToNat, Int.reduceLT, Int.reduceLE, Int.reduceAdd, Int.reduceSub, Int.reduceEq, reduceIte, Nat.reduceBNe, Int.reducePow, Nat.reducePow, Int.reduceMul, Int.reduceNeg, isB_i, isB_b, isB_y, isBv_i, isBv_b, eqCells_t, TT, ids_bsC, ren_bsC, noRo_bsC, plain_bsC, lt_bsC, ids_byte, ren_byte, noRo_byte, plain_byte, lt_byte, b.at_], by subst h1; simp only [XX, Nat.reduceBEq, Nat.reduceLT, Nat.reduceAdd, Nat.reduceMul, Nat.reduceSub, Nat.reduceLeDiff, Nat.reduceEqDiff, Int.reduceToNat, Int.reduceLT, Int.reduceLE, Int.reduceAdd, Int.reduceSub, Int.reduceEq, reduceIte, Nat.reduceBNe, Int.reducePow, Nat.reducePow, Int.reduceMul, Int.reduceNeg, isB_i, isB_b, isB_y, isBv_i, isBv_b, eqCells_t, TT, ids_bsC, ren_bsC, noRo_bsC, plain_bsC, lt_bsC, ids_byte, ren_byte, noRo_byte, plain_byte, lt_byte], sp, o, rfl, rfl, b.own⟩
theorem resB_nil {P : Program} {f : FuncId} {args : List SV} {e : Int} (s : Spec P f args [] fun s _ => s.plain = true ∧ s = .tup [(false, [.v (.slice none 0 0)]), (false, [i64 e])]) : Spec P f args [] (resB [] e) :=
  s.wk fun t h' ⟨_, h1⟩ => ⟨.tup [(false, [slB 0 [] []]), (false, [i64 e])], [wB false ([] ++ [])], [none], rfl, by simp only [XX, Nat.reduceBEq, Nat.reduceLT, Nat.reduceAdd, Nat.reduceMul, Nat.reduceSub, Nat.reduceLeDiff, Nat.reduceEqDiff, Int.reduceToNat, Int.reduceLT, Int.reduceLE, Int.reduceAdd, Int.reduceSub, Int.reduceEq, reduceIte, Nat.reduceBNe, Int.reducePow, Nat.reducePow, Int.reduceMul, Int.reduceNeg, isB_i, isB_b, isB_y, isBv_i, isBv_b, eqCells_t, TT, List.map_nil], by subst h1; exact .inr ⟨rfl, ⟨.inr (.inr ⟨_, _, rfl, .inl rfl⟩), trivial⟩, rfl, ⟨.inl ⟨rfl, rfl⟩, trivial⟩, trivial⟩, [], false, rfl, rfl, fun h => absurd h (by simp)⟩
end Go.Proofs.Ytgegddefcgfhgaa.Sx
namespace Go.Proofs.Ytgegddefcgfhgaa.Sx
open Go
set_option linter.unusedSimpArgs false
set_option linter.unusedVariables false
/-- Bytes that came out, in memory of their own. -/
def resS (l : List UInt8) (s : SV) (h' : List SB) : Prop := ∃ sp o, s = .c (slB 0 l sp) ∧ h' = [wB o (l ++ sp)] ∧ (0 < l.length + sp.length → o = true)
theorem resS_noRo {l : List UInt8} {t : SV} {h' : List SB} (h : resS l t h') : t.noRo = true ∧ (h'.all fun b => b.cells.all SC.noRo) = true := by
  obtain ⟨sp, o, rfl, rfl, _⟩ := h
  exact ⟨rfl, by simp only [XX, Nat.reduceBEq, Nat.reduceLT, Nat.reduceAdd, Nat.reduceMul, Nat.reduceSub, Nat.reduceLeDiff, Nat.reduceEqDiff, Int.reduceToNat, Int.reduceLT, Int.reduceLE, Int.reduceAdd, Int.reduceSub, Int.reduceEq, reduceIte, Nat.reduceBNe, Int.reducePow, Nat.reducePow, Int.reduceMul, Int.reduceNeg, isB_i, isB_b, isB_y, isBv_i, isBv_b, eqCells_t, TT, ids_bsC, ren_bsC, noRo_bsC, plain_bsC, lt_bsC, ids_byte, ren_byte, noRo_byte, plain_byte, lt_byte]⟩
theorem resS_of {P : Program} {f : FuncId} {args : List SV} {l : List UInt8} (s : Spec P f args [] fun s h' => ∃ w sp o, s = .c (slB w l sp) ∧ Buf h' w o l sp) : Spec P f args [] (resS l) :=
  s.wk fun t h' ⟨w, sp, o, h1, b⟩ => ⟨.c (slB 0 l sp), [wB o (l ++ sp)], [some w], rfl, by simp only [XX, Nat.reduceBEq, Nat.reduceLT, Nat.reduceAdd, Nat.reduceMul, Nat.reduceSub, Nat.reduceLeDiff, Nat.reduceEqDiff, Int.reduceToNat, Int.reduceLT, Int.reduceLE, Int.reduceAdd, Int.reduceSub, Int.reduceEq, reduceIte, Nat.reduceBNe, Int.reducePow, Nat.reducePow, Int.reduceMul, Int.reduceNeg, isB_i, isB_b, isB_y, isBv_i, isBv_b, eqCells_t, TT, ids_bsC, ren_bsC, noRo_bsC, plain_bsC, lt_bsC, ids_byte, ren_byte, noRo_byte, plain_byte, lt_byte, b.at_], by subst h1; simp only [XX, Nat.reduceBEq, Nat.reduceLT, Nat.reduceAdd, Nat.reduceMul, Nat.reduceSub, Nat.reduceLeDiff, Nat.reduceEqDiff, Int.reduceToNat, Int.reduceLT, Int.reduceLE, Int.reduceAdd, Int.reduceSub, Int.reduceEq, reduceIte, Nat.reduceBNe, Int.reducePow, Nat.reducePow, Int.reduceMul, Int.reduceNeg, isB_i, isB_b, isB_y, isBv_i, isBv_b, eqCells_t, TT, ids_bsC, ren_bsC, noRo_bsC, plain_bsC, lt_bsC, ids_byte, ren_byte, noRo_byte, plain_byte, lt_byte], sp, o, rfl, rfl, b.own⟩
theorem resS_nil {P : Program} {f : FuncId} {args : List SV} (s : Spec P f args [] fun s _ => s = .c (.v (.slice none 0 0))) : Spec P f args [] (resS []) :=
  s.wk fun t h' h1 => ⟨.c (slB 0 [] []), [wB false ([] ++ [])], [none], rfl, by simp only [XX, Nat.reduceBEq, Nat.reduceLT, Nat.reduceAdd, Nat.reduceMul, Nat.reduceSub, Nat.reduceLeDiff, Nat.reduceEqDiff, Int.reduceToNat, Int.reduceLT, Int.reduceLE, Int.reduceAdd, Int.reduceSub, Int.reduceEq, reduceIte, Nat.reduceBNe, Int.reducePow, Nat.reducePow, Int.reduceMul, Int.reduceNeg, isB_i, isB_b, isB_y, isBv_i, isBv_b, eqCells_t, TT, List.map_nil], by subst h1; exact wk_nil, [], false, rfl, rfl, fun h => absurd h (by simp)⟩
end Go.Proofs.Ytgegddefcgfhgaa.Sx
namespace Go.Proofs.Ytgegddefcgfhgaa.Sx
open Go
set_option linter.unusedSimpArgs false
set_option linter.unusedVariables false
set_option maxRecDepth 10000
set_option maxHeartbeats 2000000
/-- The mark of a place. -/
def mkB (i n : Nat) : UInt8 := UInt8.ofNat (i * 7 + n * 13 + i / 256 + 1)
/-- The marks of a list. -/
def mk (j m : Nat) : List UInt8 := (List.range m).map fun p => mkB j p
end Go.Proofs.Ytgegddefcgfhgaa.Sx
namespace Go.Proofs.Ytgegddefcgfhgaa.Sx
open Go
set_option linter.unusedSimpArgs false
set_option linter.unusedVariables false
set_option maxRecDepth 10000
set_option maxHeartbeats 1000000
/-- Two bytes of a number. -/
abbrev be2 (n : Nat) : List UInt8 := [UInt8.ofNat (n / 256), UInt8.ofNat n]
theorem put2_spec (n : Nat) (hn : n < 18446744073709551616) : Spec cx.P 40 [.c (u64 n), .c (i64 2)] [] fun s h' => s = .c (.sl 0 0 2 2) ∧ h' = [wB true (be2 n)] := by
  have key : Spec cx.P 40 [.c (u64 n), .c (i64 2)] [] fun s h' => s = .c (.sl 0 0 2 2) ∧ ∃ a b, h' = [wB true (be2 n), a, b] := by
    refine spec_of_X cx_ok Try.func40 rfl (by kernel_rfl) (by kernel_rfl) (Nat.le_of_ble_eq_true rfl) 400 7 ?_
    simp (maxSteps := 4000000) only [Try.results40, XX, Nat.reduceBEq, Nat.reduceLT, Nat.reduceAdd, Nat.reduceMul, Nat.reduceSub, Nat.reduceLeDiff, Nat.reduceEqDiff, Int.reduceToNat, Int.reduceLT, Int.reduceLE, Int.reduceAdd, Int.reduceSub, Int.reduceEq, reduceIte, Nat.reduceBNe, Int.reducePow, Nat.reducePow, Int.reduceMul, Int.reduceNeg, isB_i, isB_b, isB_y, isBv_i, isBv_b, eqCells_t, TT]
    refine loop_rounds cx_ok 400 3 ?_
    simp (maxSteps := 4000000) only [Try.results40, w64, List.replicate_succ, List.replicate_zero, List.flatten_cons, List.flatten_nil, Int.reduceDiv, Int.reduceMod, Int.reduceToNat, XX, Nat.reduceBEq, Nat.reduceLT, Nat.reduceAdd, Nat.reduceMul, Nat.reduceSub, Nat.reduceLeDiff, Nat.reduceEqDiff, Int.reduceToNat, Int.reduceLT, Int.reduceLE, Int.reduceAdd, Int.reduceSub, Int.reduceEq, reduceIte, Nat.reduceBNe, Int.reducePow, Nat.reducePow, Int.reduceMul, Int.reduceNeg, isB_i, isB_b, isB_y, isBv_i, isBv_b, eqCells_t, TT]
    refine ⟨by unfold maxLen; omega, xapp_room (by omega) ?_⟩
    simp (maxSteps := 4000000) only [Try.results40, w64, shr0, shr8, byteC_n, List.replicate_succ, List.replicate_zero, List.flatten_cons, List.flatten_nil, Int.reduceDiv, Int.reduceMod, Int.reduceToNat, XX, Nat.reduceBEq, Nat.reduceLT, Nat.reduceAdd, Nat.reduceMul, Nat.reduceSub, Nat.reduceLeDiff, Nat.reduceEqDiff, Int.reduceToNat, Int.reduceLT, Int.reduceLE, Int.reduceAdd, Int.reduceSub, Int.reduceEq, reduceIte, Nat.reduceBNe, Int.reducePow, Nat.reducePow, Int.reduceMul, Int.reduceNeg, isB_i, isB_b, isB_y, isBv_i, isBv_b, eqCells_t, TT]
    refine ⟨by unfold maxLen; omega, xapp_room (by omega) ?_⟩
    simp (maxSteps := 4000000) only [Try.results40, w64, List.replicate_succ, XX, Nat.reduceBEq, Nat.reduceLT, Nat.reduceAdd, Nat.reduceMul, Nat.reduceSub, Nat.reduceLeDiff, Nat.reduceEqDiff, Int.reduceToNat, Int.reduceLT, Int.reduceLE, Int.reduceAdd, Int.reduceSub, Int.reduceEq, reduceIte, Nat.reduceBNe, Int.reducePow, Nat.reducePow, Int.reduceMul, Int.reduceNeg, isB_i, isB_b, isB_y, isBv_i, isBv_b, eqCells_t, TT]
    exact ⟨_, _, rfl⟩
  exact key.wk fun t h' ⟨h1, a, b, h2⟩ => ⟨t, [wB true (be2 n)], [some 0], rfl, by subst h2; simp only [XX, Nat.reduceBEq, Nat.reduceLT, Nat.reduceAdd, Nat.reduceMul, Nat.reduceSub, Nat.reduceLeDiff, Nat.reduceEqDiff, Int.reduceToNat, Int.reduceLT, Int.reduceLE, Int.reduceAdd, Int.reduceSub, Int.reduceEq, reduceIte, Nat.reduceBNe, Int.reducePow, Nat.reducePow, Int.reduceMul, Int.reduceNeg, isB_i, isB_b, isB_y, isBv_i, isBv_b, eqCells_t, TT, ids_bsC, ren_bsC, noRo_bsC, plain_bsC, lt_bsC, ids_byte, ren_byte, noRo_byte, plain_byte, lt_byte], by subst h1; simp only [XX, Nat.reduceBEq, Nat.reduceLT, Nat.reduceAdd, Nat.reduceMul, Nat.reduceSub, Nat.reduceLeDiff, Nat.reduceEqDiff, Int.reduceToNat, Int.reduceLT, Int.reduceLE, Int.reduceAdd, Int.reduceSub, Int.reduceEq, reduceIte, Nat.reduceBNe, Int.reducePow, Nat.reducePow, Int.reduceMul, Int.reduceNeg, isB_i, isB_b, isB_y, isBv_i, isBv_b, eqCells_t, TT, ids_bsC, ren_bsC, noRo_bsC, plain_bsC, lt_bsC, ids_byte, ren_byte, noRo_byte, plain_byte, lt_byte], h1, rfl⟩
/-- Four bytes of a number. -/
abbrev be4 (n : Nat) : List UInt8 := [UInt8.ofNat (n / 16777216), UInt8.ofNat (n / 65536), UInt8.ofNat (n / 256), UInt8.ofNat n]
theorem put4_spec (n : Nat) (hn : n < 18446744073709551616) : Spec cx.P 40 [.c (u64 n), .c (i64 4)] [] fun s h' => s = .c (.sl 0 0 4 4) ∧ h' = [wB true (be4 n)] := by
  have key : Spec cx.P 40 [.c (u64 n), .c (i64 4)] [] fun s h' => s = .c (.sl 0 0 4 4) ∧ ∃ a b c d, h' = [wB true (be4 n), a, b, c, d] := by
    refine spec_of_X cx_ok Try.func40 rfl (by kernel_rfl) (by kernel_rfl) (Nat.le_of_ble_eq_true rfl) 400 7 ?_
    simp (maxSteps := 4000000) only [Try.results40, XX, Nat.reduceBEq, Nat.reduceLT, Nat.reduceAdd, Nat.reduceMul, Nat.reduceSub, Nat.reduceLeDiff, Nat.reduceEqDiff, Int.reduceToNat, Int.reduceLT, Int.reduceLE, Int.reduceAdd, Int.reduceSub, Int.reduceEq, reduceIte, Nat.reduceBNe, Int.reducePow, Nat.reducePow, Int.reduceMul, Int.reduceNeg, isB_i, isB_b, isB_y, isBv_i, isBv_b, eqCells_t, TT]
    refine loop_rounds cx_ok 400 5 ?_
    simp (maxSteps := 4000000) only [Try.results40, w64, shr24, byteC_n, List.replicate_succ, List.replicate_zero, List.flatten_cons, List.flatten_nil, Int.reduceDiv, Int.reduceMod, Int.reduceToNat, XX, Nat.reduceBEq, Nat.reduceLT, Nat.reduceAdd, Nat.reduceMul, Nat.reduceSub, Nat.reduceLeDiff, Nat.reduceEqDiff, Int.reduceToNat, Int.reduceLT, Int.reduceLE, Int.reduceAdd, Int.reduceSub, Int.reduceEq, reduceIte, Nat.reduceBNe, Int.reducePow, Nat.reducePow, Int.reduceMul, Int.reduceNeg, isB_i, isB_b, isB_y, isBv_i, isBv_b, eqCells_t, TT]
    refine ⟨by unfold maxLen; omega, xapp_room (by omega) ?_⟩
    simp (maxSteps := 4000000) only [Try.results40, w64, shr24, shr16, byteC_n, List.replicate_succ, List.replicate_zero, List.flatten_cons, List.flatten_nil, Int.reduceDiv, Int.reduceMod, Int.reduceToNat, XX, Nat.reduceBEq, Nat.reduceLT, Nat.reduceAdd, Nat.reduceMul, Nat.reduceSub, Nat.reduceLeDiff, Nat.reduceEqDiff, Int.reduceToNat, Int.reduceLT, Int.reduceLE, Int.reduceAdd, Int.reduceSub, Int.reduceEq, reduceIte, Nat.reduceBNe, Int.reducePow, Nat.reducePow, Int.reduceMul, Int.reduceNeg, isB_i, isB_b, isB_y, isBv_i, isBv_b, eqCells_t, TT]
    refine ⟨by unfold maxLen; omega, xapp_room (by omega) ?_⟩
    simp (maxSteps := 4000000) only [Try.results40, w64, shr16, shr8, byteC_n, List.replicate_succ, List.replicate_zero, List.flatten_cons, List.flatten_nil, Int.reduceDiv, Int.reduceMod, Int.reduceToNat, XX, Nat.reduceBEq, Nat.reduceLT, Nat.reduceAdd, Nat.reduceMul, Nat.reduceSub, Nat.reduceLeDiff, Nat.reduceEqDiff, Int.reduceToNat, Int.reduceLT, Int.reduceLE, Int.reduceAdd, Int.reduceSub, Int.reduceEq, reduceIte, Nat.reduceBNe, Int.reducePow, Nat.reducePow, Int.reduceMul, Int.reduceNeg, isB_i, isB_b, isB_y, isBv_i, isBv_b, eqCells_t, TT]
    refine ⟨by unfold maxLen; omega, xapp_room (by omega) ?_⟩
    simp (maxSteps := 4000000) only [Try.results40, w64, shr0, shr8, byteC_n, List.replicate_succ, List.replicate_zero, List.flatten_cons, List.flatten_nil, Int.reduceDiv, Int.reduceMod, Int.reduceToNat, XX, Nat.reduceBEq, Nat.reduceLT, Nat.reduceAdd, Nat.reduceMul, Nat.reduceSub, Nat.reduceLeDiff, Nat.reduceEqDiff, Int.reduceToNat, Int.reduceLT, Int.reduceLE, Int.reduceAdd, Int.reduceSub, Int.reduceEq, reduceIte, Nat.reduceBNe, Int.reducePow, Nat.reducePow, Int.reduceMul, Int.reduceNeg, isB_i, isB_b, isB_y, isBv_i, isBv_b, eqCells_t, TT]
    refine ⟨by unfold maxLen; omega, xapp_room (by omega) ?_⟩
    simp (maxSteps := 4000000) only [Try.results40, w64, List.replicate_succ, XX, Nat.reduceBEq, Nat.reduceLT, Nat.reduceAdd, Nat.reduceMul, Nat.reduceSub, Nat.reduceLeDiff, Nat.reduceEqDiff, Int.reduceToNat, Int.reduceLT, Int.reduceLE, Int.reduceAdd, Int.reduceSub, Int.reduceEq, reduceIte, Nat.reduceBNe, Int.reducePow, Nat.reducePow, Int.reduceMul, Int.reduceNeg, isB_i, isB_b, isB_y, isBv_i, isBv_b, eqCells_t, TT]
    exact ⟨_, _, _, _, rfl⟩
  exact key.wk fun t h' ⟨h1, a, b, c, d, h2⟩ => ⟨t, [wB true (be4 n)], [some 0], rfl, by subst h2; simp only [XX, Nat.reduceBEq, Nat.reduceLT, Nat.reduceAdd, Nat.reduceMul, Nat.reduceSub, Nat.reduceLeDiff, Nat.reduceEqDiff, Int.reduceToNat, Int.reduceLT, Int.reduceLE, Int.reduceAdd, Int.reduceSub, Int.reduceEq, reduceIte, Nat.reduceBNe, Int.reducePow, Nat.reducePow, Int.reduceMul, Int.reduceNeg, isB_i, isB_b, isB_y, isBv_i, isBv_b, eqCells_t, TT, ids_bsC, ren_bsC, noRo_bsC, plain_bsC, lt_bsC, ids_byte, ren_byte, noRo_byte, plain_byte, lt_byte], by subst h1; simp only [XX, Nat.reduceBEq, Nat.reduceLT, Nat.reduceAdd, Nat.reduceMul, Nat.reduceSub, Nat.reduceLeDiff, Nat.reduceEqDiff, Int.reduceToNat, Int.reduceLT, Int.reduceLE, Int.reduceAdd, Int.reduceSub, Int.reduceEq, reduceIte, Nat.reduceBNe, Int.reducePow, Nat.reducePow, Int.reduceMul, Int.reduceNeg, isB_i, isB_b, isB_y, isBv_i, isBv_b, eqCells_t, TT, ids_bsC, ren_bsC, noRo_bsC, plain_bsC, lt_bsC, ids_byte, ren_byte, noRo_byte, plain_byte, lt_byte], h1, rfl⟩
end Go.Proofs.Ytgegddefcgfhgaa.Sx
namespace Go.Proofs.Ytgegddefcgfhgaa.Sx
open Go
set_option linter.unusedSimpArgs false
set_option linter.unusedVariables false
set_option maxRecDepth 10000
set_option maxHeartbeats 1000000
theorem drop2 {l sp : List UInt8} {k : Nat} (h : k + 2 ≤ l.length) : ∃ R, (bsR (l ++ sp)).drop k = .v (.int .u8 (l.getD k 0).toNat) :: .v (.int .u8 (l.getD (k + 1) 0).toNat) :: R := by
  refine ⟨(bsR (l ++ sp)).drop (k + 2), ?_⟩
  rw [List.drop_eq_getElem_cons (by simp; omega), List.drop_eq_getElem_cons (by simp; omega)]
  simp only [List.getElem_map, byteR]
  rw [List.getElem_append_left (by omega), List.getElem_append_left (by omega), List.getD_eq_getElem?_getD, List.getD_eq_getElem?_getD, List.getElem?_eq_getElem (by omega), List.getElem?_eq_getElem (by omega)]
  rfl
theorem get2_spec (l sp : List UInt8) (c at' : Nat) (hb : at' + 2 ≤ l.length) (hc : l.length ≤ c) (hl : l.length ≤ 140737488355328) : Spec cx.P 33 [.c (roB l sp c), .c (i64 at'), .c (i64 2)] [] fun s h' => s = .tup [(false, [u64 ((l.getD at' 0).toNat * 256 + (l.getD (at' + 1) 0).toNat : Nat)]), (false, [.v (.int .i64 0)])] ∧ h' = [] := by
  have d0 : decide ((at' : Int) < 0) = false := by simp only [decide_eq_false_iff_not]; omega
  have d1 : decide (((l.length : Nat) : Int) < (at' : Int)) = false := by simp only [decide_eq_false_iff_not]; omega
  have d2 : decide ((((l.length - at' : Nat)) : Int) < 2) = false := by simp only [decide_eq_false_iff_not]; omega
  have e1 : IntKind.i64.wrap ((l.length : Int) - (at' : Int)) = ((l.length - at' : Nat) : Int) := by rw [w64] <;> omega
  have e2 : IntKind.i64.wrap ((at' : Int) + 2) = ((at' + 2 : Nat) : Int) := by rw [w64] <;> omega
  have e3 : at' + 2 - at' = 2 := by omega
  refine spec_of_X cx_ok Try.func33 rfl (by kernel_rfl) (by kernel_rfl) (Nat.le_of_ble_eq_true rfl) 400 43 ?_
  simp (maxSteps := 4000000) only [Try.results33, XX, Nat.reduceBEq, Nat.reduceLT, Nat.reduceAdd, Nat.reduceMul, Nat.reduceSub, Nat.reduceLeDiff, Nat.reduceEqDiff, Int.reduceToNat, Int.reduceLT, Int.reduceLE, Int.reduceAdd, Int.reduceSub, Int.reduceEq, reduceIte, Nat.reduceBNe, Int.reducePow, Nat.reducePow, Int.reduceMul, Int.reduceNeg, isB_i, isB_b, isB_y, isBv_i, isBv_b, eqCells_t, TT]
  simp (maxSteps := 4000000) only [Try.results33, d0, d1, d2, e1, e2, e3, XX, Nat.reduceBEq, Nat.reduceLT, Nat.reduceAdd, Nat.reduceMul, Nat.reduceSub, Nat.reduceLeDiff, Nat.reduceEqDiff, Int.reduceToNat, Int.reduceLT, Int.reduceLE, Int.reduceAdd, Int.reduceSub, Int.reduceEq, reduceIte, Nat.reduceBNe, Int.reducePow, Nat.reducePow, Int.reduceMul, Int.reduceNeg, isB_i, isB_b, isB_y, isBv_i, isBv_b, eqCells_t, TT]
  refine ⟨by omega, loop_rounds cx_ok 400 3 ?_⟩
  obtain ⟨R, hR⟩ := drop2 (sp := sp) hb
  simp (maxSteps := 4000000) only [Try.results33, w64, Int.reduceToNat, hR, XX, Nat.reduceBEq, Nat.reduceLT, Nat.reduceAdd, Nat.reduceMul, Nat.reduceSub, Nat.reduceLeDiff, Nat.reduceEqDiff, Int.reduceToNat, Int.reduceLT, Int.reduceLE, Int.reduceAdd, Int.reduceSub, Int.reduceEq, reduceIte, Nat.reduceBNe, Int.reducePow, Nat.reducePow, Int.reduceMul, Int.reduceNeg, isB_i, isB_b, isB_y, isBv_i, isBv_b, eqCells_t, TT]
  have q0 := (l.getD at' 0).toNat_lt
  have q1 := (l.getD (at' + 1) 0).toNat_lt
  have z := or_next (a := 0) (b := (l.getD at' 0).toNat) (by omega) (by omega)
  rw [Int.natCast_zero] at z
  rw [z, or_next (by omega) (by omega)]
  exact ⟨by omega, by omega, by rw [Nat.zero_mul, Nat.zero_add]⟩
theorem drop1 {l sp : List UInt8} {k : Nat} (h : k + 1 ≤ l.length) : ∃ R, (bsR (l ++ sp)).drop k = .v (.int .u8 (l.getD k 0).toNat) :: R := by
  refine ⟨(bsR (l ++ sp)).drop (k + 1), ?_⟩
  rw [List.drop_eq_getElem_cons (by simp; omega)]
  simp only [List.getElem_map, byteR]
  rw [List.getElem_append_left (by omega), List.getD_eq_getElem?_getD, List.getElem?_eq_getElem (by omega)]
  rfl
theorem drop4 {l sp : List UInt8} {k : Nat} (h : k + 4 ≤ l.length) : ∃ R, (bsR (l ++ sp)).drop k = .v (.int .u8 (l.getD k 0).toNat) :: .v (.int .u8 (l.getD (k + 1) 0).toNat) :: .v (.int .u8 (l.getD (k + 2) 0).toNat) :: .v (.int .u8 (l.getD (k + 3) 0).toNat) :: R := by
  obtain ⟨R1, h1⟩ := drop2 (sp := sp) (k := k) (l := l) (by omega)
  obtain ⟨R2, h2⟩ := drop2 (sp := sp) (k := k + 2) (l := l) (by omega)
  refine ⟨R2, ?_⟩
  have e : (bsR (l ++ sp)).drop (k + 2) = R1 := by
    rw [← List.drop_drop, h1]; rfl
  rw [h1, ← e, h2]
abbrev get4 (l : List UInt8) (k : Nat) : Nat := (((l.getD k 0).toNat * 256 + (l.getD (k + 1) 0).toNat) * 256 + (l.getD (k + 2) 0).toNat) * 256 + (l.getD (k + 3) 0).toNat
theorem get4_spec (l sp : List UInt8) (c at' : Nat) (hb : at' + 4 ≤ l.length) (hc : l.length ≤ c) (hl : l.length ≤ 140737488355328) : Spec cx.P 33 [.c (roB l sp c), .c (i64 at'), .c (i64 4)] [] fun s h' => s = .tup [(false, [u64 (get4 l at' : Nat)]), (false, [.v (.int .i64 0)])] ∧ h' = [] := by
  have d0 : decide ((at' : Int) < 0) = false := by simp only [decide_eq_false_iff_not]; omega
  have d1 : decide (((l.length : Nat) : Int) < (at' : Int)) = false := by simp only [decide_eq_false_iff_not]; omega
  have d2 : decide ((((l.length - at' : Nat)) : Int) < 4) = false := by simp only [decide_eq_false_iff_not]; omega
  have e1 : IntKind.i64.wrap ((l.length : Int) - (at' : Int)) = ((l.length - at' : Nat) : Int) := by rw [w64] <;> omega
  have e2 : IntKind.i64.wrap ((at' : Int) + 4) = ((at' + 4 : Nat) : Int) := by rw [w64] <;> omega
  have e3 : at' + 4 - at' = 4 := by omega
  refine spec_of_X cx_ok Try.func33 rfl (by kernel_rfl) (by kernel_rfl) (Nat.le_of_ble_eq_true rfl) 400 43 ?_
  simp (maxSteps := 4000000) only [Try.results33, XX, Nat.reduceBEq, Nat.reduceLT, Nat.reduceAdd, Nat.reduceMul, Nat.reduceSub, Nat.reduceLeDiff, Nat.reduceEqDiff, Int.reduceToNat, Int.reduceLT, Int.reduceLE, Int.reduceAdd, Int.reduceSub, Int.reduceEq, reduceIte, Nat.reduceBNe, Int.reducePow, Nat.reducePow, Int.reduceMul, Int.reduceNeg, isB_i, isB_b, isB_y, isBv_i, isBv_b, eqCells_t, TT]
  simp (maxSteps := 4000000) only [Try.results33, d0, d1, d2, e1, e2, e3, XX, Nat.reduceBEq, Nat.reduceLT, Nat.reduceAdd, Nat.reduceMul, Nat.reduceSub, Nat.reduceLeDiff, Nat.reduceEqDiff, Int.reduceToNat, Int.reduceLT, Int.reduceLE, Int.reduceAdd, Int.reduceSub, Int.reduceEq, reduceIte, Nat.reduceBNe, Int.reducePow, Nat.reducePow, Int.reduceMul, Int.reduceNeg, isB_i, isB_b, isB_y, isBv_i, isBv_b, eqCells_t, TT]
  refine ⟨by omega, loop_rounds cx_ok 400 5 ?_⟩
  obtain ⟨R, hR⟩ := drop4 (sp := sp) hb
  have q0 := (l.getD at' 0).toNat_lt
  have q1 := (l.getD (at' + 1) 0).toNat_lt
  have q2 := (l.getD (at' + 2) 0).toNat_lt
  have q3 := (l.getD (at' + 3) 0).toNat_lt
  have z := or_next (a := 0) (b := (l.getD at' 0).toNat) (by omega) (by omega)
  rw [Int.natCast_zero, Nat.zero_mul, Nat.zero_add] at z
  have z1 := or_next (a := (l.getD at' 0).toNat) (b := (l.getD (at' + 1) 0).toNat) (by omega) (by omega)
  have z2 := or_next (a := (l.getD at' 0).toNat * 256 + (l.getD (at' + 1) 0).toNat) (b := (l.getD (at' + 2) 0).toNat) (by omega) (by omega)
  have z3 := or_next (a := ((l.getD at' 0).toNat * 256 + (l.getD (at' + 1) 0).toNat) * 256 + (l.getD (at' + 2) 0).toNat) (b := (l.getD (at' + 3) 0).toNat) (by omega) (by omega)
  simp (maxSteps := 4000000) only [Try.results33, w64, Int.reduceToNat, hR, z, z1, z2, z3, XX, Nat.reduceBEq, Nat.reduceLT, Nat.reduceAdd, Nat.reduceMul, Nat.reduceSub, Nat.reduceLeDiff, Nat.reduceEqDiff, Int.reduceToNat, Int.reduceLT, Int.reduceLE, Int.reduceAdd, Int.reduceSub, Int.reduceEq, reduceIte, Nat.reduceBNe, Int.reducePow, Nat.reducePow, Int.reduceMul, Int.reduceNeg, isB_i, isB_b, isB_y, isBv_i, isBv_b, eqCells_t, TT]
  exact ⟨by omega, by omega, by omega, by omega⟩
end Go.Proofs.Ytgegddefcgfhgaa.Sx
namespace Go.Proofs.Ytgegddefcgfhgaa.Sx
open Go
set_option linter.unusedSimpArgs false
set_option linter.unusedVariables false
set_option maxRecDepth 10000
set_option maxHeartbeats 1000000
/-- A station's address. -/
structure M6 where
  a : UInt8
  b : UInt8
  c : UInt8
  d : UInt8
  e : UInt8
  f : UInt8
deriving DecidableEq
abbrev M6.l (m : M6) : List UInt8 := [m.a, m.b, m.c, m.d, m.e, m.f]
theorem eqM (d o : M6) : eqCells [byteC d.a, byteC d.b, byteC d.c, byteC d.d, byteC d.e, byteC d.f] [byteC o.a, byteC o.b, byteC o.c, byteC o.d, byteC o.e, byteC o.f] = some (decide (d = o)) := by
  have e : ∀ a b : UInt8, ((a.toNat : Int) = (b.toNat : Int)) ↔ a = b := fun a b => by rw [Int.natCast_inj, UInt8.toNat_inj]
  simp only [eqCells, byteC, if_true, Option.map_some, Bool.and_true, e]
  congr 1
  obtain ⟨a, b, c, d, e, f⟩ := d
  obtain ⟨a', b', c', d', e', f'⟩ := o
  simp only [M6.mk.injEq]
  rw [Bool.eq_iff_iff]
  simp
abbrev M6.all : M6 := ⟨255, 255, 255, 255, 255, 255⟩
end Go.Proofs.Ytgegddefcgfhgaa.Sx
namespace Go.Proofs.Ytgegddefcgfhgaa.Sx
open Go
set_option linter.unusedSimpArgs false
set_option linter.unusedVariables false
set_option maxRecDepth 10000
set_option maxHeartbeats 2000000
def boxC (d sp : List UInt8) (c j : Nat) : SC := .ro (bsR (d.drop (255 * j) ++ sp)) (d.length - 255 * j) (c - 255 * j)
def boxB (d sp : List UInt8) (c j : Nat) : SB := ⟨true, 22, [boxC d sp c j]⟩
def pieceC (d sp : List UInt8) (c j : Nat) : SC := .ro (bsR (d.drop (255 * j) ++ sp)) (min 255 (d.length - 255 * j)) (c - 255 * j)
/-- How many pieces. -/
def pcs (n : Nat) : Nat := (n - 1) / 255 + 1
def muW (A : Addr) (w : World) : Nat := match w.cell? A with
  | some (.slice _ n _) => n
  | _ => 0
theorem muW_of {e : Env} {nm : NB} {tm : List (Nat × SV)} {hp : List SB} {a : Act} {w : World} {bx : Nat} {d sp : List UInt8} {c j : Nat} (S : Sat e ⟨nm, tm, hp⟩ a w) (hb : hp[bx]? = some (boxB d sp c j)) (hlt : bx < e.ρ.n) : muW (e.ρ.at bx 0) w = d.length - 255 * j := by
  obtain ⟨ρ, S⟩ := S
  obtain ⟨y, h1, h2⟩ := S.step.models.ro bx _ hb 0 _ rfl
  have ha : ρ.at bx 0 = e.ρ.at bx 0 := by simp only [Rho.at, S.step.le.2 bx hlt]
  rw [ha] at h1
  unfold muW
  rw [h1]
  simp only [boxC, SC.rel, RC.rel] at h2
  rcases h2 with ⟨h3, _, p, rfl⟩ | ⟨_, b, o, rfl, _⟩
  · simp only; omega
  · rfl
theorem boxC_next {d sp : List UInt8} {c j : Nat} (h : 255 < d.length - 255 * j) : SC.ro ((bsR (d.drop (255 * j) ++ sp)).drop 255) (d.length - 255 * j - 255) (c - 255 * j - 255) = boxC d sp c (j + 1) := by
  unfold boxC
  have h1 : (bsR (d.drop (255 * j) ++ sp)).drop 255 = bsR (d.drop (255 * (j + 1)) ++ sp) := by
    rw [rs_drop, List.drop_append_of_le_length (by simp; omega), List.drop_drop]
    rw [show 255 * j + 255 = 255 * (j + 1) by omega]
  rw [h1]
  congr 1 <;> omega
theorem pieceC_full {d sp : List UInt8} {c j : Nat} (h : 255 < d.length - 255 * j) : SC.ro (bsR (d.drop (255 * j) ++ sp)) 255 (c - 255 * j) = pieceC d sp c j := by
  unfold pieceC
  rw [Nat.min_eq_left (by omega)]
theorem pieceC_last {d sp : List UInt8} {c j : Nat} (h : d.length - 255 * j ≤ 255) : boxC d sp c j = pieceC d sp c j := by
  unfold boxC pieceC
  rw [Nat.min_eq_right h]
theorem pieces_calls {L : LR} {l : Nat} {hp : List SB} {ρ : Rho} {W : World} {bx : Nat} {d sp : List UInt8} {c : Nat} {Bi : Nat → List SB → Prop}
    (M : Models hp ρ W) (pn : PinsOk (L.pins l .ready) W) (hc : d.length ≤ c) (hbx : hp[bx]? = some (boxB d sp c 0)) (h0 : Bi 0 hp)
    (hset : ∀ j hp' y, Bi j hp' → Bi j (hp'.set bx y))
    (hround : ∀ j hp' ρ' W' v, Bi j hp' → hp'[bx]? = some (boxB d sp c j) → (255 * j < d.length ∨ j = 0) → Models hp' ρ' W' → ρ.le ρ' → PinsOk (L.pins l .ready) W' → (pieceC d sp c j).rel ρ' v →
      RoundIn (rF none) 0 cx.P l L.fn (L.tmps.setIfInBounds L.tp v) L.asg L.body W' fun e' W'' => e' = .returned (.bool true) ∧ ∃ hp'' ρ'', Step hp' ρ' W' hp'' ρ'' W'' ∧ (Bi (j + 1) hp'' ∧ hp''[bx]? = some (boxB d sp c j))) :
    CallsIn (rF none) 0 cx.P 90 #[.func (.yield l) #[] #[], .pointer (some (ρ.at bx 0))] W fun e W' => (∃ v, e = .returned v) ∧ ∃ hp' ρ', Step hp ρ W hp' ρ' W' ∧ Bi (pcs d.length) hp' ∧ PinsOk (L.pins l .ready) W' := by
  have hlt : bx < ρ.n := M.some_lt hbx
  refine callsIn_of_wp_marks Try.func90 rfl (rF_fn none _) ?_ rfl
  obtain ⟨e, he⟩ : ∃ e : Env, e = ⟨W, hp, ρ, 16, [], L.pins l .ready⟩ := ⟨_, rfl⟩
  have S0 : Sat e ⟨⟨2, hp.length⟩, [(0, .c (.v (.func (.yield l) #[] #[]))), (1, .c (.ptr bx 0))], hp⟩ { tmps := #[.func (.yield l) #[] #[], .pointer (some (ρ.at bx 0))] ++ Array.replicate (Try.f90.ntmps - #[Value.func (.yield l) #[] #[], Value.pointer (some (ρ.at bx 0))].size) undef, defers := [] } W := by
    subst he
    refine ⟨ρ, ⟨rfl, M.n⟩, ⟨⟨[], rfl, List.nodup_nil, fun D hD => by simp at hD⟩, pn⟩, by rw [show Try.f90.ntmps = 16 from rfl]; simp, Step.refl M, fun t s hts => ?_⟩
    match t, hts with
    | 0, hts => cases hts; exact ⟨_, rfl, rfl, rfl⟩
    | 1, hts => cases hts; exact ⟨_, rfl, hlt, rfl⟩
    | t + 2, hts => simp [look] at hts
  have ent : e.nt = 16 := by rw [he]
  have eρ : e.ρ = ρ := by rw [he]
  refine wpIn_seq (wpIn_block (wpIn_loop (fun a w => ∃ (j : Nat) (hp' : List SB), (255 * j < d.length ∨ j = 0) ∧ Bi j hp' ∧ hp'[bx]? = some (boxB d sp c j) ∧ Sat e ⟨⟨2, hp.length⟩, [(0, .c (.v (.func (.yield l) #[] #[]))), (1, .c (.ptr bx 0))], hp'⟩ a w) (fun _ w => muW (ρ.at bx 0) w) ⟨0, hp, .inr rfl, h0, hbx, S0⟩ ?_))
  rintro a w ⟨j, hp', hj, hB, hb, S⟩
  have hmu : muW (ρ.at bx 0) w = d.length - 255 * j := by
    have := muW_of S hb (by rw [eρ]; exact hlt)
    rwa [eρ] at this
  have ltb := lt_of hb
  have hbc : boxC d sp c j = .ro (bsR (d.drop (255 * j) ++ sp)) (d.length - 255 * j) (c - 255 * j) := rfl
  unfold boxB at hb
  rw [hbc] at hb
  have lv : ∀ (ex : Exit) (a : Act) (w : World) (σ : St) (j : Nat) (hp' : List SB), j = pcs d.length → Bi j hp' → Sat e ⟨⟨2, hp.length⟩, [], hp'⟩ a w → LeavesInM (rF none) 0 cx.P Try.f90 a.tmps (fun e W' => (∃ v, e = .returned v) ∧ ∃ hp' ρ', Step hp ρ W hp' ρ' W' ∧ Bi (pcs d.length) hp' ∧ PinsOk (L.pins l .ready) W') a.defers .returning w := by
    rintro ex a w σ j hp' rfl hB ⟨ρ1, S⟩
    obtain ⟨⟨Ds, d1, d2⟩, _⟩ := S.defers
    have edf : e.df = [] := by rw [he]
    rw [d1, edf, List.append_nil]
    refine leaves_marks Ds w d2 ?_
    have S' := S.shut (by rw [he]; exact fun k hk => (M.zone k hk).1) (by rw [he]; exact fun p hp => (Array.getElem?_eq_some_iff.1 (pn p hp).1).1) Ds d2
    refine ⟨_, results_none rfl _ _ _, ⟨_, rfl⟩, hp', ρ1, ?_, hB, ?_⟩
    · have := S'.step; rw [he] at this; exact this
    · have := S'.defers.2; rw [he] at this; exact this
  by_cases hgt : 255 < d.length - 255 * j
  · have hd : decide ((255 : Int) < ((d.length - 255 * j : Nat) : Int)) = true := by simp only [decide_eq_true_eq]; omega
    refine wpIn_seq ?_
    refine wpIn_mono (run_in cx_ok (n := 400) (J := fun σ => Sub σ ⟨⟨2, hp.length⟩, [(0, .c (.v (.func (.yield l) #[] #[]))), (1, .c (.ptr bx 0))], hp'⟩) (Q := fun _ _ => False) ?_ rfl (by rw [ent]; rfl) S) ?_
    · simp (maxSteps := 4000000) only [Try.results90, hb, ltb, hd, XX, Nat.reduceBEq, Nat.reduceLT, Nat.reduceAdd, Nat.reduceMul, Nat.reduceSub, Nat.reduceLeDiff, Nat.reduceEqDiff, Int.reduceToNat, Int.reduceLT, Int.reduceLE, Int.reduceAdd, Int.reduceSub, Int.reduceEq, reduceIte, Nat.reduceBNe, Int.reducePow, Nat.reducePow, Int.reduceMul, Int.reduceNeg, isB_i, isB_b, isB_y, isBv_i, isBv_b, eqCells_t, TT]
      exact ⟨rfl, rfl, rfl, rfl, trivial⟩
    intro ex a2 w2 hq
    obtain ⟨rfl, σ2, S2, j2⟩ := contIn_end hq
    have S2 := S2.sub j2
    refine wpIn_block (wpIn_seq (wpIn_seq (wpIn_region_list (wpListIn_app (l1 := [_, _, _]) (l2 := [_, _]) ?_))))
    refine wpListIn_mono ?_ (run_ops cx_ok (n := 400) (J := fun σ => Sub σ ⟨⟨2, hp.length⟩, [(0, .c (.v (.func (.yield l) #[] #[]))), (1, .c (.ptr bx 0)), (6, .c (.v (.func (.yield l) #[] #[]))), (8, .c (pieceC d sp c j))], hp'⟩) (Q := fun _ _ => False) ?_ rfl (by rw [ent]; rfl) S2)
    · intro ex a3 w3 hq
      obtain ⟨rfl, σ3, S3, j3⟩ := contIn_end hq
      obtain ⟨ρ3, S3⟩ := S3.sub j3
      refine wpListIn_plain rfl fun K hK => ?_
      have pn3 : PinsOk (L.pins l .ready) w3 := by have := S3.defers.2; rw [he] at this; exact this
      refine yield_ok cx_ok (L := L) (l := l) (fun hp'' => Bi (j + 1) hp'' ∧ hp''[bx]? = some (boxB d sp c j)) S3 rfl rfl (pn3 _ (.head _)).1 (by rw [ent]; intro d hd; cases hd; decide) (fun v hv => hround j hp' ρ3 w3 v hB hb hj S3.step.models (by have := S3.step.le; rw [eρ] at this; exact this) pn3 hv) ?_
      rintro a4 w4 hp4 ⟨hB4, hb4⟩ S4
      refine hK _ _ ?_
      have ltb4 := lt_of hb4
      unfold boxB at hb4
      rw [hbc] at hb4
      refine wpListIn_mono ?_ (run_ops cx_ok (n := 400) (J := fun σ => Sub σ ⟨⟨2, hp.length⟩, [(0, .c (.v (.func (.yield l) #[] #[]))), (1, .c (.ptr bx 0)), (10, .c (bC false))], hp4⟩) (Q := fun _ _ => False) ?_ rfl (by rw [ent]; rfl) S4)
      · intro ex a5 w5 hq
        obtain ⟨rfl, σ5, S5, j5⟩ := contIn_end hq
        have S5 := S5.sub j5
        refine wpIn_mono (run_in cx_ok (n := 400) (J := fun σ => Sub σ ⟨⟨2, hp.length⟩, [(0, .c (.v (.func (.yield l) #[] #[]))), (1, .c (.ptr bx 0))], hp4⟩) (Q := fun _ _ => False) ?_ rfl (by rw [ent]; rfl) S5) ?_
        · simp (maxSteps := 4000000) only [Try.results90, XX, Nat.reduceBEq, Nat.reduceLT, Nat.reduceAdd, Nat.reduceMul, Nat.reduceSub, Nat.reduceLeDiff, Nat.reduceEqDiff, Int.reduceToNat, Int.reduceLT, Int.reduceLE, Int.reduceAdd, Int.reduceSub, Int.reduceEq, reduceIte, Nat.reduceBNe, Int.reducePow, Nat.reducePow, Int.reduceMul, Int.reduceNeg, isB_i, isB_b, isB_y, isBv_i, isBv_b, eqCells_t, TT]
          exact ⟨rfl, rfl, rfl, rfl, trivial⟩
        intro ex a6 w6 hq
        obtain ⟨rfl, σ6, S6, j6⟩ := contIn_end hq
        have S6 := S6.sub j6
        refine wpIn_mono (run_in cx_ok (n := 400) (J := fun σ => Sub σ ⟨⟨2, hp.length⟩, [(0, .c (.v (.func (.yield l) #[] #[]))), (1, .c (.ptr bx 0))], hp4.set bx (boxB d sp c (j + 1))⟩) (Q := fun _ _ => False) ?_ rfl (by rw [ent]; rfl) S6) ?_
        · simp (maxSteps := 4000000) only [Try.results90, hb4, ltb4, XX, Nat.reduceBEq, Nat.reduceLT, Nat.reduceAdd, Nat.reduceMul, Nat.reduceSub, Nat.reduceLeDiff, Nat.reduceEqDiff, Int.reduceToNat, Int.reduceLT, Int.reduceLE, Int.reduceAdd, Int.reduceSub, Int.reduceEq, reduceIte, Nat.reduceBNe, Int.reducePow, Nat.reducePow, Int.reduceMul, Int.reduceNeg, isB_i, isB_b, isB_y, isBv_i, isBv_b, eqCells_t, TT]
          exact ⟨by omega, rfl, by rw [boxC_next hgt]; rfl, rfl, rfl, trivial⟩
        intro ex a7 w7 hq
        obtain ⟨rfl, σ7, S7, j7⟩ := contIn_end hq
        have S7 := S7.sub j7
        refine ⟨⟨j + 1, _, .inl (by omega), hset _ _ _ hB4, List.getElem?_set_self (by simpa using ltb4), S7⟩, ?_⟩
        have h7 := muW_of S7 (List.getElem?_set_self (by simpa using ltb4)) (by rw [eρ]; exact hlt)
        rw [eρ] at h7
        show muW (ρ.at bx 0) w7 < muW (ρ.at bx 0) w
        rw [h7, hmu]
        omega
      · simp (maxSteps := 4000000) only [Try.results90, XX, Nat.reduceBEq, Nat.reduceLT, Nat.reduceAdd, Nat.reduceMul, Nat.reduceSub, Nat.reduceLeDiff, Nat.reduceEqDiff, Int.reduceToNat, Int.reduceLT, Int.reduceLE, Int.reduceAdd, Int.reduceSub, Int.reduceEq, reduceIte, Nat.reduceBNe, Int.reducePow, Nat.reducePow, Int.reduceMul, Int.reduceNeg, isB_i, isB_b, isB_y, isBv_i, isBv_b, eqCells_t, TT]
        exact ⟨rfl, rfl, rfl, rfl, rfl, trivial⟩
    · simp (maxSteps := 4000000) only [Try.results90, hb, ltb, XX, Nat.reduceBEq, Nat.reduceLT, Nat.reduceAdd, Nat.reduceMul, Nat.reduceSub, Nat.reduceLeDiff, Nat.reduceEqDiff, Int.reduceToNat, Int.reduceLT, Int.reduceLE, Int.reduceAdd, Int.reduceSub, Int.reduceEq, reduceIte, Nat.reduceBNe, Int.reducePow, Nat.reducePow, Int.reduceMul, Int.reduceNeg, isB_i, isB_b, isB_y, isBv_i, isBv_b, eqCells_t, TT]
      exact ⟨by omega, rfl, rfl, rfl, rfl, rfl, by rw [← pieceC_full hgt]; rfl, trivial⟩
  · have hd : decide ((255 : Int) < ((d.length - 255 * j : Nat) : Int)) = false := by simp only [decide_eq_false_iff_not]; omega
    refine wpIn_seq ?_
    refine wpIn_mono (run_in cx_ok (n := 400) (J := fun _ => False) (Q := fun x σ => match x with
      | .exit 0 => Sub σ ⟨⟨2, hp.length⟩, [(0, .c (.v (.func (.yield l) #[] #[]))), (1, .c (.ptr bx 0))], hp'⟩
      | _ => False) ?_ rfl (by rw [ent]; rfl) S) ?_
    · simp (maxSteps := 4000000) only [Try.results90, hb, ltb, hd, XX, Nat.reduceBEq, Nat.reduceLT, Nat.reduceAdd, Nat.reduceMul, Nat.reduceSub, Nat.reduceLeDiff, Nat.reduceEqDiff, Int.reduceToNat, Int.reduceLT, Int.reduceLE, Int.reduceAdd, Int.reduceSub, Int.reduceEq, reduceIte, Nat.reduceBNe, Int.reducePow, Nat.reducePow, Int.reduceMul, Int.reduceNeg, isB_i, isB_b, isB_y, isBv_i, isBv_b, eqCells_t, TT]
      exact ⟨rfl, rfl, rfl, rfl, trivial⟩
    intro ex a2 w2 hq
    have hq : ex = .exit 0 ∧ Sat e ⟨⟨2, hp.length⟩, [(0, .c (.v (.func (.yield l) #[] #[]))), (1, .c (.ptr bx 0))], hp'⟩ a2 w2 := by
      cases ex with
      | normal => obtain ⟨_, _, h⟩ := hq; exact h.elim
      | exit id =>
        obtain ⟨σ, hS, h⟩ := hq
        match id, h with
        | 0, h => exact ⟨rfl, hS.sub h⟩
        | _ + 1, h => exact h.elim
      | goto l => exact hq.elim
      | ret => obtain ⟨_, _, h⟩ := hq; exact h.elim
      | panic ch => obtain ⟨_, _, h⟩ := hq; exact h.elim
      | outgrown => exact hq.elim
    obtain ⟨rfl, S2⟩ := hq
    show Code.wpIn (rF none) 0 cx.P (Code.region 3 _ false) _ a2 w2
    refine wpIn_region_list (wpListIn_app (l1 := [_, _]) (l2 := [_]) ?_)
    refine wpListIn_mono ?_ (run_ops cx_ok (n := 400) (J := fun σ => Sub σ ⟨⟨2, hp.length⟩, [(0, .c (.v (.func (.yield l) #[] #[]))), (1, .c (.ptr bx 0)), (13, .c (.v (.func (.yield l) #[] #[]))), (14, .c (pieceC d sp c j))], hp'⟩) (Q := fun _ _ => False) ?_ rfl (by rw [ent]; rfl) S2)
    · intro ex a3 w3 hq
      obtain ⟨rfl, σ3, S3, j3⟩ := contIn_end hq
      obtain ⟨ρ3, S3⟩ := S3.sub j3
      refine wpListIn_plain rfl fun K hK => ?_
      have pn3 : PinsOk (L.pins l .ready) w3 := by have := S3.defers.2; rw [he] at this; exact this
      refine yield_ok cx_ok (L := L) (l := l) (fun hp'' => Bi (j + 1) hp'' ∧ hp''[bx]? = some (boxB d sp c j)) S3 rfl rfl (pn3 _ (.head _)).1 (by rw [ent]; intro d hd; cases hd; decide) (fun v hv => hround j hp' ρ3 w3 v hB hb hj S3.step.models (by have := S3.step.le; rw [eρ] at this; exact this) pn3 hv) ?_
      rintro a4 w4 hp4 ⟨hB4, hb4⟩ S4
      refine hK _ _ ?_
      show LeavesInM (rF none) 0 cx.P Try.f90 a4.tmps _ a4.defers .returning w4
      exact lv .normal a4 w4 ⟨⟨2, hp.length⟩, [], hp4⟩ (j + 1) hp4 (by unfold pcs; rcases hj with h | h <;> omega) hB4 (S4.sub ⟨rfl, rfl, trivial⟩)
    · simp (maxSteps := 4000000) only [Try.results90, hb, ltb, XX, Nat.reduceBEq, Nat.reduceLT, Nat.reduceAdd, Nat.reduceMul, Nat.reduceSub, Nat.reduceLeDiff, Nat.reduceEqDiff, Int.reduceToNat, Int.reduceLT, Int.reduceLE, Int.reduceAdd, Int.reduceSub, Int.reduceEq, reduceIte, Nat.reduceBNe, Int.reducePow, Nat.reducePow, Int.reduceMul, Int.reduceNeg, isB_i, isB_b, isB_y, isBv_i, isBv_b, eqCells_t, TT]
      exact ⟨rfl, rfl, rfl, rfl, rfl, by rw [← pieceC_last (by omega)]; rfl, trivial⟩
theorem Ext.alloc2 {S : Nat → Prop} (w : World) (o o' : Obj) : Ext S w ((w.alloc o).alloc o') := (Ext.alloc S w o).trans (Ext.alloc S _ o')
theorem Step.ext0 {h : List SB} {ρ : Rho} {w w' : World} (M : Models h ρ w) (E : Ext (fun _ => False) w w') : Step h ρ w h ρ w' :=
  ⟨⟨Nat.le_refl _, fun _ _ => rfl, rfl, rfl⟩, M.ext E, fun i h1 h2 => by omega, E.mono fun _ _ h => h.elim, fun i b _ hb ho => ⟨b, hb, ho⟩, fun i b _ hb hv => ⟨b, hb, hv⟩⟩
/-- The pieces, ranged over. -/
theorem range_pieces {bx : Nat} {d sp : List UInt8} {c : Nat} {tf tp : Tmp} {asg body : Code} {k : List KI} {σ : St} {Q : XE → St → Prop} {Bi : Nat → List SB → Prop} (nx n1 n2 n3 : Nat)
    (hf : look tf σ.tm = some (.c (.fn 90 [(bx, 0)]))) (hbx : σ.hp[bx]? = some (boxB d sp c 0)) (hc : d.length ≤ c) (h0 : Bi 0 σ.hp) (hset : ∀ j hp' y, Bi j hp' → Bi j (hp'.set bx y)) (sa : simpleC asg = true) (sb : simpleC body = true)
    (hround : ∀ j hp', Bi j hp' → hp'[bx]? = some (boxB d sp c j) → (255 * j < d.length ∨ j = 0) → ∃ J1 : St → Prop, X cx n1 [.code asg, .lp J1] ⟨⟨nx, hp'.length⟩, put (some tp) (.c (pieceC d sp c j)) σ.tm, hp'⟩ (fun _ _ => False) ∧ (∀ σ', J1 σ' → σ'.nm = ⟨nx, hp'.length⟩ ∧ σ'.hp = hp') ∧
      ∀ σ', J1 σ' → X cx n2 [.code body, .lp fun σ'' => Bi (j + 1) σ''.hp ∧ σ''.hp[bx]? = some (boxB d sp c j)] σ' (fun _ _ => False))
    (hk : ∀ hp', Bi (pcs d.length) hp' → X cx n3 k ⟨σ.nm, σ.tm, hp'⟩ Q) : RangeGoal cx.P (.tmp tf) #[tp] asg body k σ Q := by
  intro e a w hcd hok S
  obtain ⟨ρ, S⟩ := S
  have M := S.step.models
  obtain ⟨yf, f1, f2, f3⟩ := S.tm tf _ hf
  have hbn : bx < ρ.n := M.some_lt hbx
  have ef : a.eval (.tmp tf) = .func (.func 90) #[] #[.pointer (some (ρ.at bx 0))] := by simp [Act.eval, Array.getD_eq_getD_getElem?, f1]; exact f3
  have hcd' : tp < e.nt ∧ codeOk e.nt asg = true ∧ codeOk e.nt body = true := by simpa [codeOk, and_assoc] using hcd
  refine wpIn_wide.1 (wpIn_rangeFunc (F := Fence.wide) (n := 0) ?_)
  intro fn _
  obtain ⟨L, hL⟩ : ∃ L : LR, L = ⟨fn, a.tmps, tp, asg, body, w.heap.size⟩ := ⟨_, rfl⟩
  obtain ⟨W1, hW1⟩ : ∃ W1, W1 = (w.alloc (.deferred (some []))).alloc (L.obj .ready) := ⟨_, rfl⟩
  have hl1 : W1.heap[w.heap.size + 1]? = some (L.obj .ready) := by
    rw [hW1]; have := World.alloc_heap_new (w.alloc (.deferred (some []))) (L.obj .ready); rwa [World.size_alloc] at this
  have hD1 : W1.heap[w.heap.size]? = some (.deferred (some [])) := by
    rw [hW1, RowKit.Below.heap_alloc _ _ _ (by simp)]; exact World.alloc_heap_new w _
  have E1 : Ext (fun _ => False) w W1 := by rw [hW1]; exact Ext.alloc2 _ _ _
  have st1 : Step σ.hp ρ w σ.hp ρ W1 := Step.ext0 M E1
  have LD : L.D = w.heap.size := by rw [hL]
  have pn1 : PinsOk (L.pins (w.heap.size + 1) .ready) W1 := by
    intro p hp
    simp only [LR.pins, List.mem_cons, List.not_mem_nil, or_false] at hp
    rcases hp with rfl | rfl
    · exact ⟨hl1, rfl⟩
    · exact ⟨by rw [LD]; exact hD1, rfl⟩
  have hz : ∀ k, ρ.zone k → k < w.heap.size := fun k hk => (M.zone k hk).1
  refine ⟨w.heap.size + 1, [mkD w.heap.size], W1, { target := .fn (.func 90) #[.pointer (some (ρ.at bx 0))], args := #[.func (.yield (w.heap.size + 1)) #[] #[]] }, W1, 90,
    #[.func (.yield (w.heap.size + 1)) #[] #[]] ++ #[.pointer (some (ρ.at bx 0))], W1, ?_, ?_, fun _ _ => trivial, ?_, fun h => (by cases h), ?_⟩
  · rw [hW1, hL]; exact run_enterLoop_outer _ _ _ _ _
  · simp only [resolve, ef]
    simp [go_sem]
  · have hen : ∀ (vs : Array Value) (w : World), (callFunc 90 vs).run cx.P w = .ok (.enter 90 vs) w := fun vs w => Go.Proofs.enters_of Try.func90 (by kernel_rfl) rfl vs w
    simp [invoke, go_sem, hen]
  · refine (pieces_calls (L := L) (l := w.heap.size + 1) (sp := sp) st1.models pn1 hc hbx h0 hset (fun j hp' ρ' W' v hB hb hj M' hle pn hv => ?_)).mono ?_
    · obtain ⟨J1, x1, x2, x3⟩ := hround j hp' hB hb hj
      have hn : L.tmps.size = e.nt := by rw [hL]; exact S.size
      refine (round_ok cx_ok (nx := nx) (nt := e.nt) (tm := σ.tm) (x := pieceC d sp c j) (K := fun hp'' => Bi (j + 1) hp'' ∧ hp''[bx]? = some (boxB d sp c j)) (B := w.heap.size) M' pn (fun k hk => hz k (by rw [hle.4] at hk; exact hk)) (by omega) (by rw [LD]; omega) hn
        (fun t s hts => by
          obtain ⟨y, q1, q2⟩ := S.tm t s hts
          exact ⟨y, by rw [hL]; exact q1, SV.rel_le hle q2⟩) hv (by rw [hL]; exact hcd'.1) (by rw [hL]; exact hcd'.2.1) (by rw [hL]; exact hcd'.2.2) (by rw [hL]; exact sa) (by rw [hL]; exact sb) J1 n1 n2 (by rw [hL]; exact x1) x2 (by rw [hL]; exact x3)).mono ?_
      rintro e' W'' ⟨h1, hp'', ρ'', h2, h3, _⟩
      exact ⟨h1, hp'', ρ'', h2, h3⟩
    · rintro e' W' ⟨⟨v, rfl⟩, hp', ρ', st, hB, pn⟩
      have hl' := (pn _ (.head _)).1
      have hD' := (pn _ (.tail _ (.head _))).1
      rw [LD] at hD'
      refine ⟨none, _, run_endLoop hl' (by simp), ?_⟩
      refine X_ok cx_ok n3 _ _ _ (hk hp' hB) e _ _ hok ⟨ρ', ?_⟩
      obtain ⟨⟨Ds, d1, d2⟩, d3⟩ := S.defers
      have d2' := (d2.step M st1).step st1.models st
      have d3' := (d3.step M st1).step st1.models st
      have hlt : ∀ D ∈ Ds, D < w.heap.size := fun D hD => (Array.getElem?_eq_some_iff.1 (d2.2 D hD).2).1
      have hsz : e.w.heap.size ≤ w.heap.size := S.step.ext.size
      refine ⟨S.base, ⟨⟨w.heap.size :: Ds, by show mkD w.heap.size :: a.defers = _; rw [d1]; rfl, ?_, fun D hD => ?_⟩, fun p hp => ?_⟩, S.size, (S.step.trans (st1.trans st)).putObj _ hl' (L.nc _) (by omega) (fun hk => ?_), fun t s hts => ?_⟩
      · refine List.nodup_cons.2 ⟨fun h => ?_, d2.1⟩
        have := hlt _ h
        omega
      · rcases List.mem_cons.1 hD with rfl | h
        · exact ⟨hsz, by rw [World.putObj_heap_other (by omega)]; exact hD'⟩
        · exact ⟨(d2.2 D h).1, by rw [World.putObj_heap_other (by have := hlt D h; omega)]; exact (d2'.2 D h).2⟩
      · have h1 := (Array.getElem?_eq_some_iff.1 (d3 p hp).1).1
        exact ⟨by rw [World.putObj_heap_other (by omega)]; exact (d3' p hp).1, (d3 p hp).2⟩
      · rw [st.le.4] at hk
        have := hz _ hk
        omega
      · obtain ⟨y, q1, q2⟩ := S.tm t s hts
        exact ⟨y, q1, SV.rel_le st.le q2⟩
end Go.Proofs.Ytgegddefcgfhgaa.Sx
namespace Go.Proofs.Ytgegddefcgfhgaa.Sx
open Go
set_option linter.unusedSimpArgs false
set_option linter.unusedVariables false
set_option maxRecDepth 10000
set_option maxHeartbeats 2000000
/-- An option: its code, its bytes, what stands behind them, their room. -/
structure OI where
  k : Int
  d : List UInt8
  sp : List UInt8
  c : Nat
abbrev OI.rc (x : OI) : List RC := [.v (.int .i64 x.k), .sl (bsR (x.d ++ x.sp)) x.d.length x.c]
structure OI.ok (x : OI) : Prop where
  c : x.d.length ≤ x.c
  m : x.d.length ≤ 140737488355328
  k : -9223372036854775808 ≤ x.k ∧ x.k < 9223372036854775808
abbrev osR (xs : List OI) : List RC := (xs.map OI.rc).flatten
abbrev roO (xs sp : List OI) (c : Nat) : SC := .ro (osR (xs ++ sp)) xs.length c
theorem osR_drop {xs : List OI} {i : Nat} {x : OI} (h : xs[i]? = some x) : ∃ R, (osR xs).drop (i * 2) = x.rc ++ R := by
  have hl : ∀ y ∈ xs.map OI.rc, y.length = 2 := by
    intro y hy
    simp only [List.mem_map] at hy
    obtain ⟨o, _, rfl⟩ := hy
    rfl
  obtain ⟨h1, rfl⟩ := List.getElem?_eq_some_iff.1 h
  have := flat_at hl (i := i) (by simpa using h1)
  rw [List.getElem_map] at this
  refine ⟨((osR xs).drop (i * 2)).drop 2, ?_⟩
  rw [← this, List.take_append_drop]
theorem osR_at {xs sp : List OI} {i : Nat} {x : OI} (h : xs[i]? = some x) : ∃ R, (osR (xs ++ sp)).drop (i * 2) = .v (.int .i64 x.k) :: .sl (bsR (x.d ++ x.sp)) x.d.length x.c :: R := by
  obtain ⟨R, hR⟩ := osR_drop (xs := xs ++ sp) (i := i) (x := x) (by rw [List.getElem?_append_left (List.getElem?_eq_some_iff.1 h).1]; exact h)
  exact ⟨R, by rw [hR]; rfl⟩
/-- The option of a code. -/
def findO (xs : List OI) (k : Int) : Option OI := xs.find? fun x => decide (x.k = k)
def findD (xs : List OI) (k : Int) : List UInt8 := match findO xs k with
  | some x => x.d
  | none => []
/-- Bytes and a Bool. -/
def resSB (l : List UInt8) (b : Bool) (s : SV) (h' : List SB) : Prop := ∃ sp o, s = .tup [(false, [slB 0 l sp]), (false, [bC b])] ∧ h' = [wB o (l ++ sp)] ∧ (0 < l.length + sp.length → o = true)
theorem resSB_noRo {l : List UInt8} {b : Bool} {t : SV} {h' : List SB} (h : resSB l b t h') : t.noRo = true ∧ (h'.all fun b => b.cells.all SC.noRo) = true := by
  obtain ⟨sp, o, rfl, rfl, _⟩ := h
  exact ⟨rfl, by simp only [XX, Nat.reduceBEq, Nat.reduceLT, Nat.reduceAdd, Nat.reduceMul, Nat.reduceSub, Nat.reduceLeDiff, Nat.reduceEqDiff, Int.reduceToNat, Int.reduceLT, Int.reduceLE, Int.reduceAdd, Int.reduceSub, Int.reduceEq, reduceIte, Nat.reduceBNe, Int.reducePow, Nat.reducePow, Int.reduceMul, Int.reduceNeg, isB_i, isB_b, isB_y, isBv_i, isBv_b, eqCells_t, TT, ids_bsC, ren_bsC, noRo_bsC, plain_bsC, lt_bsC, ids_byte, ren_byte, noRo_byte, plain_byte, lt_byte]⟩
theorem resSB_of {P : Program} {f : FuncId} {args : List SV} {l : List UInt8} {b : Bool} (s : Spec P f args [] fun s h' => (∃ w sp o, s = .tup [(false, [slB w l sp]), (false, [bC b])] ∧ Buf h' w o l sp) ∨ (l = [] ∧ s = .tup [(false, [.v (.slice none 0 0)]), (false, [bC b])])) : Spec P f args [] (resSB l b) :=
  s.wk fun t h' h => h.elim (fun ⟨w, sp, o, h1, B⟩ => ⟨.tup [(false, [slB 0 l sp]), (false, [bC b])], [wB o (l ++ sp)], [some w], rfl, by simp only [XX, Nat.reduceBEq, Nat.reduceLT, Nat.reduceAdd, Nat.reduceMul, Nat.reduceSub, Nat.reduceLeDiff, Nat.reduceEqDiff, Int.reduceToNat, Int.reduceLT, Int.reduceLE, Int.reduceAdd, Int.reduceSub, Int.reduceEq, reduceIte, Nat.reduceBNe, Int.reducePow, Nat.reducePow, Int.reduceMul, Int.reduceNeg, isB_i, isB_b, isB_y, isBv_i, isBv_b, eqCells_t, TT, ids_bsC, ren_bsC, noRo_bsC, plain_bsC, lt_bsC, ids_byte, ren_byte, noRo_byte, plain_byte, lt_byte, B.at_], by subst h1; simp only [XX, Nat.reduceBEq, Nat.reduceLT, Nat.reduceAdd, Nat.reduceMul, Nat.reduceSub, Nat.reduceLeDiff, Nat.reduceEqDiff, Int.reduceToNat, Int.reduceLT, Int.reduceLE, Int.reduceAdd, Int.reduceSub, Int.reduceEq, reduceIte, Nat.reduceBNe, Int.reducePow, Nat.reducePow, Int.reduceMul, Int.reduceNeg, isB_i, isB_b, isB_y, isBv_i, isBv_b, eqCells_t, TT, ids_bsC, ren_bsC, noRo_bsC, plain_bsC, lt_bsC, ids_byte, ren_byte, noRo_byte, plain_byte, lt_byte], sp, o, rfl, rfl, B.own⟩)
    fun ⟨h0, h1⟩ => ⟨.tup [(false, [slB 0 [] []]), (false, [bC b])], [wB false ([] ++ [])], [none], rfl, by simp only [XX, Nat.reduceBEq, Nat.reduceLT, Nat.reduceAdd, Nat.reduceMul, Nat.reduceSub, Nat.reduceLeDiff, Nat.reduceEqDiff, Int.reduceToNat, Int.reduceLT, Int.reduceLE, Int.reduceAdd, Int.reduceSub, Int.reduceEq, reduceIte, Nat.reduceBNe, Int.reducePow, Nat.reducePow, Int.reduceMul, Int.reduceNeg, isB_i, isB_b, isB_y, isBv_i, isBv_b, eqCells_t, TT, List.map_nil], by subst h1; exact .inr ⟨rfl, ⟨.inr (.inr ⟨_, _, rfl, .inl rfl⟩), trivial⟩, rfl, ⟨.inl ⟨rfl, rfl⟩, trivial⟩, trivial⟩, [], false, by rw [h0], by rw [h0], fun h => absurd h (by simp [h0])⟩
theorem cloneB_spec (l sp : List UInt8) (c : Nat) (hc : l.length ≤ c) (hl : l.length ≤ 140737488355328) : Spec cx.P 61 [.c (roB l sp c)] [] (resS l) := by
  by_cases hn : 0 < l.length
  · refine resS_of ?_
    refine spec_of_X cx_ok Try.func61 rfl (by kernel_rfl) (by kernel_rfl) (Nat.le_of_ble_eq_true rfl) 400 3 ?_
    simp (maxSteps := 4000000) only [Try.results61, XX, Nat.reduceBEq, Nat.reduceLT, Nat.reduceAdd, Nat.reduceMul, Nat.reduceSub, Nat.reduceLeDiff, Nat.reduceEqDiff, Int.reduceToNat, Int.reduceLT, Int.reduceLE, Int.reduceAdd, Int.reduceSub, Int.reduceEq, reduceIte, Nat.reduceBNe, Int.reducePow, Nat.reducePow, Int.reduceMul, Int.reduceNeg, isB_i, isB_b, isB_y, isBv_i, isBv_b, eqCells_t, TT]
    have e0 : (bsR (l ++ sp)).take l.length = bsR l := by rw [rs_take, List.take_left' rfl]
    refine ⟨by omega, ⟨⟨by omega, by unfold maxLen; omega, by simp, fun h => by omega⟩, by simp⟩, xapp_grow hn fun c' h1 _ => ?_⟩
    obtain ⟨r, rfl⟩ := Nat.exists_eq_add_of_le h1
    simp (maxSteps := 4000000) only [Try.results61, e0, bsR_toSC, Nat.add_sub_cancel_left, zeros_flat, bs_app, XX, Nat.reduceBEq, Nat.reduceLT, Nat.reduceAdd, Nat.reduceMul, Nat.reduceSub, Nat.reduceLeDiff, Nat.reduceEqDiff, Int.reduceToNat, Int.reduceLT, Int.reduceLE, Int.reduceAdd, Int.reduceSub, Int.reduceEq, reduceIte, Nat.reduceBNe, Int.reducePow, Nat.reducePow, Int.reduceMul, Int.reduceNeg, isB_i, isB_b, isB_y, isBv_i, isBv_b, eqCells_t, TT]
    exact ⟨1, List.replicate r 0, true, by simp, rfl, fun _ => rfl⟩
  have h0 : l = [] := List.eq_nil_of_length_eq_zero (by omega)
  subst h0
  by_cases hc0 : 0 < c
  · refine resS_of ?_
    refine spec_of_X cx_ok Try.func61 rfl (by kernel_rfl) (by kernel_rfl) (Nat.le_of_ble_eq_true rfl) 400 3 ?_
    simp (maxSteps := 4000000) only [Try.results61, XX, Nat.reduceBEq, Nat.reduceLT, Nat.reduceAdd, Nat.reduceMul, Nat.reduceSub, Nat.reduceLeDiff, Nat.reduceEqDiff, Int.reduceToNat, Int.reduceLT, Int.reduceLE, Int.reduceAdd, Int.reduceSub, Int.reduceEq, reduceIte, Nat.reduceBNe, Int.reducePow, Nat.reducePow, Int.reduceMul, Int.reduceNeg, isB_i, isB_b, isB_y, isBv_i, isBv_b, eqCells_t, TT]
    refine ⟨hc0, by unfold maxLen; omega, xapp_room (by omega) ?_⟩
    simp (maxSteps := 4000000) only [Try.results61, XX, Nat.reduceBEq, Nat.reduceLT, Nat.reduceAdd, Nat.reduceMul, Nat.reduceSub, Nat.reduceLeDiff, Nat.reduceEqDiff, Int.reduceToNat, Int.reduceLT, Int.reduceLE, Int.reduceAdd, Int.reduceSub, Int.reduceEq, reduceIte, Nat.reduceBNe, Int.reducePow, Nat.reducePow, Int.reduceMul, Int.reduceNeg, isB_i, isB_b, isB_y, isBv_i, isBv_b, eqCells_t, TT]
    exact ⟨0, [], true, rfl, rfl, fun _ => rfl⟩
  have h0 : c = 0 := by omega
  subst h0
  refine Spec.ro0 (resS_nil ?_) fun a => resS_of ?_
  · refine spec_of_X cx_ok Try.func61 rfl (by kernel_rfl) (by kernel_rfl) (Nat.le_of_ble_eq_true rfl) 400 3 ?_
    simp (maxSteps := 4000000) only [Try.results61, XX, Nat.reduceBEq, Nat.reduceLT, Nat.reduceAdd, Nat.reduceMul, Nat.reduceSub, Nat.reduceLeDiff, Nat.reduceEqDiff, Int.reduceToNat, Int.reduceLT, Int.reduceLE, Int.reduceAdd, Int.reduceSub, Int.reduceEq, reduceIte, Nat.reduceBNe, Int.reducePow, Nat.reducePow, Int.reduceMul, Int.reduceNeg, isB_i, isB_b, isB_y, isBv_i, isBv_b, eqCells_t, TT]
  · refine spec_of_X cx_ok Try.func61 rfl (by kernel_rfl) (by kernel_rfl) (Nat.le_of_ble_eq_true rfl) 400 3 ?_
    simp (maxSteps := 4000000) only [Try.results61, XX, Nat.reduceBEq, Nat.reduceLT, Nat.reduceAdd, Nat.reduceMul, Nat.reduceSub, Nat.reduceLeDiff, Nat.reduceEqDiff, Int.reduceToNat, Int.reduceLT, Int.reduceLE, Int.reduceAdd, Int.reduceSub, Int.reduceEq, reduceIte, Nat.reduceBNe, Int.reducePow, Nat.reducePow, Int.reduceMul, Int.reduceNeg, isB_i, isB_b, isB_y, isBv_i, isBv_b, eqCells_t, TT]
    simp (maxSteps := 4000000) only [Try.results61, binS_se, srcOf_s, XX, Nat.reduceBEq, Nat.reduceLT, Nat.reduceAdd, Nat.reduceMul, Nat.reduceSub, Nat.reduceLeDiff, Nat.reduceEqDiff, Int.reduceToNat, Int.reduceLT, Int.reduceLE, Int.reduceAdd, Int.reduceSub, Int.reduceEq, reduceIte, Nat.reduceBNe, Int.reducePow, Nat.reducePow, Int.reduceMul, Int.reduceNeg, isB_i, isB_b, isB_y, isBv_i, isBv_b, eqCells_t, TT]
    refine ⟨⟨by unfold maxLen; omega, by simp⟩, xapp_room (by omega) ?_⟩
    simp (maxSteps := 4000000) only [Try.results61, XX, Nat.reduceBEq, Nat.reduceLT, Nat.reduceAdd, Nat.reduceMul, Nat.reduceSub, Nat.reduceLeDiff, Nat.reduceEqDiff, Int.reduceToNat, Int.reduceLT, Int.reduceLE, Int.reduceAdd, Int.reduceSub, Int.reduceEq, reduceIte, Nat.reduceBNe, Int.reducePow, Nat.reducePow, Int.reduceMul, Int.reduceNeg, isB_i, isB_b, isB_y, isBv_i, isBv_b, eqCells_t, TT]
    exact ⟨0, [], true, rfl, rfl, fun _ => rfl⟩
theorem findO_skip {xs : List OI} {k : Int} {i : Nat} {x : OI} (h : findO (xs.drop i) k = findO xs k) (hx : xs[i]? = some x) (hk : x.k ≠ k) : findO (xs.drop (i + 1)) k = findO xs k := by
  rw [← h]
  obtain ⟨hi, rfl⟩ := List.getElem?_eq_some_iff.1 hx
  conv => rhs; rw [List.drop_eq_getElem_cons hi]
  unfold findO
  rw [List.find?_cons, show decide (xs[i].k = k) = false by simpa using hk]
theorem findO_hit {xs : List OI} {k : Int} {i : Nat} {x : OI} (h : findO (xs.drop i) k = findO xs k) (hx : xs[i]? = some x) (hk : x.k = k) : findO xs k = some x := by
  rw [← h]
  obtain ⟨hi, rfl⟩ := List.getElem?_eq_some_iff.1 hx
  rw [List.drop_eq_getElem_cons hi]
  unfold findO
  rw [List.find?_cons, show decide (xs[i].k = k) = true by simpa using hk]
theorem find_spec (xs sp : List OI) (c : Nat) (hok : ∀ x ∈ xs, x.ok) (hn : xs.length ≤ 140737488355328) (k : Int) : Spec cx.P 31 [.c (roO xs sp c), .c (i64 k)] [] (resSB (findD xs k) (findO xs k).isSome) := by
  refine resSB_of ?_
  refine spec_of_X cx_ok Try.func31 rfl (by kernel_rfl) (by kernel_rfl) (Nat.le_of_ble_eq_true rfl) 400 11 ?_
  simp (maxSteps := 4000000) only [Try.results31, XX, Nat.reduceBEq, Nat.reduceLT, Nat.reduceAdd, Nat.reduceMul, Nat.reduceSub, Nat.reduceLeDiff, Nat.reduceEqDiff, Int.reduceToNat, Int.reduceLT, Int.reduceLE, Int.reduceAdd, Int.reduceSub, Int.reduceEq, reduceIte, Nat.reduceBNe, Int.reducePow, Nat.reducePow, Int.reduceMul, Int.reduceNeg, isB_i, isB_b, isB_y, isBv_i, isBv_b, eqCells_t, TT]
  refine loop_any cx_ok 400 (fun μ σ => ∃ i : Nat, μ = xs.length - i ∧ i ≤ xs.length ∧ findO (xs.drop i) k = findO xs k ∧
      σ = ⟨⟨11, 0⟩, [(1, .c (i64 k)), (8, .c (roO xs sp c)), (9, .c (i64 xs.length)), (10, .c (i64 i))], []⟩) xs.length
    ⟨⟨11, 0⟩, [(1, .c (i64 k)), (8, .c (roO xs sp c)), (9, .c (i64 xs.length)), (10, .c (i64 (0 : Nat)))], []⟩ ⟨0, rfl, Nat.zero_le _, rfl, rfl⟩ (.inl ⟨rfl, rfl, rfl, rfl, rfl, rfl, trivial⟩) ?_
  rintro μ σ ⟨i, rfl, hi, hf, rfl⟩
  by_cases hlt : i < xs.length
  · have hd : decide ((i : Int) < (xs.length : Int)) = true := by simp only [decide_eq_true_eq]; omega
    have e3 : IntKind.i64.wrap ((i : Int) + 1) = ((i + 1 : Nat) : Int) := by rw [w64] <;> omega
    obtain ⟨x, hx⟩ : ∃ x, xs[i]? = some x := ⟨_, List.getElem?_eq_getElem hlt⟩
    obtain ⟨R, hR⟩ := osR_at (sp := sp) hx
    obtain ⟨ox1, ox2, ox3⟩ := hok x (List.mem_of_getElem? hx)
    by_cases hk : x.k = k
    · have dk : decide (x.k = k) = true := by simpa using hk
      simp (maxSteps := 4000000) only [Try.results31, hd, hR, dk, XX, Nat.reduceBEq, Nat.reduceLT, Nat.reduceAdd, Nat.reduceMul, Nat.reduceSub, Nat.reduceLeDiff, Nat.reduceEqDiff, Int.reduceToNat, Int.reduceLT, Int.reduceLE, Int.reduceAdd, Int.reduceSub, Int.reduceEq, reduceIte, Nat.reduceBNe, Int.reducePow, Nat.reducePow, Int.reduceMul, Int.reduceNeg, isB_i, isB_b, isB_y, isBv_i, isBv_b, eqCells_t, TT]
      refine ⟨by omega, ?_⟩
      refine call_fz [.c (roB x.d x.sp x.c)] (cloneB_spec x.d x.sp x.c ox1 (by omega)) (fun t h' h => resS_noRo h) ⟨.inl ⟨rfl, rfl⟩, trivial⟩ ?_
      rintro _ _ ⟨sp', o, rfl, rfl, ho⟩
      simp (maxSteps := 4000000) only [Try.results31, ids_bsC, ren_bsC, noRo_bsC, plain_bsC, lt_bsC, ids_byte, ren_byte, noRo_byte, plain_byte, lt_byte, XX, Nat.reduceBEq, Nat.reduceLT, Nat.reduceAdd, Nat.reduceMul, Nat.reduceSub, Nat.reduceLeDiff, Nat.reduceEqDiff, Int.reduceToNat, Int.reduceLT, Int.reduceLE, Int.reduceAdd, Int.reduceSub, Int.reduceEq, reduceIte, Nat.reduceBNe, Int.reducePow, Nat.reducePow, Int.reduceMul, Int.reduceNeg, isB_i, isB_b, isB_y, isBv_i, isBv_b, eqCells_t, TT]
      have h1 := findO_hit hf hx hk
      have h2 : findD xs k = x.d := by unfold findD; rw [h1]
      rw [h1, h2]
      exact .inl ⟨1, sp', o, rfl, rfl, ho⟩
    · have dk : decide (x.k = k) = false := by simpa using hk
      simp (maxSteps := 4000000) only [Try.results31, hd, hR, dk, e3, XX, Nat.reduceBEq, Nat.reduceLT, Nat.reduceAdd, Nat.reduceMul, Nat.reduceSub, Nat.reduceLeDiff, Nat.reduceEqDiff, Int.reduceToNat, Int.reduceLT, Int.reduceLE, Int.reduceAdd, Int.reduceSub, Int.reduceEq, reduceIte, Nat.reduceBNe, Int.reducePow, Nat.reducePow, Int.reduceMul, Int.reduceNeg, isB_i, isB_b, isB_y, isBv_i, isBv_b, eqCells_t, TT]
      exact ⟨by omega, xs.length - (i + 1), by omega, _, ⟨i + 1, rfl, by omega, findO_skip hf hx hk, rfl⟩, .inr ⟨[], rfl, rfl, trivial, ⟨.inl ⟨rfl, rfl⟩, .inl ⟨rfl, rfl⟩, .inl ⟨rfl, rfl⟩, .inl ⟨rfl, rfl⟩, trivial⟩⟩⟩
  obtain rfl : i = xs.length := by omega
  have hd : decide ((xs.length : Int) < (xs.length : Int)) = false := by simp
  simp (maxSteps := 4000000) only [Try.results31, hd, XX, Nat.reduceBEq, Nat.reduceLT, Nat.reduceAdd, Nat.reduceMul, Nat.reduceSub, Nat.reduceLeDiff, Nat.reduceEqDiff, Int.reduceToNat, Int.reduceLT, Int.reduceLE, Int.reduceAdd, Int.reduceSub, Int.reduceEq, reduceIte, Nat.reduceBNe, Int.reducePow, Nat.reducePow, Int.reduceMul, Int.reduceNeg, isB_i, isB_b, isB_y, isBv_i, isBv_b, eqCells_t, TT]
  rw [List.drop_length] at hf
  have h0 : findO xs k = none := by rw [← hf]; rfl
  have h1 : findD xs k = [] := by unfold findD; rw [h0]
  rw [h0, h1]
  exact .inr ⟨rfl, rfl⟩
theorem get4_lt (l : List UInt8) (k : Nat) : get4 l k < 4294967296 := by
  have b0 := (l.getD k 0).toNat_lt
  have b1 := (l.getD (k + 1) 0).toNat_lt
  have b2 := (l.getD (k + 2) 0).toNat_lt
  have b3 := (l.getD (k + 3) 0).toNat_lt
  unfold get4
  omega
/-- One byte. -/
def smallO (xs : List OI) (k : Int) : Nat × Bool := match findO xs k with
  | some x => if x.d.length = 1 then ((x.d.getD 0 0).toNat, true) else (0, false)
  | none => (0, false)
theorem findO_mem {xs : List OI} {k : Int} {x : OI} (h : findO xs k = some x) : x ∈ xs := List.mem_of_find?_eq_some h
section
variable (xs sp : List OI) (c : Nat) (hok : ∀ x ∈ xs, x.ok) (hn : xs.length ≤ 140737488355328) (k : Int)
include hok hn
theorem small_spec : Spec cx.P 48 [.c (roO xs sp c), .c (i64 k)] [] fun s _ => s.plain = true ∧ s = .tup [(false, [i64 (smallO xs k).1]), (false, [bC (smallO xs k).2])] := by
  have F := find_spec xs sp c hok hn k
  unfold smallO
  cases hf : findO xs k
  · have h1 : findD xs k = [] := by unfold findD; rw [hf]
    rw [hf, h1] at F
    refine spec_of_X cx_ok Try.func48 rfl (by kernel_rfl) (by kernel_rfl) (Nat.le_of_ble_eq_true rfl) 400 8 ?_
    simp (maxSteps := 4000000) only [Try.results48, XX, Nat.reduceBEq, Nat.reduceLT, Nat.reduceAdd, Nat.reduceMul, Nat.reduceSub, Nat.reduceLeDiff, Nat.reduceEqDiff, Int.reduceToNat, Int.reduceLT, Int.reduceLE, Int.reduceAdd, Int.reduceSub, Int.reduceEq, reduceIte, Nat.reduceBNe, Int.reducePow, Nat.reducePow, Int.reduceMul, Int.reduceNeg, isB_i, isB_b, isB_y, isBv_i, isBv_b, eqCells_t, TT]
    refine call_fz [.c (roO xs sp c), .c (i64 k)] F (fun t h' h => resSB_noRo h) ⟨.inl ⟨rfl, rfl⟩, .inl ⟨rfl, rfl⟩, trivial⟩ ?_
    rintro _ _ ⟨sp', o, rfl, rfl, ho⟩
    simp (maxSteps := 4000000) only [Try.results48, ids_bsC, ren_bsC, noRo_bsC, plain_bsC, lt_bsC, ids_byte, ren_byte, noRo_byte, plain_byte, lt_byte, XX, Nat.reduceBEq, Nat.reduceLT, Nat.reduceAdd, Nat.reduceMul, Nat.reduceSub, Nat.reduceLeDiff, Nat.reduceEqDiff, Int.reduceToNat, Int.reduceLT, Int.reduceLE, Int.reduceAdd, Int.reduceSub, Int.reduceEq, reduceIte, Nat.reduceBNe, Int.reducePow, Nat.reducePow, Int.reduceMul, Int.reduceNeg, isB_i, isB_b, isB_y, isBv_i, isBv_b, eqCells_t, TT]
  · rename_i x
    have hx := hok x (findO_mem hf)
    have h1 : findD xs k = x.d := by unfold findD; rw [hf]
    rw [hf, h1] at F
    by_cases h4 : x.d.length = 1
    · have hd : decide ((x.d.length : Int) = 1) = true := by simp only [decide_eq_true_eq]; omega
      simp only [if_pos h4]
      refine spec_of_X cx_ok Try.func48 rfl (by kernel_rfl) (by kernel_rfl) (Nat.le_of_ble_eq_true rfl) 400 8 ?_
      simp (maxSteps := 4000000) only [Try.results48, XX, Nat.reduceBEq, Nat.reduceLT, Nat.reduceAdd, Nat.reduceMul, Nat.reduceSub, Nat.reduceLeDiff, Nat.reduceEqDiff, Int.reduceToNat, Int.reduceLT, Int.reduceLE, Int.reduceAdd, Int.reduceSub, Int.reduceEq, reduceIte, Nat.reduceBNe, Int.reducePow, Nat.reducePow, Int.reduceMul, Int.reduceNeg, isB_i, isB_b, isB_y, isBv_i, isBv_b, eqCells_t, TT]
      refine call_fz [.c (roO xs sp c), .c (i64 k)] F (fun t h' h => resSB_noRo h) ⟨.inl ⟨rfl, rfl⟩, .inl ⟨rfl, rfl⟩, trivial⟩ ?_
      rintro _ _ ⟨sp', o, rfl, rfl, ho⟩
      obtain rfl := ho (by omega)
      have g1 : (bsC (x.d ++ sp')).getD 0 .any = SC.v (.int .u8 (x.d.getD 0 0).toNat) := by
        match hd2 : x.d, h4 with
        | [y], _ => rfl
      have b0 := (x.d.getD 0 0).toNat_lt
      have e1 : IntKind.i64.wrap ((x.d.getD 0 0).toNat : Int) = ((x.d.getD 0 0).toNat : Int) := by rw [w64] <;> omega
      simp (maxSteps := 4000000) only [Try.results48, ids_bsC, ren_bsC, noRo_bsC, plain_bsC, lt_bsC, ids_byte, ren_byte, noRo_byte, plain_byte, lt_byte, hd, g1, e1, XX, Nat.reduceBEq, Nat.reduceLT, Nat.reduceAdd, Nat.reduceMul, Nat.reduceSub, Nat.reduceLeDiff, Nat.reduceEqDiff, Int.reduceToNat, Int.reduceLT, Int.reduceLE, Int.reduceAdd, Int.reduceSub, Int.reduceEq, reduceIte, Nat.reduceBNe, Int.reducePow, Nat.reducePow, Int.reduceMul, Int.reduceNeg, isB_i, isB_b, isB_y, isBv_i, isBv_b, eqCells_t, TT]
      exact ⟨by omega, by simp; omega⟩
    · have hd : decide ((x.d.length : Int) = 1) = false := by simp only [decide_eq_false_iff_not]; omega
      simp only [if_neg h4]
      refine spec_of_X cx_ok Try.func48 rfl (by kernel_rfl) (by kernel_rfl) (Nat.le_of_ble_eq_true rfl) 400 8 ?_
      simp (maxSteps := 4000000) only [Try.results48, XX, Nat.reduceBEq, Nat.reduceLT, Nat.reduceAdd, Nat.reduceMul, Nat.reduceSub, Nat.reduceLeDiff, Nat.reduceEqDiff, Int.reduceToNat, Int.reduceLT, Int.reduceLE, Int.reduceAdd, Int.reduceSub, Int.reduceEq, reduceIte, Nat.reduceBNe, Int.reducePow, Nat.reducePow, Int.reduceMul, Int.reduceNeg, isB_i, isB_b, isB_y, isBv_i, isBv_b, eqCells_t, TT]
      refine call_fz [.c (roO xs sp c), .c (i64 k)] F (fun t h' h => resSB_noRo h) ⟨.inl ⟨rfl, rfl⟩, .inl ⟨rfl, rfl⟩, trivial⟩ ?_
      rintro _ _ ⟨sp', o, rfl, rfl, ho⟩
      simp (maxSteps := 4000000) only [Try.results48, ids_bsC, ren_bsC, noRo_bsC, plain_bsC, lt_bsC, ids_byte, ren_byte, noRo_byte, plain_byte, lt_byte, hd, XX, Nat.reduceBEq, Nat.reduceLT, Nat.reduceAdd, Nat.reduceMul, Nat.reduceSub, Nat.reduceLeDiff, Nat.reduceEqDiff, Int.reduceToNat, Int.reduceLT, Int.reduceLE, Int.reduceAdd, Int.reduceSub, Int.reduceEq, reduceIte, Nat.reduceBNe, Int.reducePow, Nat.reducePow, Int.reduceMul, Int.reduceNeg, isB_i, isB_b, isB_y, isBv_i, isBv_b, eqCells_t, TT]
end
end Go.Proofs.Ytgegddefcgfhgaa.Sx
namespace Go.Proofs.Ytgegddefcgfhgaa.Sx
open Go
set_option linter.unusedSimpArgs false
set_option linter.unusedVariables false
set_option maxRecDepth 10000
set_option maxHeartbeats 2000000
def pieceL (d : List UInt8) (j : Nat) : List UInt8 := (d.drop (255 * j)).take 255
def encN (b : UInt8) (d : List UInt8) : Nat → List UInt8
  | 0 => []
  | j + 1 => encN b d j ++ (b :: UInt8.ofNat (min 255 (d.length - 255 * j)) :: pieceL d j)
def encO (x : OI) : List UInt8 := encN (UInt8.ofInt x.k) x.d (pcs x.d.length)
def encAll (xs : List OI) : List UInt8 := xs.flatMap encO
def szO (xs : List OI) : Nat := (xs.map fun x => x.d.length + 2 * pcs x.d.length).sum
def totO (xs : List OI) : Nat := (xs.map fun x => x.d.length + 1).sum
theorem pieceL_len (d : List UInt8) (j : Nat) : (pieceL d j).length = min 255 (d.length - 255 * j) := by simp [pieceL]
theorem encN_len (b : UInt8) (d : List UInt8) : ∀ j, (encN b d j).length = 2 * j + min (255 * j) d.length
  | 0 => by simp [encN]
  | j + 1 => by
    simp only [encN, List.length_append, List.length_cons, pieceL_len, encN_len b d j]
    omega
theorem pcs_le {n j : Nat} (h : 255 * j < n ∨ j = 0) : j + 1 ≤ pcs n := by unfold pcs; omega
theorem pcs_full (n : Nat) : n ≤ 255 * pcs n := by unfold pcs; omega
theorem pcs_bound (n : Nat) : pcs n ≤ n + 1 := by unfold pcs; omega
theorem encO_len (x : OI) : (encO x).length = x.d.length + 2 * pcs x.d.length := by
  unfold encO
  rw [encN_len]
  have := pcs_full x.d.length
  omega
theorem encAll_len : ∀ xs : List OI, (encAll xs).length = szO xs
  | [] => rfl
  | x :: xs => by
    have := encAll_len xs
    simp only [encAll, szO, List.flatMap_cons, List.length_append, encO_len, List.map_cons, List.sum_cons] at this ⊢
    omega
theorem szO_le : ∀ xs : List OI, szO xs ≤ 3 * totO xs
  | [] => by simp [szO]
  | x :: xs => by
    have := szO_le xs
    have := pcs_bound x.d.length
    simp only [szO, totO, List.map_cons, List.sum_cons] at *
    omega
theorem totO_len : ∀ xs : List OI, xs.length ≤ totO xs
  | [] => Nat.zero_le _
  | x :: xs => by
    have := totO_len xs
    simp only [totO, List.map_cons, List.sum_cons, List.length_cons] at *
    omega
theorem szO_app (a b : List OI) : szO (a ++ b) = szO a + szO b := by simp [szO]
theorem take_nextO {xs : List OI} {i : Nat} {x : OI} (h : xs[i]? = some x) : xs.take (i + 1) = xs.take i ++ [x] := by
  obtain ⟨hi, rfl⟩ := List.getElem?_eq_some_iff.1 h
  exact (List.take_append_getElem hi).symm
theorem szO_next {xs : List OI} {i : Nat} {x : OI} (h : xs[i]? = some x) : szO (xs.take (i + 1)) = szO (xs.take i) + (x.d.length + 2 * pcs x.d.length) := by
  rw [take_nextO h, szO_app]; simp [szO]
theorem encAll_next {xs : List OI} {i : Nat} {x : OI} (h : xs[i]? = some x) : encAll (xs.take (i + 1)) = encAll (xs.take i) ++ encO x := by
  rw [take_nextO h]; simp [encAll]
theorem szO_take_le (xs : List OI) (i : Nat) : szO (xs.take i) ≤ szO xs := by
  conv => rhs; rw [← List.take_append_drop i xs]
  rw [szO_app]; omega
theorem mem_tot {xs : List OI} {x : OI} (h : x ∈ xs) : x.d.length + 1 ≤ totO xs := by
  obtain ⟨a, b, rfl⟩ := List.append_of_mem h
  simp [totO]; omega
theorem ceil_pcs (n : Nat) : (if (1 : Int) > ((n + 254) / 255 : Nat) then (1 : Int) else ((n + 254) / 255 : Nat)) = (pcs n : Nat) := by
  unfold pcs
  split <;> omega
def BadAt (xs : List OI) (i : Nat) (x : OI) : Prop := x.k ≤ 0 ∨ 255 ≤ x.k ∨ ∃ y ∈ xs.take i, y.k = x.k
def Bad (xs : List OI) : Prop := ∃ i x, xs[i]? = some x ∧ BadAt xs i x
def seenF (xs : List OI) (n : Nat) : Bool := xs.any fun x => decide (x.k = (n : Int))
def seenC (s : Nat → Bool) : List SC := (List.range 255).map fun n => bC (s n)
theorem seenC_len (s : Nat → Bool) : (seenC s).length = 255 := by simp [seenC]
theorem seenC_zero : List.replicate 255 (SC.v (.bool false)) = seenC (seenF []) := by
  unfold seenC seenF
  apply List.ext_getElem?
  intro i
  simp only [List.getElem?_replicate, List.getElem?_map, List.any_nil]
  by_cases h : i < 255
  · rw [if_pos h, List.getElem?_range h]; rfl
  · rw [if_neg h, List.getElem?_eq_none (by simp; omega)]; rfl
theorem seenC_at (s : Nat → Bool) {n : Nat} (h : n < 255) : (seenC s).getD n .any = bC (s n) := by
  unfold seenC
  rw [List.getD_eq_getElem?_getD, List.getElem?_map, List.getElem?_range h]; rfl
theorem seenC_set (xs : List OI) {x : OI} {n : Nat} (hx : x.k = (n : Int)) (h : n < 255) : (seenC (seenF xs)).take n ++ [SC.v (.bool true)] ++ (seenC (seenF xs)).drop (n + 1) = seenC (seenF (xs ++ [x])) := by
  have e : (seenC (seenF xs)).take n ++ [SC.v (.bool true)] ++ (seenC (seenF xs)).drop (n + 1) = (seenC (seenF xs)).set n (.v (.bool true)) := by
    rw [List.set_eq_take_append_cons_drop, if_pos (by rw [seenC_len]; exact h), List.append_assoc]; rfl
  rw [e]
  apply List.ext_getElem?
  intro i
  by_cases hi : n = i
  · subst hi
    rw [List.getElem?_set_self (by rw [seenC_len]; exact h)]
    unfold seenC seenF
    rw [List.getElem?_map, List.getElem?_range h]
    simp [hx]
  · rw [List.getElem?_set_ne hi]
    unfold seenC seenF
    by_cases h' : i < 255
    · rw [List.getElem?_map, List.getElem?_map, List.getElem?_range h']
      have : decide (x.k = (i : Int)) = false := by simp only [decide_eq_false_iff_not]; omega
      simp [this]
    · rw [List.getElem?_eq_none (by simp; omega), List.getElem?_eq_none (by simp; omega)]
theorem seenC_mem {s : Nat → Bool} {x : SC} (h : x ∈ seenC s) : ∃ b, x = bC b := by
  simp only [seenC, List.mem_map] at h
  obtain ⟨n, _, rfl⟩ := h
  exact ⟨_, rfl⟩
theorem seenC_ids (p : Nat → Bool) (s : Nat → Bool) : (seenC s).all (SC.ids p) = true := by
  rw [List.all_eq_true]; intro x hx; obtain ⟨b, rfl⟩ := seenC_mem hx; rfl
theorem seenC_ren (r : Nat → Nat) (s : Nat → Bool) : (seenC s).map (SC.ren r) = seenC s := by
  conv => rhs; rw [← List.map_id (seenC s)]
  exact List.map_congr_left fun x hx => by obtain ⟨b, rfl⟩ := seenC_mem hx; rfl
theorem seenF_iff {xs : List OI} {i : Nat} {x : OI} {n : Nat} (hx : x.k = (n : Int)) : seenF (xs.take i) n = true ↔ ∃ y ∈ xs.take i, y.k = x.k := by
  unfold seenF
  rw [List.any_eq_true]
  simp only [decide_eq_true_eq, hx]
open Classical in
/-- What packing comes to: the bytes, the error. -/
noncomputable def packF (xs : List OI) (room : Int) : List UInt8 × Int :=
  if Bad xs then ([], 150) else if 64 < xs.length then ([], 2) else if room < 1 + (szO xs : Int) then ([], 2) else (encAll xs ++ [255], 0)
end Go.Proofs.Ytgegddefcgfhgaa.Sx
namespace Go.Proofs.Ytgegddefcgfhgaa.Sx
open Go
set_option linter.unusedSimpArgs false
set_option linter.unusedVariables false
set_option maxRecDepth 10000
set_option maxHeartbeats 4000000
abbrev seenB (s : Nat → Bool) : SB := ⟨true, 103, seenC s⟩
theorem pieces_spec (d sp : List UInt8) (c : Nat) : Spec cx.P 77 [.c (roB d sp c)] [] fun t h' => t = .c (.fn 90 [(0, 0)]) ∧ h' = [boxB d sp c 0] := by
  have e0 : (#[] : Array Operand).size = 0 := rfl
  refine spec_of_X cx_ok Try.func77 rfl (by kernel_rfl) (by kernel_rfl) (Nat.le_of_ble_eq_true rfl) 400 3 ?_
  simp (maxSteps := 4000000) only [Try.results77, XX, Nat.reduceBEq, Nat.reduceLT, Nat.reduceAdd, Nat.reduceMul, Nat.reduceSub, Nat.reduceLeDiff, Nat.reduceEqDiff, Int.reduceToNat, Int.reduceLT, Int.reduceLE, Int.reduceAdd, Int.reduceSub, Int.reduceEq, reduceIte, Nat.reduceBNe, Int.reducePow, Nat.reducePow, Int.reduceMul, Int.reduceNeg, isB_i, isB_b, isB_y, isBv_i, isBv_b, eqCells_t, TT]
  simp (maxSteps := 4000000) only [Try.results77, e0, XX, Nat.reduceBEq, Nat.reduceLT, Nat.reduceAdd, Nat.reduceMul, Nat.reduceSub, Nat.reduceLeDiff, Nat.reduceEqDiff, Int.reduceToNat, Int.reduceLT, Int.reduceLE, Int.reduceAdd, Int.reduceSub, Int.reduceEq, reduceIte, Nat.reduceBNe, Int.reducePow, Nat.reducePow, Int.reduceMul, Int.reduceNeg, isB_i, isB_b, isB_y, isBv_i, isBv_b, eqCells_t, TT]
  unfold boxB boxC
  rfl
theorem resBN_of {P : Program} {f : FuncId} {args : List SV} {l : List UInt8} {e : Int} (s : Spec P f args [] fun s h' => (∃ w sp o, s = .tup [(false, [slB w l sp]), (false, [i64 e])] ∧ Buf h' w o l sp) ∨ (l = [] ∧ s = .tup [(false, [.v (.slice none 0 0)]), (false, [i64 e])])) : Spec P f args [] (resB l e) :=
  s.wk fun t h' h => h.elim (fun ⟨w, sp, o, h1, B⟩ => ⟨.tup [(false, [slB 0 l sp]), (false, [i64 e])], [wB o (l ++ sp)], [some w], rfl, by simp only [XX, Nat.reduceBEq, Nat.reduceLT, Nat.reduceAdd, Nat.reduceMul, Nat.reduceSub, Nat.reduceLeDiff, Nat.reduceEqDiff, Int.reduceToNat, Int.reduceLT, Int.reduceLE, Int.reduceAdd, Int.reduceSub, Int.reduceEq, reduceIte, Nat.reduceBNe, Int.reducePow, Nat.reducePow, Int.reduceMul, Int.reduceNeg, isB_i, isB_b, isB_y, isBv_i, isBv_b, eqCells_t, TT, ids_bsC, ren_bsC, noRo_bsC, plain_bsC, lt_bsC, ids_byte, ren_byte, noRo_byte, plain_byte, lt_byte, B.at_], by subst h1; simp only [XX, Nat.reduceBEq, Nat.reduceLT, Nat.reduceAdd, Nat.reduceMul, Nat.reduceSub, Nat.reduceLeDiff, Nat.reduceEqDiff, Int.reduceToNat, Int.reduceLT, Int.reduceLE, Int.reduceAdd, Int.reduceSub, Int.reduceEq, reduceIte, Nat.reduceBNe, Int.reducePow, Nat.reducePow, Int.reduceMul, Int.reduceNeg, isB_i, isB_b, isB_y, isBv_i, isBv_b, eqCells_t, TT, ids_bsC, ren_bsC, noRo_bsC, plain_bsC, lt_bsC, ids_byte, ren_byte, noRo_byte, plain_byte, lt_byte], sp, o, rfl, rfl, B.own⟩)
    fun ⟨h0, h1⟩ => ⟨.tup [(false, [slB 0 [] []]), (false, [i64 e])], [wB false ([] ++ [])], [none], rfl, by simp only [XX, Nat.reduceBEq, Nat.reduceLT, Nat.reduceAdd, Nat.reduceMul, Nat.reduceSub, Nat.reduceLeDiff, Nat.reduceEqDiff, Int.reduceToNat, Int.reduceLT, Int.reduceLE, Int.reduceAdd, Int.reduceSub, Int.reduceEq, reduceIte, Nat.reduceBNe, Int.reducePow, Nat.reducePow, Int.reduceMul, Int.reduceNeg, isB_i, isB_b, isB_y, isBv_i, isBv_b, eqCells_t, TT, List.map_nil], by subst h1; exact .inr ⟨rfl, ⟨.inr (.inr ⟨_, _, rfl, .inl rfl⟩), trivial⟩, rfl, ⟨.inl ⟨rfl, rfl⟩, trivial⟩, trivial⟩, [], false, by rw [h0], by rw [h0], fun h => absurd h (by simp [h0])⟩
theorem packF_bad {xs : List OI} {room : Int} (h : Bad xs) : packF xs room = ([], 150) := by unfold packF; rw [if_pos h]
theorem packF_many {xs : List OI} {room : Int} (h : ¬ Bad xs) (h1 : 64 < xs.length) : packF xs room = ([], 2) := by unfold packF; rw [if_neg h, if_pos h1]
theorem packF_long {xs : List OI} {room : Int} (h : ¬ Bad xs) (h1 : ¬ 64 < xs.length) (h2 : room < 1 + (szO xs : Int)) : packF xs room = ([], 2) := by unfold packF; rw [if_neg h, if_neg h1, if_pos h2]
theorem packF_ok {xs : List OI} {room : Int} (h : ¬ Bad xs) (h1 : ¬ 64 < xs.length) (h2 : ¬ room < 1 + (szO xs : Int)) : packF xs room = (encAll xs ++ [255], 0) := by unfold packF; rw [if_neg h, if_neg h1, if_neg h2]
theorem pickE_any {p q r : Prop} {t : Bool} {x : SV} : pickE (some (p, .c (.v (.bool t)))) (some (q, x)) (some (r, .c .any)) = .val (p ∧ t = true ∧ q) x := by
  cases x with
  | c y => cases y with
    | v z => cases z <;> rfl
    | _ => rfl
  | _ => rfl
abbrev bufB (S : Nat) (l : List UInt8) : SB := wB true (l ++ List.replicate (S - l.length) 0)
abbrev lenB (S n : Nat) : SB := ⟨true, 22, [.sl 0 0 n S]⟩
theorem boxB_ren {r : Nat → Nat} {d sp : List UInt8} {c j : Nat} : (boxB d sp c j).ren r = boxB d sp c j := rfl
theorem range_sub {P : Program} {f : Operand} {ps : Array Tmp} {asg body : Code} {k : List KI} {σ τ : St} {Q : XE → St → Prop} (h : Sub σ τ) (g : RangeGoal P f ps asg body k τ Q) : RangeGoal P f ps asg body k σ Q := fun e a w c hk S => g e a w c hk (S.sub h)
theorem buf_room {S : Nat} {l news : List UInt8} {n m : Nat} (hn : l.length = n) (hm : news.length = m) : (bsC (l ++ List.replicate (S - n) 0)).take n ++ (bsC news ++ (bsC (l ++ List.replicate (S - n) 0)).drop (n + m)) = bsC ((l ++ news) ++ List.replicate (S - (n + m)) 0) := by
  rw [cellsB_app hn hm, List.drop_replicate, show S - n - m = S - (n + m) by omega]
theorem u8_ofInt_nat (m : Nat) : UInt8.ofInt (m : Int) = UInt8.ofNat m := by
  have h := (byteC_of (m : Int)).symm.trans (byteC_n m)
  have := congrArg byteOf h
  rwa [byteOf_byteC, byteOf_byteC] at this
theorem pack_big (xs sp : List OI) (c : Nat) (hok : ∀ x ∈ xs, x.ok) (room : Int) (hT : totO xs ≤ 8589934592 ∨ (totO xs ≤ 281474976776192 ∧ room ≤ 8589934592)) : Spec cx.P 39 [.c (roO xs sp c), .c (i64 room)] [] (resB (packF xs room).1 (packF xs room).2) := by
  have hn := totO_len xs
  have hsz := szO_le xs
  refine resBN_of ?_
  refine spec_of_X cx_ok Try.func39 rfl (by kernel_rfl) (by kernel_rfl) (Nat.le_of_ble_eq_true rfl) 400 72 ?_
  simp (maxSteps := 4000000) only [Try.results39, XX, Nat.reduceBEq, Nat.reduceLT, Nat.reduceAdd, Nat.reduceMul, Nat.reduceSub, Nat.reduceLeDiff, Nat.reduceEqDiff, Int.reduceToNat, Int.reduceLT, Int.reduceLE, Int.reduceAdd, Int.reduceSub, Int.reduceEq, reduceIte, Nat.reduceBNe, Int.reducePow, Nat.reducePow, Int.reduceMul, Int.reduceNeg, isB_i, isB_b, isB_y, isBv_i, isBv_b, eqCells_t, TT]
  rw [List.map_replicate, seenC_zero]
  refine loop_any cx_ok 400 (fun μ σ => ∃ i : Nat, μ = xs.length - i ∧ i ≤ xs.length ∧ (∀ (j : Nat) (x : OI), j < i → xs[j]? = some x → ¬ BadAt xs j x) ∧
      σ = ⟨⟨72, 0⟩, [(0, .c (roO xs sp c)), (1, .c (i64 room)), (6, .c (.ptr 0 0)), (7, .c (i64 (1 + szO (xs.take i) : Nat))), (14, .c (roO xs sp c)), (15, .c (i64 xs.length)), (16, .c (i64 i))], [seenB (seenF (xs.take i))]⟩) xs.length
    ⟨⟨72, 0⟩, [(0, .c (roO xs sp c)), (1, .c (i64 room)), (6, .c (.ptr 0 0)), (7, .c (i64 (1 + szO (xs.take 0) : Nat))), (14, .c (roO xs sp c)), (15, .c (i64 xs.length)), (16, .c (i64 (0 : Nat)))], [seenB (seenF (xs.take 0))]⟩ ⟨0, rfl, Nat.zero_le _, fun j x h => absurd h (by omega), rfl⟩ (.inl ⟨rfl, rfl, rfl, rfl, rfl, rfl, rfl, rfl, rfl, trivial⟩) ?_
  rintro μ σ ⟨i, rfl, hi, hnb, rfl⟩
  by_cases hlt : i < xs.length
  · have hd : decide ((i : Int) < (xs.length : Int)) = true := by simp only [decide_eq_true_eq]; omega
    have e3 : IntKind.i64.wrap ((i : Int) + 1) = ((i + 1 : Nat) : Int) := by rw [w64] <;> omega
    obtain ⟨x, hx⟩ : ∃ x, xs[i]? = some x := ⟨_, List.getElem?_eq_getElem hlt⟩
    obtain ⟨R, hR⟩ := osR_at (sp := sp) hx
    obtain ⟨ox1, ox2, ox3⟩ := hok x (List.mem_of_getElem? hx)
    have hxt := mem_tot (List.mem_of_getElem? hx)
    by_cases k1 : x.k ≤ 0
    · have d1 : decide (x.k ≤ 0) = true := by simpa using k1
      have hg : (seenC (seenF (xs.take i))).getD x.k.toNat .any = bC (seenF (xs.take i) 0) := by
        rw [show x.k.toNat = 0 by omega]; exact seenC_at _ (by omega)
      rw [packF_bad (room := room) ⟨i, x, hx, .inl k1⟩]
      simp (maxSteps := 4000000) only [Try.results39, hd, hR, d1, hg, XX, Nat.reduceBEq, Nat.reduceLT, Nat.reduceAdd, Nat.reduceMul, Nat.reduceSub, Nat.reduceLeDiff, Nat.reduceEqDiff, Int.reduceToNat, Int.reduceLT, Int.reduceLE, Int.reduceAdd, Int.reduceSub, Int.reduceEq, reduceIte, Nat.reduceBNe, Int.reducePow, Nat.reducePow, Int.reduceMul, Int.reduceNeg, isB_i, isB_b, isB_y, isBv_i, isBv_b, eqCells_t, TT]
      exact ⟨by omega, by omega⟩
    have d1 : decide (x.k ≤ 0) = false := by simpa using k1
    by_cases k2 : 255 ≤ x.k
    · have d2 : decide ((255 : Int) ≤ x.k) = true := by simpa using k2
      have hg : (seenC (seenF (xs.take i))).getD x.k.toNat .any = SC.any := by
        rw [List.getD_eq_getElem?_getD, List.getElem?_eq_none (by rw [seenC_len]; omega)]; rfl
      rw [packF_bad (room := room) ⟨i, x, hx, .inr (.inl k2)⟩]
      simp (maxSteps := 4000000) only [Try.results39, hd, hR, d1, d2, hg, pickE_any, XX, Nat.reduceBEq, Nat.reduceLT, Nat.reduceAdd, Nat.reduceMul, Nat.reduceSub, Nat.reduceLeDiff, Nat.reduceEqDiff, Int.reduceToNat, Int.reduceLT, Int.reduceLE, Int.reduceAdd, Int.reduceSub, Int.reduceEq, reduceIte, Nat.reduceBNe, Int.reducePow, Nat.reducePow, Int.reduceMul, Int.reduceNeg, isB_i, isB_b, isB_y, isBv_i, isBv_b, eqCells_t, TT]
      exact ⟨by omega, by omega⟩
    have d2 : decide ((255 : Int) ≤ x.k) = false := by simpa using k2
    obtain ⟨m, hm⟩ : ∃ m : Nat, x.k = m := ⟨x.k.toNat, by omega⟩
    have hm2 : m < 255 := by omega
    have hg := seenC_at (seenF (xs.take i)) hm2
    rw [hm] at hR d1 d2
    by_cases k3 : seenF (xs.take i) m = true
    · rw [k3] at hg
      rw [packF_bad (room := room) ⟨i, x, hx, .inr (.inr ((seenF_iff hm).1 k3))⟩]
      simp (maxSteps := 4000000) only [Try.results39, hd, hR, d1, d2, hg, seenC_len, hm2, XX, Nat.reduceBEq, Nat.reduceLT, Nat.reduceAdd, Nat.reduceMul, Nat.reduceSub, Nat.reduceLeDiff, Nat.reduceEqDiff, Int.reduceToNat, Int.reduceLT, Int.reduceLE, Int.reduceAdd, Int.reduceSub, Int.reduceEq, reduceIte, Nat.reduceBNe, Int.reducePow, Nat.reducePow, Int.reduceMul, Int.reduceNeg, isB_i, isB_b, isB_y, isBv_i, isBv_b, eqCells_t, TT]
      exact ⟨by omega, by omega⟩
    have k3' : seenF (xs.take i) m = false := by simpa using k3
    rw [k3'] at hg
    have e4 : IntKind.i64.wrap ((x.d.length : Int) + 255) = ((x.d.length + 255 : Nat) : Int) := by rw [w64] <;> omega
    have e5 : IntKind.i64.wrap (((x.d.length + 255 : Nat) : Int) - 1) = ((x.d.length + 254 : Nat) : Int) := by rw [w64] <;> omega
    have e6 : IntKind.i64.wrap ((((x.d.length + 254 : Nat) : Int)).tdiv 255) = (((x.d.length + 254) / 255 : Nat) : Int) := by rw [show (((x.d.length + 254 : Nat) : Int)).tdiv 255 = (((x.d.length + 254) / 255 : Nat) : Int) from rfl, w64] <;> omega
    have hp := pcs_bound x.d.length
    have e7 : IntKind.i64.wrap (2 * (pcs x.d.length : Int)) = ((2 * pcs x.d.length : Nat) : Int) := by rw [w64] <;> omega
    have e8 : IntKind.i64.wrap ((x.d.length : Int) + ((2 * pcs x.d.length : Nat) : Int)) = ((x.d.length + 2 * pcs x.d.length : Nat) : Int) := by rw [w64] <;> omega
    have hle := szO_take_le xs i
    have e9 : IntKind.i64.wrap (((1 + szO (xs.take i) : Nat) : Int) + ((x.d.length + 2 * pcs x.d.length : Nat) : Int)) = ((1 + szO (xs.take (i + 1)) : Nat) : Int) := by rw [szO_next hx, w64] <;> omega
    simp (maxSteps := 4000000) only [Try.results39, hd, hR, d1, d2, hg, seenC_len, hm2, e3, e4, e5, e6, ceil_pcs, e7, e8, e9, XX, Nat.reduceBEq, Nat.reduceLT, Nat.reduceAdd, Nat.reduceMul, Nat.reduceSub, Nat.reduceLeDiff, Nat.reduceEqDiff, Int.reduceToNat, Int.reduceLT, Int.reduceLE, Int.reduceAdd, Int.reduceSub, Int.reduceEq, reduceIte, Nat.reduceBNe, Int.reducePow, Nat.reducePow, Int.reduceMul, Int.reduceNeg, isB_i, isB_b, isB_y, isBv_i, isBv_b, eqCells_t, TT]
    have hs := seenC_set (xs.take i) hm hm2
    rw [← take_nextO hx] at hs
    rw [hs]
    refine ⟨by omega, by omega, by omega, by omega, xs.length - (i + 1), by omega, _, ⟨i + 1, rfl, by omega, fun j y hj hy => ?_, rfl⟩, .inr ⟨[some 0], rfl, rfl, ⟨⟨.inl ⟨seenC_ids _ _, (seenC_ren _ _).symm⟩, fun _ => ⟨rfl, rfl⟩⟩, trivial⟩, ⟨.inl ⟨rfl, rfl⟩, .inl ⟨rfl, rfl⟩, .inl ⟨rfl, rfl⟩, .inl ⟨rfl, rfl⟩, .inl ⟨rfl, rfl⟩, .inl ⟨rfl, rfl⟩, .inl ⟨rfl, rfl⟩, trivial⟩⟩⟩
    by_cases hji : j < i
    · exact hnb j y hji hy
    · obtain rfl : j = i := by omega
      rw [hx] at hy
      cases hy
      rintro (h | h | h)
      · exact k1 h
      · exact k2 h
      · exact k3 ((seenF_iff hm).2 h)
  obtain rfl : i = xs.length := by omega
  have hd : decide ((xs.length : Int) < (xs.length : Int)) = false := by simp
  rw [List.take_length]
  have hbad : ¬ Bad xs := fun ⟨j, x, hx, hb⟩ => hnb j x (List.getElem?_eq_some_iff.1 hx).1 hx hb
  by_cases q1 : 64 < xs.length
  · have d1 : decide ((64 : Int) < (xs.length : Int)) = true := by simp only [decide_eq_true_eq]; omega
    rw [packF_many hbad q1]
    simp (maxSteps := 4000000) only [Try.results39, hd, d1, XX, Nat.reduceBEq, Nat.reduceLT, Nat.reduceAdd, Nat.reduceMul, Nat.reduceSub, Nat.reduceLeDiff, Nat.reduceEqDiff, Int.reduceToNat, Int.reduceLT, Int.reduceLE, Int.reduceAdd, Int.reduceSub, Int.reduceEq, reduceIte, Nat.reduceBNe, Int.reducePow, Nat.reducePow, Int.reduceMul, Int.reduceNeg, isB_i, isB_b, isB_y, isBv_i, isBv_b, eqCells_t, TT]
  have d1 : decide ((64 : Int) < (xs.length : Int)) = false := by simp only [decide_eq_false_iff_not]; omega
  by_cases q2 : room < 1 + (szO xs : Int)
  · have d2 : decide (room < ((1 + szO xs : Nat) : Int)) = true := by simp only [decide_eq_true_eq]; omega
    rw [packF_long hbad q1 q2]
    simp (maxSteps := 4000000) only [Try.results39, hd, d1, d2, XX, Nat.reduceBEq, Nat.reduceLT, Nat.reduceAdd, Nat.reduceMul, Nat.reduceSub, Nat.reduceLeDiff, Nat.reduceEqDiff, Int.reduceToNat, Int.reduceLT, Int.reduceLE, Int.reduceAdd, Int.reduceSub, Int.reduceEq, reduceIte, Nat.reduceBNe, Int.reducePow, Nat.reducePow, Int.reduceMul, Int.reduceNeg, isB_i, isB_b, isB_y, isBv_i, isBv_b, eqCells_t, TT]
  have d2 : decide (room < ((1 + szO xs : Nat) : Int)) = false := by simp only [decide_eq_false_iff_not]; omega
  rw [packF_ok hbad q1 q2]
  simp (maxSteps := 4000000) only [Try.results39, hd, d1, d2, XX, Nat.reduceBEq, Nat.reduceLT, Nat.reduceAdd, Nat.reduceMul, Nat.reduceSub, Nat.reduceLeDiff, Nat.reduceEqDiff, Int.reduceToNat, Int.reduceLT, Int.reduceLE, Int.reduceAdd, Int.reduceSub, Int.reduceEq, reduceIte, Nat.reduceBNe, Int.reducePow, Nat.reducePow, Int.reduceMul, Int.reduceNeg, isB_i, isB_b, isB_y, isBv_i, isBv_b, eqCells_t, TT]
  refine ⟨by omega, ?_⟩
  refine loop_any cx_ok 400 (fun μ σ => ∃ i : Nat, μ = xs.length - i ∧ i ≤ xs.length ∧
      σ = ⟨⟨72, 0⟩, [(0, .c (roO xs sp c)), (10, .c (.ptr 1 0)), (62, .c (roO xs sp c)), (63, .c (i64 xs.length)), (64, .c (i64 i))], [bufB (1 + szO xs) (encAll (xs.take i)), lenB (1 + szO xs) (encAll (xs.take i)).length]⟩) xs.length
    ⟨⟨72, 0⟩, [(0, .c (roO xs sp c)), (10, .c (.ptr 1 0)), (62, .c (roO xs sp c)), (63, .c (i64 xs.length)), (64, .c (i64 (0 : Nat)))], [bufB (1 + szO xs) [], lenB (1 + szO xs) 0]⟩ ⟨0, rfl, Nat.zero_le _, by rw [List.take_zero]; rfl⟩
    (.inr ⟨[some 1, some 2], rfl, rfl, ⟨⟨.inl ⟨ids_bsC _ _, by rw [ren_bsC]; exact zeros_flat _⟩, fun _ => ⟨rfl, rfl⟩⟩, ⟨.inl ⟨rfl, rfl⟩, fun _ => ⟨rfl, rfl⟩⟩, trivial⟩, ⟨.inl ⟨rfl, rfl⟩, .inl ⟨rfl, rfl⟩, .inl ⟨rfl, rfl⟩, .inl ⟨rfl, rfl⟩, .inl ⟨rfl, rfl⟩, trivial⟩⟩) ?_
  clear hd d1 d2 hnb hlt hi
  rintro μ σ ⟨i, rfl, hi, rfl⟩
  by_cases hlt : i < xs.length
  · have hd : decide ((i : Int) < (xs.length : Int)) = true := by simp only [decide_eq_true_eq]; omega
    have e3 : IntKind.i64.wrap ((i : Int) + 1) = ((i + 1 : Nat) : Int) := by rw [w64] <;> omega
    obtain ⟨x, hx⟩ : ∃ x, xs[i]? = some x := ⟨_, List.getElem?_eq_getElem hlt⟩
    obtain ⟨R, hR⟩ := osR_at (sp := sp) hx
    obtain ⟨ox1, ox2, ox3⟩ := hok x (List.mem_of_getElem? hx)
    simp (maxSteps := 4000000) only [Try.results39, hd, hR, XX, Nat.reduceBEq, Nat.reduceLT, Nat.reduceAdd, Nat.reduceMul, Nat.reduceSub, Nat.reduceLeDiff, Nat.reduceEqDiff, Int.reduceToNat, Int.reduceLT, Int.reduceLE, Int.reduceAdd, Int.reduceSub, Int.reduceEq, reduceIte, Nat.reduceBNe, Int.reducePow, Nat.reducePow, Int.reduceMul, Int.reduceNeg, isB_i, isB_b, isB_y, isBv_i, isBv_b, eqCells_t, TT]
    refine ⟨by omega, ?_⟩
    refine call_frame (pieces_spec x.d x.sp x.c) [] rfl rfl trivial rfl rfl ?_
    rintro _ _ ⟨rfl, rfl⟩
    simp (maxSteps := 4000000) only [Try.results39, ids_bsC, ren_bsC, noRo_bsC, plain_bsC, lt_bsC, ids_byte, ren_byte, noRo_byte, plain_byte, lt_byte, boxB_ren, X_rf, XX, Nat.reduceBEq, Nat.reduceLT, Nat.reduceAdd, Nat.reduceMul, Nat.reduceSub, Nat.reduceLeDiff, Nat.reduceEqDiff, Int.reduceToNat, Int.reduceLT, Int.reduceLE, Int.reduceAdd, Int.reduceSub, Int.reduceEq, reduceIte, Nat.reduceBNe, Int.reducePow, Nat.reducePow, Int.reduceMul, Int.reduceNeg, isB_i, isB_b, isB_y, isBv_i, isBv_b, eqCells_t, TT]
    have hsl := szO_take_le xs (i + 1)
    rw [szO_next hx] at hsl
    have hel : (encAll (xs.take i)).length = szO (xs.take i) := encAll_len _
    obtain ⟨pre, hpre⟩ : ∃ pre, pre = encAll (xs.take i) := ⟨_, rfl⟩
    rw [← hpre] at hel ⊢
    obtain ⟨S, hS⟩ : ∃ S, S = 1 + szO xs := ⟨_, rfl⟩
    rw [← hS]
    refine range_sub (τ := ⟨⟨72, 0⟩, [(0, .c (roO xs sp c)), (10, .c (.ptr 1 0)), (12, .c (.ptr 2 0)), (62, .c (roO xs sp c)), (63, .c (i64 xs.length)), (64, .c (i64 i)), (70, .c (.fn 90 [(3, 0)]))], _⟩) ⟨rfl, rfl, rfl, rfl, rfl, rfl, rfl, rfl, rfl, trivial⟩ ?_
    refine range_pieces (bx := 3) (d := x.d) (sp := x.sp) (c := x.c) (Bi := fun j hp => hp[0]? = some (bufB S (pre ++ encN (UInt8.ofInt x.k) x.d j)) ∧ hp[1]? = some (lenB S (pre ++ encN (UInt8.ofInt x.k) x.d j).length) ∧ hp[2]? = some ⟨true, 74, [i64 x.k, roB x.d x.sp x.c]⟩) 88 400 400 400 rfl rfl ox1 ⟨by rw [show encN (UInt8.ofInt x.k) x.d 0 = [] from rfl, List.append_nil]; rfl, by rw [show encN (UInt8.ofInt x.k) x.d 0 = [] from rfl, List.append_nil]; rfl, rfl⟩ (fun j hp y ⟨h0, h1, h2⟩ => ⟨by rw [List.getElem?_set_ne (by omega)]; exact h0, by rw [List.getElem?_set_ne (by omega)]; exact h1, by rw [List.getElem?_set_ne (by omega)]; exact h2⟩) rfl rfl ?_ ?_
    · rintro j hp ⟨b0, b1, b2⟩ b3 hj
      have l0 := lt_of b0
      have l1 := lt_of b1
      have l2 := lt_of b2
      have l3 := lt_of b3
      have hjp := pcs_le hj
      have hen := encN_len (UInt8.ofInt x.k) x.d j
      have hen2 := encN_len (UInt8.ofInt x.k) x.d (j + 1)
      have hen3 := encN_len (UInt8.ofInt x.k) x.d (pcs x.d.length)
      have hpf := pcs_full x.d.length
      refine ⟨fun σ => σ = ⟨⟨88, hp.length⟩, [(0, .c (roO xs sp c)), (10, .c (.ptr 1 0)), (12, .c (.ptr 2 0)), (62, .c (roO xs sp c)), (63, .c (i64 xs.length)), (64, .c (i64 i)), (70, .c (.fn 90 [(3, 0)])), (71, .c (pieceC x.d x.sp x.c j)), (13, .c (pieceC x.d x.sp x.c j))], hp⟩, ?_, fun σ' h => by rw [h]; exact ⟨rfl, rfl⟩, ?_⟩
      · simp (maxSteps := 4000000) only [Try.results39, XX, Nat.reduceBEq, Nat.reduceLT, Nat.reduceAdd, Nat.reduceMul, Nat.reduceSub, Nat.reduceLeDiff, Nat.reduceEqDiff, Int.reduceToNat, Int.reduceLT, Int.reduceLE, Int.reduceAdd, Int.reduceSub, Int.reduceEq, reduceIte, Nat.reduceBNe, Int.reducePow, Nat.reducePow, Int.reduceMul, Int.reduceNeg, isB_i, isB_b, isB_y, isBv_i, isBv_b, eqCells_t, TT]
      rintro _ rfl
      unfold pieceC
      obtain ⟨q, hq⟩ : ∃ q, q = pre ++ encN (UInt8.ofInt x.k) x.d j := ⟨_, rfl⟩
      rw [← hq] at b0 b1
      have hql : q.length = pre.length + (encN (UInt8.ofInt x.k) x.d j).length := by rw [hq, List.length_append]
      obtain ⟨m, hm⟩ : ∃ m, m = min 255 (x.d.length - 255 * j) := ⟨_, rfl⟩
      rw [← hm]
      have e0 : (bsR (x.d.drop (255 * j) ++ x.sp)).take m = bsR (pieceL x.d j) := by
        rw [rs_take, hm]; unfold pieceL
        congr 1
        rw [List.take_append_of_le_length (by simp; omega)]
        rw [List.take_eq_take_iff]; simp
      have r2 : List.replicate 2 (SC.v (.int .u8 0)) = [SC.v (.int .u8 0), SC.v (.int .u8 0)] := rfl
      simp (maxSteps := 4000000) only [Try.results39, b0, b1, b2, l0, l1, l2, byteC_of, u8_ofInt_nat, r2, List.append_assoc, List.getElem?_append_left, List.getElem?_append_right, List.length_append, List.length_set, List.set_append_left, gset, List.getElem?_set_ne, Nat.add_sub_cancel_left, Nat.sub_self, Nat.le_refl, Nat.le_add_right, List.replicate_one, List.flatten_cons, List.flatten_nil, rep_flat, XX, Nat.reduceBEq, Nat.reduceLT, Nat.reduceAdd, Nat.reduceMul, Nat.reduceSub, Nat.reduceLeDiff, Nat.reduceEqDiff, Int.reduceToNat, Int.reduceLT, Int.reduceLE, Int.reduceAdd, Int.reduceSub, Int.reduceEq, reduceIte, Nat.reduceBNe, Int.reducePow, Nat.reducePow, Int.reduceMul, Int.reduceNeg, isB_i, isB_b, isB_y, isBv_i, isBv_b, eqCells_t, TT]
      have hbr := buf_room (S := S) (l := q) (news := [UInt8.ofInt x.k, UInt8.ofNat m]) rfl rfl
      have hbr : (bsC (q ++ List.replicate (S - q.length) 0)).take q.length ++ byteC (UInt8.ofInt x.k) :: byteC (UInt8.ofNat m) :: (bsC (q ++ List.replicate (S - q.length) 0)).drop (q.length + 2) = bsC ((q ++ [UInt8.ofInt x.k, UInt8.ofNat m]) ++ List.replicate (S - (q.length + 2)) 0) := hbr
      rw [hbr]
      refine ⟨⟨by omega, by unfold maxLen; omega, by simp, fun _ => by simp; omega⟩, xapp_room (by omega) ?_⟩
      obtain ⟨hp2, hhp2⟩ : ∃ hp2, hp2 = hp.set 0 (⟨true, 5, bsC ((q ++ [UInt8.ofInt x.k, UInt8.ofNat m]) ++ List.replicate (S - (q.length + 2)) 0)⟩ : SB) ++ [(⟨true, 5, [byteC (UInt8.ofInt x.k), byteC (UInt8.ofNat m)]⟩ : SB)] := ⟨_, rfl⟩
      have c0 : hp2[0]? = some ⟨true, 5, bsC ((q ++ [UInt8.ofInt x.k, UInt8.ofNat m]) ++ List.replicate (S - (q.length + 2)) 0)⟩ := by rw [hhp2, List.getElem?_append_left (by simpa using l0), List.getElem?_set_self l0]
      have c1 : hp2[1]? = some (lenB S q.length) := by rw [hhp2, List.getElem?_append_left (by simpa using l1), List.getElem?_set_ne (by omega)]; exact b1
      have c2 : hp2[2]? = some ⟨true, 74, [i64 x.k, roB x.d x.sp x.c]⟩ := by rw [hhp2, List.getElem?_append_left (by simpa using l2), List.getElem?_set_ne (by omega)]; exact b2
      have c3 : hp2[3]? = some (boxB x.d x.sp x.c j) := by rw [hhp2, List.getElem?_append_left (by simpa using l3), List.getElem?_set_ne (by omega)]; exact b3
      obtain ⟨q2, hq2⟩ : ∃ q2, q2 = q ++ [UInt8.ofInt x.k, UInt8.ofNat m] := ⟨_, rfl⟩
      have hq2l : q2.length = q.length + 2 := by rw [hq2]; simp
      rw [← hq2] at c0
      have n0 := lt_of c0
      have n1 := lt_of c1
      have n2 := lt_of c2
      have n3 := lt_of c3
      have hpl : (bsC (pieceL x.d j)).length = m := by rw [bsC_len, pieceL_len, hm]
      simp only [St.hp]
      rw [← hhp2]
      simp (maxSteps := 4000000) only [Try.results39, c0, c1, c2, n0, n1, n2, e0, bsR_toSC, hpl, List.append_assoc, List.getElem?_append_left, List.getElem?_append_right, List.length_append, List.length_set, List.set_append_left, gset, List.getElem?_set_ne, Nat.add_sub_cancel_left, Nat.sub_self, Nat.le_refl, Nat.le_add_right, List.replicate_one, List.flatten_cons, List.flatten_nil, rep_flat, XX, Nat.reduceBEq, Nat.reduceLT, Nat.reduceAdd, Nat.reduceMul, Nat.reduceSub, Nat.reduceLeDiff, Nat.reduceEqDiff, Int.reduceToNat, Int.reduceLT, Int.reduceLE, Int.reduceAdd, Int.reduceSub, Int.reduceEq, reduceIte, Nat.reduceBNe, Int.reducePow, Nat.reducePow, Int.reduceMul, Int.reduceNeg, isB_i, isB_b, isB_y, isBv_i, isBv_b, eqCells_t, TT]
      have hb2 := buf_room (S := S) (l := q2) (news := pieceL x.d j) (m := m) hq2l (by rw [← hpl, bsC_len])
      rw [hb2]
      refine ⟨⟨⟨by omega, by unfold maxLen; omega, by simp; omega, fun _ => by simp; omega⟩, by simp; omega⟩, xapp_room (by omega) ?_⟩
      have hq3 : q2 ++ pieceL x.d j = pre ++ encN (UInt8.ofInt x.k) x.d (j + 1) := by
        rw [hq2, hq, encN, ← hm]; simp
      have hq4 : q.length + 2 + m = (pre ++ encN (UInt8.ofInt x.k) x.d (j + 1)).length := by rw [← hq3, List.length_append, hq2l, ← hpl, bsC_len]
      rw [hq3, hq4]
      obtain ⟨hp3, hhp3⟩ : ∃ hp3, hp3 = (hp2.set 1 (⟨true, 22, [.sl 0 0 (q.length + 2) S]⟩ : SB)).set 0 (bufB S (pre ++ encN (UInt8.ofInt x.k) x.d (j + 1))) := ⟨_, rfl⟩
      have g0 : hp3[0]? = some (bufB S (pre ++ encN (UInt8.ofInt x.k) x.d (j + 1))) := by rw [hhp3]; exact List.getElem?_set_self (by simpa using n0)
      have g1 : hp3[1]? = some (lenB S (q.length + 2)) := by rw [hhp3, List.getElem?_set_ne (by omega)]; exact List.getElem?_set_self n1
      have g2 : hp3[2]? = some ⟨true, 74, [i64 x.k, roB x.d x.sp x.c]⟩ := by rw [hhp3, List.getElem?_set_ne (by omega), List.getElem?_set_ne (by omega)]; exact c2
      have g3 : hp3[3]? = some (boxB x.d x.sp x.c j) := by rw [hhp3, List.getElem?_set_ne (by omega), List.getElem?_set_ne (by omega)]; exact c3
      have r1 := lt_of g1
      simp only [St.hp]
      rw [← hhp3]
      simp (maxSteps := 4000000) only [Try.results39, g1, r1, XX, Nat.reduceBEq, Nat.reduceLT, Nat.reduceAdd, Nat.reduceMul, Nat.reduceSub, Nat.reduceLeDiff, Nat.reduceEqDiff, Int.reduceToNat, Int.reduceLT, Int.reduceLE, Int.reduceAdd, Int.reduceSub, Int.reduceEq, reduceIte, Nat.reduceBNe, Int.reducePow, Nat.reducePow, Int.reduceMul, Int.reduceNeg, isB_i, isB_b, isB_y, isBv_i, isBv_b, eqCells_t, TT]
      refine ⟨⟨?_, ?_, ?_⟩, ?_⟩
      · rw [List.getElem?_set_ne (by omega)]; exact g0
      · rw [List.getElem?_set_self r1, List.length_append]
      · rw [List.getElem?_set_ne (by omega)]; exact g2
      · rw [List.getElem?_set_ne (by omega)]; exact g3
    · rintro hp ⟨b0, b1, b2⟩
      have hpx : pre ++ encN (UInt8.ofInt x.k) x.d (pcs x.d.length) = encAll (xs.take (i + 1)) := by rw [hpre, encAll_next hx]; rfl
      rw [hpx] at b0 b1
      simp (maxSteps := 4000000) only [Try.results39, e3, XX, Nat.reduceBEq, Nat.reduceLT, Nat.reduceAdd, Nat.reduceMul, Nat.reduceSub, Nat.reduceLeDiff, Nat.reduceEqDiff, Int.reduceToNat, Int.reduceLT, Int.reduceLE, Int.reduceAdd, Int.reduceSub, Int.reduceEq, reduceIte, Nat.reduceBNe, Int.reducePow, Nat.reducePow, Int.reduceMul, Int.reduceNeg, isB_i, isB_b, isB_y, isBv_i, isBv_b, eqCells_t, TT]
      refine ⟨xs.length - (i + 1), by omega, _, ⟨i + 1, rfl, by omega, rfl⟩, .inr ⟨[some 0, some 1], rfl, rfl, ?_, ⟨.inl ⟨rfl, rfl⟩, .inl ⟨rfl, rfl⟩, .inl ⟨rfl, rfl⟩, .inl ⟨rfl, rfl⟩, .inl ⟨rfl, rfl⟩, trivial⟩⟩⟩
      simp only [wkHp, b0, b1]
      exact ⟨⟨.inl ⟨ids_bsC _ _, (ren_bsC _ _).symm⟩, fun _ => ⟨trivial, trivial⟩⟩, ⟨.inl ⟨rfl, rfl⟩, fun _ => ⟨trivial, trivial⟩⟩, trivial⟩
  obtain rfl : i = xs.length := by omega
  have hd : decide ((xs.length : Int) < (xs.length : Int)) = false := by simp
  rw [List.take_length]
  simp (maxSteps := 4000000) only [Try.results39, hd, List.replicate_one, List.flatten_cons, List.flatten_nil, XX, Nat.reduceBEq, Nat.reduceLT, Nat.reduceAdd, Nat.reduceMul, Nat.reduceSub, Nat.reduceLeDiff, Nat.reduceEqDiff, Int.reduceToNat, Int.reduceLT, Int.reduceLE, Int.reduceAdd, Int.reduceSub, Int.reduceEq, reduceIte, Nat.reduceBNe, Int.reducePow, Nat.reducePow, Int.reduceMul, Int.reduceNeg, isB_i, isB_b, isB_y, isBv_i, isBv_b, eqCells_t, TT]
  have hel := encAll_len xs
  have hbr := buf_room (S := 1 + szO xs) (l := encAll xs) (news := [255]) rfl rfl
  refine ⟨⟨by omega, by unfold maxLen; omega, by simp, fun _ => by simp; omega⟩, xapp_room (by omega) ?_⟩
  simp (maxSteps := 4000000) only [Try.results39, XX, Nat.reduceBEq, Nat.reduceLT, Nat.reduceAdd, Nat.reduceMul, Nat.reduceSub, Nat.reduceLeDiff, Nat.reduceEqDiff, Int.reduceToNat, Int.reduceLT, Int.reduceLE, Int.reduceAdd, Int.reduceSub, Int.reduceEq, reduceIte, Nat.reduceBNe, Int.reducePow, Nat.reducePow, Int.reduceMul, Int.reduceNeg, isB_i, isB_b, isB_y, isBv_i, isBv_b, eqCells_t, TT]
  refine .inl ⟨0, List.replicate (1 + szO xs - ((encAll xs).length + 1)) 0, true, ?_, ?_, fun _ => rfl⟩
  · simp only [slB, List.length_append, List.length_singleton, List.length_replicate]
    rw [show (encAll xs).length + 1 + (1 + szO xs - ((encAll xs).length + 1)) = 1 + szO xs by omega]
  · show some (SB.mk _ _ _) = some (SB.mk _ _ _)
    rw [List.append_assoc]
    exact congrArg (fun z => some (SB.mk true 5 z)) hbr
end Go.Proofs.Ytgegddefcgfhgaa.Sx
namespace Go.Proofs.Ytgegddefcgfhgaa.Sx
open Go
set_option linter.unusedSimpArgs false
set_option linter.unusedVariables false
set_option maxRecDepth 10000
set_option maxHeartbeats 2000000
/-- An option in a row: its code, its bytes, where they stand, what stands behind them. -/
structure PE where
  k : Int
  d : List UInt8
  w : Nat
  sp : List UInt8
  o : Bool
abbrev PE.c (e : PE) : List SC := [i64 e.k, slB e.w e.d e.sp]
abbrev PE.oi (e : PE) : OI := ⟨e.k, e.d, e.sp, e.d.length + e.sp.length⟩
abbrev nilS : SC := .v (.slice none 0 0)
abbrev zeroO : List SC := [i64 0, nilS]
abbrev optB (o : Bool) (l : List SC) : SB := ⟨o, 74, l⟩
abbrev rowC (es : List PE) (r : Nat) : List SC := (es.map PE.c).flatten ++ (List.replicate r zeroO).flatten
structure Opts (H : List SB) (iO : Nat) (o : Bool) (es : List PE) (r : Nat) : Prop where
  row : H[iO]? = some (optB o (rowC es r))
  own : 0 < es.length + r → o = true
  at_ : ∀ (i : Nat) (e : PE), es[i]? = some e → H[e.w]? = some (wB e.o (e.d ++ e.sp)) ∧ (0 < e.d.length + e.sp.length → e.o = true)
  ne : ∀ (i j : Nat) (e f : PE), i ≠ j → es[i]? = some e → es[j]? = some f → e.w ≠ f.w
theorem Opts.mono {H H' : List SB} {iO : Nat} {o : Bool} {es : List PE} {r : Nat} (O : Opts H iO o es r) (h : ∀ k, k < H.length → H'[k]? = H[k]?) : Opts H' iO o es r :=
  ⟨(h _ (lt_of O.row)).trans O.row, O.own, fun i e he => ⟨(h _ (lt_of (O.at_ i e he).1)).trans (O.at_ i e he).1, (O.at_ i e he).2⟩, O.ne⟩
theorem Opts.app {H : List SB} {iO : Nat} {o : Bool} {es : List PE} {r : Nat} (O : Opts H iO o es r) (t : List SB) : Opts (H ++ t) iO o es r :=
  O.mono fun k hk => List.getElem?_append_left hk
theorem pe_len {es : List PE} : ∀ l ∈ es.map PE.c, l.length = 2 := by
  intro y hy
  simp only [List.mem_map] at hy
  obtain ⟨o, _, rfl⟩ := hy
  rfl
theorem flatc_len (es : List PE) : ((es.map PE.c).flatten).length = es.length * 2 := by
  induction es with
  | nil => rfl
  | cons e es ih => simp only [List.map_cons, List.flatten_cons, List.length_append, ih, List.length_cons]; simp only [List.length_nil]; omega
theorem rowC_len (es : List PE) (r : Nat) : (rowC es r).length = (es.length + r) * 2 := by
  rw [List.length_append, flatc_len, rep_len (sz := 2) rfl]; omega
theorem row_drop {es : List PE} {r i : Nat} {e : PE} (h : es[i]? = some e) : ∃ R, (rowC es r).drop (i * 2) = e.c ++ R := by
  obtain ⟨h1, rfl⟩ := List.getElem?_eq_some_iff.1 h
  have := flat_at (l := es.map PE.c) (i := i) pe_len (by simpa using h1)
  rw [List.getElem_map] at this
  refine ⟨((es.map PE.c).flatten.drop (i * 2)).drop 2 ++ (List.replicate r zeroO).flatten, ?_⟩
  rw [← List.append_assoc, ← this, List.take_append_drop, List.drop_append_of_le_length (by rw [flatc_len]; omega)]
theorem row_take {es : List PE} {r i : Nat} {e : PE} (h : es[i]? = some e) : ((rowC es r).drop (i * 2)).take 2 = e.c := by
  obtain ⟨R, hR⟩ := row_drop (r := r) h
  rw [hR]; rfl
theorem row_get {es : List PE} {r i : Nat} {e : PE} (h : es[i]? = some e) : (rowC es r).getD (i * 2) .any = i64 e.k ∧ (rowC es r).getD (i * 2 + 1) .any = slB e.w e.d e.sp := by
  obtain ⟨R, hR⟩ := row_drop (r := r) h
  have a0 : (rowC es r)[i * 2]? = ((rowC es r).drop (i * 2))[0]? := by rw [List.getElem?_drop]; rfl
  have a1 : (rowC es r)[i * 2 + 1]? = ((rowC es r).drop (i * 2))[1]? := by rw [List.getElem?_drop]
  rw [List.getD_eq_getElem?_getD, List.getD_eq_getElem?_getD, a0, a1, hR]
  exact ⟨rfl, rfl⟩
theorem row_pre {es : List PE} {r : Nat} : (rowC es r).take (es.length * 2) = (es.map PE.c).flatten := by
  rw [← flatc_len]; exact List.take_left' rfl
theorem row_post {es : List PE} {r : Nat} : (rowC es (r + 1)).drop (es.length * 2 + 2) = (List.replicate r zeroO).flatten := by
  rw [List.drop_append, List.drop_of_length_le (by rw [flatc_len]; omega), List.nil_append, flatc_len, Nat.add_sub_cancel_left, List.replicate_succ, List.flatten_cons]; rfl
theorem flatc_app (es : List PE) (e : PE) : ((es ++ [e]).map PE.c).flatten = (es.map PE.c).flatten ++ e.c := by
  rw [List.map_append, List.flatten_append]
  simp only [List.map_cons, List.map_nil, List.flatten_cons, List.flatten_nil, List.append_nil]
theorem flatc_split {es : List PE} {i : Nat} {e : PE} (h : es[i]? = some e) : (es.map PE.c).flatten = ((es.take i).map PE.c).flatten ++ (e.c ++ ((es.drop (i + 1)).map PE.c).flatten) := by
  obtain ⟨h1, rfl⟩ := List.getElem?_eq_some_iff.1 h
  conv => lhs; rw [← List.take_append_drop i es, List.drop_eq_getElem_cons h1]
  rw [List.map_append, List.flatten_append, List.map_cons, List.flatten_cons]
theorem row_store {es : List PE} {r i : Nat} {e f : PE} (h : es[i]? = some e) (hk : f.k = e.k) : (rowC es r).take (i * 2 + 1) ++ (slB f.w f.d f.sp :: (rowC es r).drop (i * 2 + 2)) = rowC (es.set i f) r := by
  have hi := (List.getElem?_eq_some_iff.1 h).1
  have hs : (es.set i f)[i]? = some f := by rw [List.getElem?_set_self hi]
  have e1 := flatc_split h
  have e2 := flatc_split hs
  have t1 : (es.set i f).take i = es.take i := List.take_set_of_le (Nat.le_refl _)
  have t2 : (es.set i f).drop (i + 1) = es.drop (i + 1) := List.drop_set_of_lt (by omega)
  rw [t1, t2] at e2
  have l0 : (((es.take i).map PE.c).flatten).length = i * 2 := by rw [flatc_len, List.length_take, Nat.min_eq_left (by omega)]
  simp only [rowC, e1, e2, List.append_assoc]
  generalize ((es.take i).map PE.c).flatten = A at l0 ⊢
  have q1 : A.take (i * 2 + 1) = A := List.take_of_length_le (by omega)
  have q2 : A.drop (i * 2 + 2) = [] := List.drop_of_length_le (by omega)
  rw [List.take_append, List.drop_append, q1, q2, l0, Nat.add_sub_cancel_left, Nat.add_sub_cancel_left, List.append_assoc, List.nil_append]
  show A ++ ([i64 e.k] ++ _) = A ++ ([i64 f.k, _] ++ _)
  rw [hk]
  rfl
def rowN (es : List PE) (k : Int) (r : Nat) : List SC := (es.map PE.c).flatten ++ ([i64 k, nilS] ++ (List.replicate r zeroO).flatten)
theorem rowN_len (es : List PE) (k : Int) (r : Nat) : (rowN es k r).length = (es.length + 1 + r) * 2 := by
  rw [rowN, List.length_append, flatc_len, List.length_append, rep_len (sz := 2) rfl]; simp; omega
theorem rowN_get (es : List PE) (k : Int) (r : Nat) : (rowN es k r).getD (es.length * 2 + 1) .any = nilS := by
  rw [rowN, List.getD_eq_getElem?_getD, List.getElem?_append_right (by rw [flatc_len]; omega), flatc_len, Nat.add_sub_cancel_left]; rfl
theorem rowN_store (es : List PE) (k : Int) (r : Nat) (x : SC) : (rowN es k r).take (es.length * 2 + 1) ++ (x :: (rowN es k r).drop (es.length * 2 + 2)) = (es.map PE.c).flatten ++ ([i64 k, x] ++ (List.replicate r zeroO).flatten) := by
  have l0 := flatc_len es
  unfold rowN
  generalize (es.map PE.c).flatten = A at l0 ⊢
  have q1 : A.take (es.length * 2 + 1) = A := List.take_of_length_le (by omega)
  have q2 : A.drop (es.length * 2 + 2) = [] := List.drop_of_length_le (by omega)
  rw [List.take_append, List.drop_append, q1, q2, l0, Nat.add_sub_cancel_left, Nat.add_sub_cancel_left, List.append_assoc, List.nil_append]
  rfl
/-- A row to which an option without bytes was laid. -/
structure OptsN (H : List SB) (iO : Nat) (es : List PE) (k : Int) (r : Nat) : Prop where
  row : H[iO]? = some (optB true (rowN es k r))
  at_ : ∀ (i : Nat) (e : PE), es[i]? = some e → H[e.w]? = some (wB e.o (e.d ++ e.sp)) ∧ (0 < e.d.length + e.sp.length → e.o = true)
  ne : ∀ (i j : Nat) (e f : PE), i ≠ j → es[i]? = some e → es[j]? = some f → e.w ≠ f.w
theorem Opts.neR {H : List SB} {iO : Nat} {o : Bool} {es : List PE} {r i : Nat} {e : PE} (O : Opts H iO o es r) (h : es[i]? = some e) : e.w ≠ iO :=
  ne_of_ty (O.at_ i e h).1 O.row (fun h => absurd h (by decide : (5 : Nat) ≠ 74))
theorem OptsN.neR {H : List SB} {iO : Nat} {es : List PE} {k : Int} {r i : Nat} {e : PE} (O : OptsN H iO es k r) (h : es[i]? = some e) : e.w ≠ iO :=
  ne_of_ty (O.at_ i e h).1 O.row (fun h => absurd h (by decide : (5 : Nat) ≠ 74))
theorem opts_push {xn : XN} {dst : Option Tmp} {k : List KI} {nm : NB} {tm : List (Nat × SV)} {Q : XE → St → Prop} {H : List SB} {iO g : Nat} {o : Bool} {es : List PE} {r : Nat} {c : Int} {b : SB} (O : Opts H iO o es r) (hg : g = H.length + 1)
    (hk : ∀ H' iO' r', OptsN H' iO' es c r' → H.length ≤ H'.length → (∀ i, i < H.length → i ≠ iO → H'[i]? = H[i]?) → (iO' = iO ∨ H.length ≤ iO') → xn k ⟨nm, put dst (.c (.sl iO' 0 (es.length + 1) (es.length + 1 + r'))) tm, H'⟩ Q) :
    XApp xn (es.length + 1) (es.length + r) dst k nm tm (.c (.sl iO 0 (es.length + 1) (es.length + r)), H.set iO ⟨o, 74, (rowC es r).take (es.length * 2) ++ i64 c :: nilS :: (rowC es r).drop (es.length * 2 + 2)⟩ ++ [b])
      (fun c' => (.c (.sl g 0 (es.length + 1) c'), H ++ [b, ⟨true, 74, (rowC es r).take (es.length * 2) ++ i64 c :: nilS :: (List.replicate (c' - (es.length + 1)) [SC.v (.int .i64 0), SC.v (.slice none 0 0)]).flatten⟩])) Q := by
  have lO := lt_of O.row
  refine xapp_P (fun s H' => ∃ iO' r', s = .c (.sl iO' 0 (es.length + 1) (es.length + 1 + r')) ∧ OptsN H' iO' es c r' ∧ H.length ≤ H'.length ∧ (∀ i, i < H.length → i ≠ iO → H'[i]? = H[i]?) ∧ (iO' = iO ∨ H.length ≤ iO')) (fun h => ?_) (fun h c' h1 h2 => ?_) ?_
  · obtain ⟨r', rfl⟩ : ∃ r', r = r' + 1 := ⟨r - 1, by omega⟩
    have ho := O.own (by omega)
    subst ho
    have kp : ∀ i, i < H.length → i ≠ iO → (H.set iO ⟨true, 74, (rowC es (r' + 1)).take (es.length * 2) ++ i64 c :: nilS :: (rowC es (r' + 1)).drop (es.length * 2 + 2)⟩ ++ [b])[i]? = H[i]? := fun i hi hne => by
      rw [List.getElem?_append_left (by simpa using hi), List.getElem?_set_ne (Ne.symm hne)]
    refine ⟨iO, r', by rw [Nat.add_assoc, Nat.add_comm 1 r'], ⟨?_, fun i e he => ⟨(kp _ (lt_of (O.at_ i e he).1) (O.neR he)).trans (O.at_ i e he).1, (O.at_ i e he).2⟩, O.ne⟩, by simp, kp, .inl rfl⟩
    rw [List.getElem?_append_left (by simpa using lO), List.getElem?_set_self lO, row_pre, row_post]; rfl
  · obtain ⟨j, rfl⟩ := Nat.exists_eq_add_of_le h1
    have kp : ∀ (X : List SB) i, i < H.length → (H ++ X)[i]? = H[i]? := fun X i hi => List.getElem?_append_left hi
    refine ⟨g, j, rfl, ⟨?_, fun i e he => ⟨(kp _ _ (lt_of (O.at_ i e he).1)).trans (O.at_ i e he).1, (O.at_ i e he).2⟩, O.ne⟩, by simp, fun i hi _ => kp _ _ hi, .inr (by omega)⟩
    rw [hg, List.getElem?_append_right (by omega), Nat.add_sub_cancel_left, row_pre, Nat.add_sub_cancel_left]; rfl
  · rintro s H' ⟨iO', r', rfl, h1, h2, h3, h4⟩
    exact hk H' iO' r' h1 h2 h3 h4
theorem opts_new {H : List SB} {iO : Nat} {es : List PE} {k : Int} {r : Nat} {d : List UInt8} {sp : List UInt8} {o : Bool} (O : OptsN H iO es k r) (ho : 0 < d.length + sp.length → o = true) {cells : List SC} (hc : cells = (es.map PE.c).flatten ++ ([i64 k, slB H.length d sp] ++ (List.replicate r zeroO).flatten)) :
    Opts (H.set iO ⟨true, 74, cells⟩ ++ [wB o (d ++ sp)]) iO true (es ++ [⟨k, d, H.length, sp, o⟩]) r := by
  subst hc
  have lO := lt_of O.row
  rw [← List.set_append_left _ _ lO]
  have old : ∀ i e, (es ++ [⟨k, d, H.length, sp, o⟩])[i]? = some e → (es[i]? = some e ∧ e.w < H.length ∧ e.w ≠ iO) ∨ (i = es.length ∧ e = ⟨k, d, H.length, sp, o⟩) := fun i e he => by
    rcases Nat.lt_or_ge i es.length with hi | hi
    · rw [List.getElem?_append_left hi] at he
      exact .inl ⟨he, lt_of (O.at_ i e he).1, O.neR he⟩
    · rw [List.getElem?_append_right hi] at he
      have : i - es.length = 0 := by have := (List.getElem?_eq_some_iff.1 he).1; simpa using this
      rw [this] at he
      cases he
      exact .inr ⟨by omega, rfl⟩
  refine ⟨?_, fun _ => rfl, fun i e he => ?_, fun i j e f hij he hf => ?_⟩
  · rw [List.getElem?_set_self (by simp; omega)]
    simp only [rowC, flatc_app, List.append_assoc]
  · rcases old i e he with ⟨h1, h2, h3⟩ | ⟨rfl, rfl⟩
    · rw [List.getElem?_set_ne (Ne.symm h3), List.getElem?_append_left h2]
      exact O.at_ i e h1
    · refine ⟨?_, ho⟩
      rw [List.getElem?_set_ne (by show iO ≠ H.length; omega), List.getElem?_append_right (Nat.le_refl _), Nat.sub_self]; rfl
  · rcases old i e he with ⟨h1, h2, h3⟩ | ⟨rfl, rfl⟩ <;> rcases old j f hf with ⟨g1, g2, g3⟩ | ⟨rfl, rfl⟩
    · exact O.ne i j e f hij h1 g1
    · show e.w ≠ H.length; omega
    · show H.length ≠ f.w; omega
    · omega
theorem opts_old {H H1 : List SB} {iO : Nat} {o o' : Bool} {es : List PE} {r i w' : Nat} {e : PE} {d sp' : List UInt8} (O : Opts H iO o es r) (he : es[i]? = some e) (B : Buf H1 w' o' (e.d ++ d) sp') (hl : H.length ≤ H1.length) (hkp : ∀ k, k < H.length → k ≠ e.w → H1[k]? = H[k]?) (hw : w' = e.w ∨ H.length ≤ w') {cells : List SC} (hc : cells = rowC (es.set i ⟨e.k, e.d ++ d, w', sp', o'⟩) r) :
    Opts (H1.set iO ⟨o, 74, cells⟩) iO o (es.set i ⟨e.k, e.d ++ d, w', sp', o'⟩) r := by
  subst hc
  have lO := lt_of O.row
  have hi := (List.getElem?_eq_some_iff.1 he).1
  have ne0 := O.neR he
  have lw := lt_of (O.at_ i e he).1
  have nw : iO ≠ w' := by rcases hw with rfl | hw <;> omega
  have old : ∀ j f, (es.set i ⟨e.k, e.d ++ d, w', sp', o'⟩)[j]? = some f → (j ≠ i ∧ es[j]? = some f ∧ f.w < H.length ∧ f.w ≠ e.w) ∨ (j = i ∧ f = ⟨e.k, e.d ++ d, w', sp', o'⟩) := fun j f hf => by
    by_cases hj : j = i
    · subst hj
      rw [List.getElem?_set_self hi] at hf
      cases hf
      exact .inr ⟨rfl, rfl⟩
    · rw [List.getElem?_set_ne (Ne.symm hj)] at hf
      exact .inl ⟨hj, hf, lt_of (O.at_ j f hf).1, O.ne j i f e hj hf he⟩
  refine ⟨?_, fun h => O.own (by simpa using h), fun j f hf => ?_, fun a b f g hab hf hg => ?_⟩
  · rw [List.getElem?_set_self (by omega)]
  · rcases old j f hf with ⟨h0, h1, h2, h3⟩ | ⟨rfl, rfl⟩
    · rw [List.getElem?_set_ne (O.neR h1).symm, hkp _ h2 h3]
      exact O.at_ j f h1
    · rw [List.getElem?_set_ne nw]
      exact ⟨B.at_, B.own⟩
  · rcases old a f hf with ⟨h0, h1, h2, h3⟩ | ⟨rfl, rfl⟩ <;> rcases old b g hg with ⟨g0, g1, g2, g3⟩ | ⟨rfl, rfl⟩
    · exact O.ne a b f g hab h1 g1
    · show f.w ≠ w'; rcases hw with rfl | hw <;> omega
    · show w' ≠ g.w; rcases hw with rfl | hw <;> omega
    · omega
/-- Where the option of a code stands; none: -1. -/
def atK (ks : List Int) (k : Int) : Int := match ks.findIdx? fun a => decide (a = k) with
  | some i => i
  | none => -1
theorem atK_skip {ks : List Int} {k : Int} {i : Nat} {a : Int} (h : ((ks.drop i).findIdx? fun a => decide (a = k)).map (· + i) = ks.findIdx? fun a => decide (a = k)) (hx : ks[i]? = some a) (hk : a ≠ k) :
    ((ks.drop (i + 1)).findIdx? fun a => decide (a = k)).map (· + (i + 1)) = ks.findIdx? fun a => decide (a = k) := by
  rw [← h]
  obtain ⟨hi, rfl⟩ := List.getElem?_eq_some_iff.1 hx
  conv => rhs; rw [List.drop_eq_getElem_cons hi]
  rw [List.findIdx?_cons, show decide (ks[i] = k) = false by simpa using hk]
  simp only [Bool.false_eq_true, if_false, Option.map_map]
  congr 1
  funext n
  simp only [Function.comp_apply]
  omega
theorem atK_hit {ks : List Int} {k : Int} {i : Nat} {a : Int} (h : ((ks.drop i).findIdx? fun a => decide (a = k)).map (· + i) = ks.findIdx? fun a => decide (a = k)) (hx : ks[i]? = some a) (hk : a = k) : atK ks k = i := by
  obtain ⟨hi, rfl⟩ := List.getElem?_eq_some_iff.1 hx
  rw [List.drop_eq_getElem_cons hi, List.findIdx?_cons, show decide (ks[i] = k) = true by simpa using hk] at h
  unfold atK
  rw [← h]
  simp
theorem atK_none {ks : List Int} {k : Int} (h : ((ks.drop ks.length).findIdx? fun a => decide (a = k)).map (· + ks.length) = ks.findIdx? fun a => decide (a = k)) : atK ks k = -1 := by
  rw [List.drop_length] at h
  unfold atK
  rw [← h]; rfl
theorem atK_start {ks : List Int} {k : Int} : ((ks.drop 0).findIdx? fun a => decide (a = k)).map (· + 0) = ks.findIdx? fun a => decide (a = k) := by
  rw [List.drop_zero]
  cases ks.findIdx? fun a => decide (a = k) <;> rfl
theorem atK_cases (ks : List Int) (k : Int) : (∃ i, i < ks.length ∧ ks[i]? = some k ∧ atK ks k = (i : Int)) ∨ (k ∉ ks ∧ atK ks k = -1) := by
  unfold atK
  cases h : ks.findIdx? fun a => decide (a = k)
  · right
    rw [List.findIdx?_eq_none_iff] at h
    exact ⟨fun hk => by simpa using h k hk, rfl⟩
  · rename_i i
    left
    rw [List.findIdx?_eq_some_iff_getElem] at h
    obtain ⟨h1, h2, _⟩ := h
    refine ⟨i, h1, ?_, rfl⟩
    rw [List.getElem?_eq_getElem h1]
    simpa using h2
theorem same_spec (H : List SB) (a k : Int) (x : SC) (ib : Nat) (o : Bool) (hb : H[ib]? = some ⟨o, 3, [i64 k]⟩) :
    Spec cx.P 60 [.agg [i64 a, x], .c (.ptr ib 0)] H fun s h' => s = .c (bC (decide (a = k))) ∧ ∃ t, h' = H ++ t := by
  have lb := lt_of hb
  refine spec_of_X cx_ok Try.func60 rfl (by kernel_rfl) (by kernel_rfl) (Nat.le_of_ble_eq_true rfl) 400 4 ?_
  simp (maxSteps := 4000000) only [Try.results60, XX, Nat.reduceBEq, Nat.reduceLT, Nat.reduceAdd, Nat.reduceMul, Nat.reduceSub, Nat.reduceLeDiff, Nat.reduceEqDiff, Int.reduceToNat, Int.reduceLT, Int.reduceLE, Int.reduceAdd, Int.reduceSub, Int.reduceEq, reduceIte, Nat.reduceBNe, Int.reducePow, Nat.reducePow, Int.reduceMul, Int.reduceNeg, isB_i, isB_b, isB_y, isBv_i, isBv_b, eqCells_t, TT]
  simp (maxSteps := 4000000) only [Try.results60, hb, lb, List.append_assoc, List.getElem?_append_left, List.getElem?_append_right, List.length_append, List.length_set, List.set_append_left, gset, List.getElem?_set_ne, Nat.add_sub_cancel_left, Nat.sub_self, Nat.le_refl, Nat.le_add_right, List.replicate_one, List.flatten_cons, List.flatten_nil, rep_flat, XX, Nat.reduceBEq, Nat.reduceLT, Nat.reduceAdd, Nat.reduceMul, Nat.reduceSub, Nat.reduceLeDiff, Nat.reduceEqDiff, Int.reduceToNat, Int.reduceLT, Int.reduceLE, Int.reduceAdd, Int.reduceSub, Int.reduceEq, reduceIte, Nat.reduceBNe, Int.reducePow, Nat.reducePow, Int.reduceMul, Int.reduceNeg, isB_i, isB_b, isB_y, isBv_i, isBv_b, eqCells_t, TT]
  exact ⟨_, rfl⟩
theorem index_spec (H : List SB) (iO : Nat) (o : Bool) (es : List PE) (r : Nat) (O : Opts H iO o es r) (hn : es.length ≤ 64) (k : Int) (ib : Nat) (ob : Bool) (hb : H[ib]? = some ⟨ob, 3, [i64 k]⟩) :
    Spec cx.P 59 [.c (.sl iO 0 es.length (es.length + r)), .c (.fn 60 [(ib, 0)])] H fun s h' => s = .c (i64 (atK (es.map PE.k) k)) ∧ ∃ t, h' = H ++ t := by
  refine spec_of_X cx_ok Try.func59 rfl (by kernel_rfl) (by kernel_rfl) (Nat.le_of_ble_eq_true rfl) 400 9 ?_
  simp (maxSteps := 4000000) only [Try.results59, XX, Nat.reduceBEq, Nat.reduceLT, Nat.reduceAdd, Nat.reduceMul, Nat.reduceSub, Nat.reduceLeDiff, Nat.reduceEqDiff, Int.reduceToNat, Int.reduceLT, Int.reduceLE, Int.reduceAdd, Int.reduceSub, Int.reduceEq, reduceIte, Nat.reduceBNe, Int.reducePow, Nat.reducePow, Int.reduceMul, Int.reduceNeg, isB_i, isB_b, isB_y, isBv_i, isBv_b, eqCells_t, TT]
  refine loop_any cx_ok 400 (fun μ σ => ∃ (i : Nat) (t : List SB), μ = es.length - i ∧ i ≤ es.length ∧ (((es.map PE.k).drop i).findIdx? fun a => decide (a = k)).map (· + i) = ((es.map PE.k).findIdx? fun a => decide (a = k)) ∧
      σ = ⟨⟨9, H.length⟩, [(0, .c (.sl iO 0 es.length (es.length + r))), (1, .c (.fn 60 [(ib, 0)])), (7, .c (i64 es.length)), (8, .c (i64 i))], H ++ t⟩) es.length
    ⟨⟨9, H.length⟩, [(0, .c (.sl iO 0 es.length (es.length + r))), (1, .c (.fn 60 [(ib, 0)])), (7, .c (i64 es.length)), (8, .c (i64 (0 : Nat)))], H ++ []⟩ ⟨0, [], rfl, Nat.zero_le _, atK_start, rfl⟩ (.inl ⟨rfl, (List.append_nil H).symm, rfl, rfl, rfl, rfl, trivial⟩) ?_
  rintro μ σ ⟨i, t, rfl, hi, hf, rfl⟩
  have O' := O.app t
  have hrow := O'.row
  have lrow := lt_of hrow
  have lr := rowC_len es r
  by_cases hlt : i < es.length
  · have hd : decide ((i : Int) < (es.length : Int)) = true := by simp only [decide_eq_true_eq]; omega
    have e3 : IntKind.i64.wrap ((i : Int) + 1) = ((i + 1 : Nat) : Int) := by rw [w64] <;> omega
    obtain ⟨e, he⟩ : ∃ e, es[i]? = some e := ⟨_, List.getElem?_eq_getElem hlt⟩
    have hke : (es.map PE.k)[i]? = some e.k := by rw [List.getElem?_map, he]; rfl
    have tk := row_take (r := r) he
    simp (maxSteps := 4000000) only [Try.results59, hd, hrow, lrow, tk, XX, Nat.reduceBEq, Nat.reduceLT, Nat.reduceAdd, Nat.reduceMul, Nat.reduceSub, Nat.reduceLeDiff, Nat.reduceEqDiff, Int.reduceToNat, Int.reduceLT, Int.reduceLE, Int.reduceAdd, Int.reduceSub, Int.reduceEq, reduceIte, Nat.reduceBNe, Int.reducePow, Nat.reducePow, Int.reduceMul, Int.reduceNeg, isB_i, isB_b, isB_y, isBv_i, isBv_b, eqCells_t, TT]
    refine ⟨⟨by omega, by omega⟩, by rw [lr]; omega, ?_⟩
    refine call_is (same_spec (H ++ t) e.k k (slB e.w e.d e.sp) ib ob ((List.getElem?_append_left (lt_of hb)).trans hb)) ?_
    rintro _ _ ⟨rfl, t2, rfl⟩
    by_cases hk : e.k = k
    · have dk : decide (e.k = k) = true := by simpa using hk
      simp (maxSteps := 4000000) only [Try.results59, dk, XX, Nat.reduceBEq, Nat.reduceLT, Nat.reduceAdd, Nat.reduceMul, Nat.reduceSub, Nat.reduceLeDiff, Nat.reduceEqDiff, Int.reduceToNat, Int.reduceLT, Int.reduceLE, Int.reduceAdd, Int.reduceSub, Int.reduceEq, reduceIte, Nat.reduceBNe, Int.reducePow, Nat.reducePow, Int.reduceMul, Int.reduceNeg, isB_i, isB_b, isB_y, isBv_i, isBv_b, eqCells_t, TT]
      exact ⟨by rw [atK_hit hf hke hk], t ++ t2, by rw [List.append_assoc]⟩
    · have dk : decide (e.k = k) = false := by simpa using hk
      simp (maxSteps := 4000000) only [Try.results59, dk, e3, XX, Nat.reduceBEq, Nat.reduceLT, Nat.reduceAdd, Nat.reduceMul, Nat.reduceSub, Nat.reduceLeDiff, Nat.reduceEqDiff, Int.reduceToNat, Int.reduceLT, Int.reduceLE, Int.reduceAdd, Int.reduceSub, Int.reduceEq, reduceIte, Nat.reduceBNe, Int.reducePow, Nat.reducePow, Int.reduceMul, Int.reduceNeg, isB_i, isB_b, isB_y, isBv_i, isBv_b, eqCells_t, TT]
      exact ⟨es.length - (i + 1), by omega, _, ⟨i + 1, t ++ t2, rfl, by omega, atK_skip hf hke hk, rfl⟩, .inl ⟨rfl, by rw [List.append_assoc], rfl, rfl, rfl, rfl, trivial⟩⟩
  obtain rfl : i = es.length := by omega
  have hd : decide ((es.length : Int) < (es.length : Int)) = false := by simp
  simp (maxSteps := 4000000) only [Try.results59, hd, XX, Nat.reduceBEq, Nat.reduceLT, Nat.reduceAdd, Nat.reduceMul, Nat.reduceSub, Nat.reduceLeDiff, Nat.reduceEqDiff, Int.reduceToNat, Int.reduceLT, Int.reduceLE, Int.reduceAdd, Int.reduceSub, Int.reduceEq, reduceIte, Nat.reduceBNe, Int.reducePow, Nat.reducePow, Int.reduceMul, Int.reduceNeg, isB_i, isB_b, isB_y, isBv_i, isBv_b, eqCells_t, TT]
  refine ⟨?_, t, rfl⟩
  rw [atK_none (by simpa using hf)]
/-- A row in memory may be read alone. -/
theorem frL_rows {H : List SB} {Z : List SC} : ∀ {es : List PE}, (∀ (i : Nat) (e : PE), es[i]? = some e → H[e.w]? = some (wB e.o (e.d ++ e.sp)) ∧ (0 < e.d.length + e.sp.length → e.o = true)) → frL (fun _ => true) H (osR (es.map PE.oi)) ((es.map PE.c).flatten ++ Z)
  | [], _ => by simp only [osR, List.map_nil, List.flatten_nil, frL]
  | e :: es, h => by
    have ih := frL_rows (Z := Z) (es := es) fun i f hf => h (i + 1) f (by simpa using hf)
    obtain ⟨h1, h2⟩ := h 0 e rfl
    refine ⟨rfl, .inr (.inr ⟨e.w, 0, rfl, ?_⟩), ih⟩
    by_cases hz : e.d.length + e.sp.length = 0
    · exact .inl ⟨show e.d.length = 0 by omega, hz⟩
    · refine .inr ⟨rfl, _, h1, ?_, ?_⟩
      · show (!e.o && _) = false
        rw [h2 (by omega)]; rfl
      · have := frL_bs (ok := fun _ => true) (h := H) [] (e.d ++ e.sp)
        rw [List.append_nil] at this
        exact this
theorem Opts.fz {r : Nat → Nat} {n : Nat} {H : List SB} {iO : Nat} {o : Bool} {es : List PE} {rm : Nat} (O : Opts H iO o es rm) : frV true (fun _ => true) r n H (.c (.sl iO 0 es.length (es.length + rm))) (.c (roO (es.map PE.oi) [] (es.length + rm))) := by
  refine .inr (.inl ⟨_, _, rfl, rfl, .inr ⟨rfl, .inl ⟨_, _, _, rfl, ?_⟩⟩⟩)
  rw [List.length_map, List.append_nil]
  refine .inr (.inr ⟨iO, 0, rfl, ?_⟩)
  by_cases hz : es.length + rm = 0
  · exact .inl ⟨by omega, hz⟩
  · refine .inr ⟨rfl, _, O.row, ?_, ?_⟩
    · show (!o && _) = false
      rw [O.own (by omega)]; rfl
    · exact frL_rows O.at_
end Go.Proofs.Ytgegddefcgfhgaa.Sx
namespace Go.Proofs.Ytgegddefcgfhgaa.Sx
open Go
set_option linter.unusedSimpArgs false
set_option linter.unusedVariables false
set_option maxRecDepth 10000
set_option maxHeartbeats 2000000
abbrev PI := Int × List UInt8
abbrev PE.pi (e : PE) : PI := (e.k, e.d)
def putP (es : List PI) (k : Int) (d : List UInt8) : List PI :=
  if 0 ≤ atK (es.map (·.1)) k then es.set (atK (es.map (·.1)) k).toNat (k, (es.getD (atK (es.map (·.1)) k).toNat (0, [])).2 ++ d) else es ++ [(k, d)]
theorem putP_hit {es : List PI} {k : Int} {d x : List UInt8} {i : Nat} (h : atK (es.map (·.1)) k = (i : Int)) (hi : es[i]? = some (k, x)) : putP es k d = es.set i (k, x ++ d) := by
  unfold putP
  rw [h, if_pos (by omega), Int.toNat_natCast, List.getD_eq_getElem?_getD, hi]; rfl
theorem putP_new {es : List PI} {k : Int} {d : List UInt8} (h : atK (es.map (·.1)) k = -1) : putP es k d = es ++ [(k, d)] := by
  unfold putP
  rw [h, if_neg (by omega)]
/-- Reading one part. -/
def parse1 : List UInt8 → List PI → Except Int (List PI)
  | [], es => .ok es
  | c :: t, es => if c = 255 then .ok es else if c = 0 then parse1 t es else if atK (es.map (·.1)) c.toNat < 0 ∧ es.length = 64 then .error 2 else match t with
    | [] => .error 5
    | n :: t' => if t'.length < n.toNat then .error 5 else parse1 (t'.drop n.toNat) (putP es c.toNat (t'.take n.toNat))
  termination_by l => l.length
  decreasing_by all_goals (simp only [List.length_cons, List.length_drop]; omega)
/-- Reading parts, one behind the other. -/
def parseA : List (List UInt8) → List PI → Except Int (List PI)
  | [], es => .ok es
  | p :: ps, es => match parse1 p es with
    | .ok es' => parseA ps es'
    | .error e => .error e
def contA (x : Except Int (List PI)) (ps : List (List UInt8)) : Except Int (List PI) := match x with
  | .ok es => parseA ps es
  | .error e => .error e
theorem parse1_nil (es : List PI) : parse1 [] es = .ok es := by rw [parse1]
theorem parse1_end (t : List UInt8) (es : List PI) : parse1 (255 :: t) es = .ok es := by rw [parse1.eq_def]; simp
theorem parse1_pad (t : List UInt8) (es : List PI) : parse1 (0 :: t) es = parse1 t es := by conv => lhs; rw [parse1.eq_def]; simp
theorem parse1_many {c : UInt8} (t : List UInt8) {es : List PI} (h1 : c ≠ 255) (h2 : c ≠ 0) (h : atK (es.map (·.1)) c.toNat = -1) (hl : es.length = 64) : parse1 (c :: t) es = .error 2 := by
  rw [parse1.eq_def]; simp only [if_neg h1, if_neg h2]; rw [if_pos ⟨by omega, hl⟩]
theorem parse1_short {c : UInt8} {es : List PI} (h1 : c ≠ 255) (h2 : c ≠ 0) (h : ¬ (atK (es.map (·.1)) c.toNat < 0 ∧ es.length = 64)) : parse1 [c] es = .error 5 := by
  rw [parse1.eq_def]; simp only [if_neg h1, if_neg h2, if_neg h]
theorem parse1_cut {c n : UInt8} {t : List UInt8} {es : List PI} (h1 : c ≠ 255) (h2 : c ≠ 0) (h : ¬ (atK (es.map (·.1)) c.toNat < 0 ∧ es.length = 64)) (hn : t.length < n.toNat) : parse1 (c :: n :: t) es = .error 5 := by
  rw [parse1.eq_def]; simp only [if_neg h1, if_neg h2, if_neg h, if_pos hn]
theorem parse1_put {c n : UInt8} {t : List UInt8} {es : List PI} (h1 : c ≠ 255) (h2 : c ≠ 0) (h : ¬ (atK (es.map (·.1)) c.toNat < 0 ∧ es.length = 64)) (hn : n.toNat ≤ t.length) : parse1 (c :: n :: t) es = parse1 (t.drop n.toNat) (putP es c.toNat (t.take n.toNat)) := by
  conv => lhs; rw [parse1.eq_def]
  simp only [if_neg h1, if_neg h2, if_neg h, if_neg (Nat.not_lt.2 hn)]
def numF : Nat → List PE → List PE
  | _, [] => []
  | k, e :: es => { e with w := k } :: numF (k + 1) es
theorem numF_len : ∀ (k : Nat) (es : List PE), (numF k es).length = es.length
  | _, [] => rfl
  | k, e :: es => by simp only [numF, List.length_cons, numF_len]
theorem numF_at : ∀ {k : Nat} {es : List PE} {i : Nat} {e : PE}, (numF k es)[i]? = some e → ∃ f, es[i]? = some f ∧ e = { f with w := k + i }
  | k, e :: es, 0, f, h => by simp only [numF, List.getElem?_cons_zero, Option.some.injEq] at h; exact ⟨e, rfl, h.symm⟩
  | k, e :: es, i + 1, f, h => by
    simp only [numF, List.getElem?_cons_succ] at h
    obtain ⟨g, h1, h2⟩ := numF_at h
    exact ⟨g, h1, by rw [h2]; simp only [PE.mk.injEq, true_and, and_true]; omega⟩
theorem numF_pi : ∀ (k : Nat) (es : List PE), (numF k es).map PE.pi = es.map PE.pi
  | _, [] => rfl
  | k, e :: es => by simp only [numF, List.map_cons, numF_pi]
theorem piBase_all : ∀ (l : List Nat) (k : Nat), l.Nodup → piBase 0 k (l.map some) = true
  | [], k, _ => rfl
  | a :: l, k, h => by
    rw [List.nodup_cons] at h
    simp only [List.map_cons, piBase, Bool.and_eq_true, piBase_all l (k + 1) h.2, and_true]
    refine ⟨rfl, ?_⟩
    rw [Bool.not_eq_true', Bool.eq_false_iff]
    intro h'
    rw [List.contains_iff_mem] at h'
    simp at h'
    exact h.1 h'
abbrev winsC (es : List PE) : List SB := es.map fun e => wB e.o (e.d ++ e.sp)
def parE (x : Except Int (List PI)) : Int := match x with
  | .ok _ => 0
  | .error e => e
def parL (x : Except Int (List PI)) : List PI := match x with
  | .ok ps => ps
  | .error _ => []
/-- Options and an error's number. -/
def resP (x : Except Int (List PI)) (s : SV) (h' : List SB) : Prop := ∃ o es r, s = .tup [(false, [.sl 0 0 es.length (es.length + r)]), (false, [i64 (parE x)])] ∧
  h' = optB o (rowC (numF 1 es) r) :: winsC es ∧ (0 < es.length + r → o = true) ∧ (∀ e ∈ es, 0 < e.d.length + e.sp.length → e.o = true) ∧ es.map PE.pi = parL x
theorem noRo_row : ∀ (es : List PE) (r : Nat), ((rowC es r).all SC.noRo) = true := by
  intro es r
  rw [List.all_append, Bool.and_eq_true]
  constructor <;> (rw [List.all_flatten, List.all_eq_true]; intro l hl)
  · simp only [List.mem_map] at hl
    obtain ⟨e, _, rfl⟩ := hl; rfl
  · obtain rfl := List.eq_of_mem_replicate hl; rfl
theorem resP_noRo {x : Except Int (List PI)} {t : SV} {h' : List SB} (h : resP x t h') : t.noRo = true ∧ (h'.all fun b => b.cells.all SC.noRo) = true := by
  obtain ⟨o, es, r, rfl, rfl, _⟩ := h
  refine ⟨rfl, ?_⟩
  rw [List.all_cons, Bool.and_eq_true]
  refine ⟨noRo_row _ _, ?_⟩
  rw [List.all_map, List.all_eq_true]
  intro e _
  exact noRo_bsC _
theorem row_ren (rn : Nat → Nat) (r : Nat) : ∀ (k : Nat) (es : List PE), (∀ (i : Nat) (e : PE), es[i]? = some e → rn (k + i) = e.w) → (rowC (numF k es) r).map (SC.ren rn) = rowC es r
  | k, [], _ => by
    simp only [rowC, numF, List.map_nil, List.flatten_nil, List.nil_append]
    rw [List.map_flatten, List.map_replicate]; rfl
  | k, e :: es, h => by
    have ih := row_ren rn r (k + 1) es fun i f hf => by rw [← h (i + 1) f (by simpa using hf)]; congr 1; omega
    have h0 := h 0 e rfl
    simp only [rowC, numF, List.map_cons, List.flatten_cons, List.append_assoc, List.map_append] at ih ⊢
    rw [ih]
    congr 1
    show [_, SC.sl (rn k) _ _ _] = _
    rw [show rn k = e.w from h0]
    rfl
theorem row_ids (p : Nat → Bool) (r : Nat) : ∀ (k : Nat) (es : List PE), (∀ i, i < es.length → p (k + i) = true) → ((rowC (numF k es) r).all (SC.ids p)) = true
  | k, [], _ => by
    simp only [rowC, numF, List.map_nil, List.flatten_nil, List.nil_append]
    rw [List.all_flatten, List.all_eq_true]; intro l hl
    obtain rfl := List.eq_of_mem_replicate hl; rfl
  | k, e :: es, h => by
    have ih := row_ids p r (k + 1) es fun i hi => by rw [← h (i + 1) (by simpa using hi)]; congr 1; omega
    have h0 : p k = true := h 0 (by simp)
    simp only [rowC, numF, List.map_cons, List.flatten_cons, List.append_assoc, List.all_append, Bool.and_eq_true] at ih ⊢
    refine ⟨?_, ih⟩
    show (true && (p k && true)) = true
    rw [h0]; rfl
theorem wkHp_wins {π0 : List (Option Nat)} {h : List SB} : ∀ {es : List PE}, (∀ (i : Nat) (e : PE), es[i]? = some e → h[e.w]? = some (wB e.o (e.d ++ e.sp)) ∧ (0 < e.d.length + e.sp.length → e.o = true)) → wkHp π0 h (es.map fun e => some e.w) (winsC es)
  | [], _ => trivial
  | e :: es, H => by
    have ih := wkHp_wins (π0 := π0) (es := es) fun i f hf => H (i + 1) f (by simpa using hf)
    refine ⟨?_, ih⟩
    rw [(H 0 e rfl).1]
    exact ⟨.inl ⟨ids_bsC .., (ren_bsC ..).symm⟩, fun h => ⟨h, rfl⟩⟩
theorem Opts.nodup {H : List SB} {iO : Nat} {o : Bool} {es : List PE} {r : Nat} (O : Opts H iO o es r) : (iO :: es.map PE.w).Nodup := by
  rw [List.nodup_cons]
  constructor
  · intro h
    simp only [List.mem_map] at h
    obtain ⟨e, he, hw⟩ := h
    obtain ⟨i, hi⟩ := List.mem_iff_getElem?.1 he
    exact ne_of_ty O.row (O.at_ i e hi).1 (fun h => absurd h (by decide : (74 : Nat) ≠ 5)) hw.symm
  · rw [List.Nodup, List.pairwise_iff_getElem]
    intro i j hi hj hij
    rw [List.length_map] at hi hj
    rw [List.getElem_map, List.getElem_map]
    exact O.ne i j _ _ (by omega) (List.getElem?_eq_getElem hi) (List.getElem?_eq_getElem hj)
def outP (x : Except Int (List PI)) (s : SV) (h' : List SB) : Prop := match x with
  | .ok ps => ∃ iO o es r, s = .tup [(false, [.sl iO 0 es.length (es.length + r)]), (false, [i64 0])] ∧ Opts h' iO o es r ∧ es.map PE.pi = ps
  | .error e => s = .tup [(false, [nilS]), (false, [i64 e])]
theorem resP_of {P : Program} {f : FuncId} {args : List SV} {x : Except Int (List PI)} (s : Spec P f args [] (outP x)) : Spec P f args [] (resP x) :=
  s.wk fun t h' h => by
    cases x with
    | error e =>
      subst h
      exact ⟨.tup [(false, [.sl 0 0 0 0]), (false, [i64 e])], [optB false []], [none], rfl, by simp only [XX, Nat.reduceBEq, Nat.reduceLT, Nat.reduceAdd, Nat.reduceMul, Nat.reduceSub, Nat.reduceLeDiff, Nat.reduceEqDiff, Int.reduceToNat, Int.reduceLT, Int.reduceLE, Int.reduceAdd, Int.reduceSub, Int.reduceEq, reduceIte, Nat.reduceBNe, Int.reducePow, Nat.reducePow, Int.reduceMul, Int.reduceNeg, isB_i, isB_b, isB_y, isBv_i, isBv_b, eqCells_t, TT], .inr ⟨rfl, ⟨.inr (.inr ⟨_, _, rfl, .inl rfl⟩), trivial⟩, rfl, ⟨.inl ⟨rfl, rfl⟩, trivial⟩, trivial⟩, false, [], 0, rfl, rfl, fun h => absurd h (by simp), (fun e h => nomatch h), rfl⟩
    | ok ps =>
      obtain ⟨iO, o, es, r, rfl, O, hp⟩ := h
      have hpi : (some iO :: es.map fun e => some e.w) = (iO :: es.map PE.w).map some := by simp
      refine ⟨.tup [(false, [.sl 0 0 es.length (es.length + r)]), (false, [i64 0])], optB o (rowC (numF 1 es) r) :: winsC es, some iO :: es.map fun e => some e.w, ?_, ⟨?_, wkHp_wins O.at_⟩, .inl ⟨rfl, rfl⟩, o, es, r, rfl, rfl, O.own, fun e he => ?_, hp⟩
      · rw [hpi]; exact piBase_all _ _ O.nodup
      · rw [O.row]
        refine ⟨.inl ⟨row_ids _ _ _ _ fun i hi => ?_, (row_ren _ _ _ _ fun i e he => ?_).symm⟩, fun h => ⟨h, rfl⟩⟩
        · unfold isW
          rw [Nat.add_comm, List.getElem?_cons_succ, List.getElem?_map, List.getElem?_eq_getElem hi]; rfl
        · unfold srcW
          rw [Nat.add_comm, List.getElem?_cons_succ, List.getElem?_map, he]; rfl
      · obtain ⟨i, hi⟩ := List.mem_iff_getElem?.1 he
        exact (O.at_ i e hi).2
/-- A call that gives a row. -/
theorem call_opts {P : Program} {xn : XN} {f : FuncId} {args : List SV} (args0 : List SV) {dst : Option Tmp} {k : List KI} {nm : NB} {tm : List (Nat × SV)} {hp : List SB} {Q : XE → St → Prop} {x : Except Int (List PI)}
    (s : Spec P f args0 [] (resP x)) (ha : frA true (fun _ => true) (renF [] hp.length) 0 hp args args0)
    (hk : ∀ (t : List SB) (o : Bool) (es : List PE) (r : Nat), Opts (hp ++ t) hp.length o es r → (∀ e ∈ es, hp.length < e.w) → es.map PE.pi = parL x →
      xn k ⟨nm, put dst (.tup [(false, [.sl hp.length 0 es.length (es.length + r)]), (false, [i64 (parE x)])]) tm, hp ++ t⟩ Q) : CallGoal P xn f args dst k ⟨nm, tm, hp⟩ Q := by
  refine call_fz args0 s (fun t h' => resP_noRo) ha ?_
  rintro _ _ ⟨o, es, r, rfl, rfl, h1, h2, h3⟩
  have e1 : renF [] hp.length 0 = hp.length := rfl
  have e2 : (rowC (numF 1 es) r).map (SC.ren (renF [] hp.length)) = rowC (numF (hp.length + 1) es) r := by
    have a1 := row_ren (renF [] hp.length) r 1 (es := numF (hp.length + 1) es) ?_
    · have : numF 1 (numF (hp.length + 1) es) = numF 1 es := by
        have g : ∀ (k m : Nat) (es : List PE), numF k (numF m es) = numF k es := by
          intro k m es
          induction es generalizing k m with
          | nil => rfl
          | cons e es ih => simp only [numF, ih]
        exact g _ _ _
      rw [this] at a1
      exact a1
    · intro i e he
      obtain ⟨f, hf, rfl⟩ := numF_at he
      show hp.length + (1 + i - 0) = hp.length + 1 + i
      omega
  have e3 : (winsC es).map (SB.ren (renF [] hp.length)) = winsC es := by
    rw [List.map_map]
    refine List.map_congr_left fun e he => ?_
    show SB.mk _ _ (List.map _ (bsC _)) = _
    rw [ren_bsC]
  have := hk (optB o (rowC (numF (hp.length + 1) es) r) :: winsC es) o (numF (hp.length + 1) es) r ⟨?_, by rw [numF_len]; exact h1, fun i e he => ?_, fun i j e f hij he hf => ?_⟩ (fun e he => ?_) (by rw [numF_pi, h3])
  · rw [numF_len] at this
    simp only [List.map_cons, e3]
    show xn k ⟨nm, put dst (.tup [(false, [SC.sl (renF [] hp.length 0) 0 es.length (es.length + r)]), (false, [i64 _])]) tm, hp ++ (⟨o, _, (rowC (numF 1 es) r).map (SC.ren (renF [] hp.length))⟩ :: winsC es)⟩ Q
    rw [e2, e1]
    exact this
  · rw [List.getElem?_append_right (Nat.le_refl _), Nat.sub_self]; rfl
  · obtain ⟨f, hf, rfl⟩ := numF_at he
    refine ⟨?_, h2 f (List.mem_of_getElem? hf)⟩
    show (hp ++ _)[hp.length + 1 + i]? = _
    rw [List.getElem?_append_right (by omega), show hp.length + 1 + i - hp.length = i + 1 by omega, List.getElem?_cons_succ, List.getElem?_map, hf]; rfl
  · obtain ⟨f1, hf1, rfl⟩ := numF_at he
    obtain ⟨f2, hf2, rfl⟩ := numF_at hf
    show hp.length + 1 + i ≠ hp.length + 1 + j
    omega
  · obtain ⟨i, hi⟩ := List.mem_iff_getElem?.1 he
    obtain ⟨f, hf, rfl⟩ := numF_at hi
    show hp.length < hp.length + 1 + i
    omega
/-- Bytes behind nothing. -/
theorem xapp_nilB {xn : XN} {dst : Option Tmp} {k : List KI} {nm : NB} {tm : List (Nat × SV)} {Q : XE → St → Prop} {h : List SB} {news : List UInt8} {m g : Nat} (hm : news.length = m) (hg : g = h.length)
    (hk : ∀ (j : Nat) (o : Bool), (0 < news.length + (List.replicate j (0 : UInt8)).length → o = true) → xn k ⟨nm, put dst (.c (slB g news (List.replicate j 0))) tm, h ++ [wB o (news ++ List.replicate j 0)]⟩ Q) :
    XApp xn m 0 dst k nm tm (.c (.v (.slice none 0 0)), h) (fun c => (.c (.sl g 0 m c), h ++ [⟨true, 5, bsC news ++ List.replicate (c - m) (SC.v (.int .u8 0))⟩])) Q := by
  subst hm
  refine xapp_nil (ty := 5) (z := [SC.v (.int .u8 0)]) (news := bsC news) (fun h => by rw [List.eq_nil_of_length_eq_zero h]; rfl) hg (fun j o ho => ?_) (fun c => by rw [rep_flat])
  have := hk j o (by rw [List.length_replicate]; exact ho)
  rw [rep_flat, bsC_zeros, bs_app]
  simpa only [slB, List.length_replicate] using this
/-- Bytes behind a list, or none; either way. -/
theorem xapp_any {xn : XN} {dst : Option Tmp} {k : List KI} {nm : NB} {tm : List (Nat × SV)} {Q : XE → St → Prop} {H : List SB} {w n m c : Nat} {o : Bool} {l sp news : List UInt8} {g : Nat} (B : Buf H w o l sp) (hn : l.length = n) (hm : news.length = m) (hc : c = n + sp.length) (hg : g = H.length)
    (hk : ∀ H' w' sp' o', Buf H' w' o' (l ++ news) sp' → H.length ≤ H'.length → (∀ k, k < H.length → k ≠ w → H'[k]? = H[k]?) → (w' = w ∨ H.length ≤ w') → xn k ⟨nm, put dst (.c (slB w' (l ++ news) sp')) tm, H'⟩ Q) :
    XApp xn (n + m) c dst k nm tm (.c (.sl w 0 (n + m) c), H.set w ⟨o, 5, (bsC (l ++ sp)).take n ++ (bsC news ++ (bsC (l ++ sp)).drop (n + m))⟩)
      (fun c' => (.c (.sl g 0 (n + m) c'), H ++ [⟨true, 5, (bsC (l ++ sp)).take n ++ (bsC news ++ List.replicate (c' - (n + m)) (SC.v (.int .u8 0)))⟩])) Q := by
  by_cases hp : 0 < n + m
  · exact xapp_more0 B hn hm hc hg hp fun H' w' sp' => hk H' w' sp' true
  have h1 : l = [] := List.eq_nil_of_length_eq_zero (by omega)
  have h2 : news = [] := List.eq_nil_of_length_eq_zero (by omega)
  subst h1; subst h2
  obtain rfl : n = 0 := by omega
  obtain rfl : m = 0 := by omega
  subst hc
  refine xapp_room (by omega) ?_
  have lw := lt_of B.at_
  exact hk _ w sp o ⟨List.getElem?_set_self lw, B.own⟩ (by simp) (fun k _ hk => List.getElem?_set_ne (Ne.symm hk)) (.inl rfl)
end Go.Proofs.Ytgegddefcgfhgaa.Sx
namespace Go.Proofs.Ytgegddefcgfhgaa.Sx
open Go
set_option linter.unusedSimpArgs false
set_option linter.unusedVariables false
set_option maxRecDepth 10000
set_option maxHeartbeats 2000000
/-- A part: its bytes, what stands behind them, their room. -/
abbrev PT4 := List UInt8 × List UInt8 × Nat
def partO (p : PT4) : RC := .sl (bsR (p.1 ++ p.2.1)) p.1.length p.2.2
theorem dropO {ps : List PT4} {rs : List RC} {i : Nat} {p : PT4} (h : ps[i]? = some p) : ∃ R, (ps.map partO ++ rs).drop i = .sl (bsR (p.1 ++ p.2.1)) p.1.length p.2.2 :: R := by
  have hi : i < ps.length := (List.getElem?_eq_some_iff.1 h).1
  refine ⟨(ps.map partO ++ rs).drop (i + 1), ?_⟩
  rw [List.drop_eq_getElem_cons (by simp; omega)]
  rw [List.getElem_append_left (by simpa using hi), List.getElem_map]
  congr 1
  rw [(List.getElem?_eq_some_iff.1 h).2]
  rfl
abbrev partsV (ps : List PT4) (rs : List RC) (c : Nat) : SC := .ro (ps.map partO ++ rs) ps.length c
def lenP (ps : List PT4) : Nat := (ps.map fun p => p.1.length).sum
structure PT4.ok (p : PT4) : Prop where
  c : p.1.length ≤ p.2.2
  m : p.1.length ≤ 140737488355328
abbrev bytesP (ps : List PT4) : List (List UInt8) := ps.map (·.1)
theorem sum_le {es : List PE} {j : Nat} {e : PE} (h : es[j]? = some e) : e.d.length ≤ (es.map fun e => e.d.length).sum := by
  obtain ⟨a, b, rfl⟩ := List.append_of_mem (List.mem_of_getElem? h)
  simp; omega
theorem sum_set {m : Nat} : ∀ {es : List PE} {j : Nat} {e f : PE}, es[j]? = some e → f.d.length = e.d.length + m → ((es.set j f).map fun e => e.d.length).sum = (es.map fun e => e.d.length).sum + m
  | x :: es, 0, e, f, h, hf => by
    simp only [List.getElem?_cons_zero, Option.some.injEq] at h
    subst h
    simp only [List.set_cons_zero, List.map_cons, List.sum_cons, hf]; omega
  | x :: es, j + 1, e, f, h, hf => by
    have := sum_set (es := es) (j := j) (by simpa using h) hf
    simp only [List.set_cons_succ, List.map_cons, List.sum_cons, this]; omega
theorem set_end {h : List SB} {a b : SB} : (h ++ [a]).set h.length b = h ++ [b] := by rw [List.set_append_right _ _ (Nat.le_refl _), Nat.sub_self]; rfl
theorem byteR_sc (x : UInt8) : (byteR x).toSC = .v (.int .u8 x.toNat) := rfl
theorem binS_uO {d : TD} {sz : List Bool} {fl : Bool} {op : BinOp} {k : IntKind} {a : Int} : binS d sz fl op (.c (.v undef)) (.c (.v (.int k a))) = .bad := by cases fl <;> rfl
theorem conv_uO {T : TypeId → Option TI} {fl : TypeId → Bool} {hp : List SB} {s d : TypeId} {x : Operand} : opR T fl hp (.convert s d x) [.c (.v undef)] = .bad := rfl
theorem ge0O : (([] : List RC).getD 0 (.v undef)).toSC = .v undef := rfl
theorem parse_spec (ps : List PT4) (rs : List RC) (c : Nat) (hok : ∀ p ∈ ps, p.ok) (hn : ps.length ≤ 140737488355328) (hT : lenP ps ≤ 140737488355328) : Spec cx.P 30 [.c (partsV ps rs c)] [] (resP (parseA (bytesP ps) [])) := by
  refine resP_of ?_
  refine spec_of_X cx_ok Try.func30 rfl (by kernel_rfl) (by kernel_rfl) (Nat.le_of_ble_eq_true rfl) 400 13 ?_
  simp (maxSteps := 4000000) only [Try.results30, XX, Nat.reduceBEq, Nat.reduceLT, Nat.reduceAdd, Nat.reduceMul, Nat.reduceSub, Nat.reduceLeDiff, Nat.reduceEqDiff, Int.reduceToNat, Int.reduceLT, Int.reduceLE, Int.reduceAdd, Int.reduceSub, Int.reduceEq, reduceIte, Nat.reduceBNe, Int.reducePow, Nat.reducePow, Int.reduceMul, Int.reduceNeg, isB_i, isB_b, isB_y, isBv_i, isBv_b, eqCells_t, TT]
  refine loop_any cx_ok 400 (fun μ σ => ∃ (i : Nat) (H : List SB) (iO : Nat) (o : Bool) (es : List PE) (r : Nat), μ = ps.length - i ∧ i ≤ ps.length ∧ Opts H iO o es r ∧ es.length ≤ 64 ∧ parseA (bytesP (ps.drop i)) (es.map PE.pi) = parseA (bytesP ps) [] ∧ (es.map fun e => e.d.length).sum + lenP (ps.drop i) ≤ lenP ps ∧
      σ = ⟨⟨13, 0⟩, [(4, .c (.sl iO 0 es.length (es.length + r))), (10, .c (partsV ps rs c)), (11, .c (i64 ps.length)), (12, .c (i64 i))], H⟩) ps.length
    ⟨⟨13, 0⟩, [(4, .c (.sl 0 0 0 0)), (10, .c (partsV ps rs c)), (11, .c (i64 ps.length)), (12, .c (i64 (0 : Nat)))], [optB false []]⟩ ⟨0, [optB false []], 0, false, [], 0, rfl, Nat.zero_le _, ⟨rfl, fun h => absurd h (by simp), fun i e h => by simp at h, fun i j e f _ h => by simp at h⟩, by simp, by simp, by simp, rfl⟩ ?_ ?_
  · exact .inr ⟨[none], rfl, rfl, ⟨⟨rfl, rfl⟩, trivial⟩, ⟨.inr (.inr (.inr ⟨_, _, rfl, .inl rfl⟩)), .inl ⟨rfl, rfl⟩, .inl ⟨rfl, rfl⟩, .inl ⟨rfl, rfl⟩, trivial⟩⟩
  rintro μ σ ⟨i, H, iO, o, es, r, rfl, hi, O, hes, hpar, hsum, rfl⟩
  have hrow := O.row
  have lrow := lt_of hrow
  by_cases hlt : i < ps.length
  · have hd : decide ((i : Int) < (ps.length : Int)) = true := by simp only [decide_eq_true_eq]; omega
    have e3 : IntKind.i64.wrap ((i : Int) + 1) = ((i + 1 : Nat) : Int) := by rw [w64] <;> omega
    obtain ⟨p, hp⟩ : ∃ p, ps[i]? = some p := ⟨_, List.getElem?_eq_getElem hlt⟩
    obtain ⟨R, hR⟩ := dropO (rs := rs) hp
    have hdr : ps.drop i = p :: ps.drop (i + 1) := by
      rw [List.drop_eq_getElem_cons hlt, (List.getElem?_eq_some_iff.1 hp).2]
    have hpc := hok p (List.mem_of_getElem? hp)
    have hpar0 : contA (parse1 p.1 (es.map PE.pi)) (bytesP (ps.drop (i + 1))) = parseA (bytesP ps) [] := by
      rw [← hpar, hdr]; rfl
    have hsum0 : (es.map fun e => e.d.length).sum + p.1.length + lenP (ps.drop (i + 1)) ≤ lenP ps := by
      rw [hdr] at hsum
      simp only [lenP, List.map_cons, List.sum_cons] at hsum ⊢
      omega
    simp (maxSteps := 4000000) only [Try.results30, hd, hR, XX, Nat.reduceBEq, Nat.reduceLT, Nat.reduceAdd, Nat.reduceMul, Nat.reduceSub, Nat.reduceLeDiff, Nat.reduceEqDiff, Int.reduceToNat, Int.reduceLT, Int.reduceLE, Int.reduceAdd, Int.reduceSub, Int.reduceEq, reduceIte, Nat.reduceBNe, Int.reducePow, Nat.reducePow, Int.reduceMul, Int.reduceNeg, isB_i, isB_b, isB_y, isBv_i, isBv_b, eqCells_t, TT]
    refine ⟨by omega, by omega, ?_⟩
    refine loop_any cx_ok 400 (fun μ σ => ∃ (l sp : List UInt8) (c' : Nat) (H : List SB) (iO : Nat) (o : Bool) (es : List PE) (r : Nat), μ = l.length ∧ l.length ≤ c' ∧ Opts H iO o es r ∧ es.length ≤ 64 ∧ contA (parse1 l (es.map PE.pi)) (bytesP (ps.drop (i + 1))) = parseA (bytesP ps) [] ∧ (es.map fun e => e.d.length).sum + l.length + lenP (ps.drop (i + 1)) ≤ lenP ps ∧
        σ = ⟨⟨13, 0⟩, [(4, .c (.sl iO 0 es.length (es.length + r))), (6, .c (roB l sp c')), (10, .c (partsV ps rs c)), (11, .c (i64 ps.length)), (12, .c (i64 i))], H⟩) p.1.length
      ⟨⟨13, 0⟩, [(4, .c (.sl iO 0 es.length (es.length + r))), (6, .c (roB p.1 p.2.1 p.2.2)), (10, .c (partsV ps rs c)), (11, .c (i64 ps.length)), (12, .c (i64 i))], H⟩ ⟨p.1, p.2.1, p.2.2, H, iO, o, es, r, rfl, hpc.c, O, hes, hpar0, hsum0, rfl⟩ (.inl ⟨rfl, rfl, rfl, rfl, rfl, rfl, rfl, trivial⟩) ?_
    clear hrow lrow hpar0 hsum0 hpar hsum hes O hR R
    rintro μ σ ⟨l, sp, c', H, iO, o, es, r, rfl, hc1, O, hes, hpar, hsum, rfl⟩
    have hrow := O.row
    have lrow := lt_of hrow
    match l, hc1, hpar, hsum with
    | [], hc1, hpar, hsum =>
      cases sp with
      | nil =>
        simp (maxSteps := 4000000) only [Try.results30, e3, ge0O, binS_uO, byteR_sc, XX, Nat.reduceBEq, Nat.reduceLT, Nat.reduceAdd, Nat.reduceMul, Nat.reduceSub, Nat.reduceLeDiff, Nat.reduceEqDiff, Int.reduceToNat, Int.reduceLT, Int.reduceLE, Int.reduceAdd, Int.reduceSub, Int.reduceEq, reduceIte, Nat.reduceBNe, Int.reducePow, Nat.reducePow, Int.reduceMul, Int.reduceNeg, isB_i, isB_b, isB_y, isBv_i, isBv_b, eqCells_t, TT]
        rw [parse1_nil] at hpar
        exact ⟨ps.length - (i + 1), by omega, _, ⟨i + 1, H, iO, o, es, r, rfl, by omega, O, hes, hpar, by simpa using hsum, rfl⟩, .inl ⟨rfl, rfl, rfl, rfl, rfl, rfl, trivial⟩⟩
      | cons y sp =>
        simp (maxSteps := 4000000) only [Try.results30, e3, ge0O, binS_uO, byteR_sc, XX, Nat.reduceBEq, Nat.reduceLT, Nat.reduceAdd, Nat.reduceMul, Nat.reduceSub, Nat.reduceLeDiff, Nat.reduceEqDiff, Int.reduceToNat, Int.reduceLT, Int.reduceLE, Int.reduceAdd, Int.reduceSub, Int.reduceEq, reduceIte, Nat.reduceBNe, Int.reducePow, Nat.reducePow, Int.reduceMul, Int.reduceNeg, isB_i, isB_b, isB_y, isBv_i, isBv_b, eqCells_t, TT]
        rw [parse1_nil] at hpar
        exact ⟨ps.length - (i + 1), by omega, _, ⟨i + 1, H, iO, o, es, r, rfl, by omega, O, hes, hpar, by simpa using hsum, rfl⟩, .inl ⟨rfl, rfl, rfl, rfl, rfl, rfl, trivial⟩⟩
    | x :: l, hc1, hpar, hsum =>
      have hl0 : decide ((0 : Int) < ((l.length + 1 : Nat) : Int)) = true := by simp only [decide_eq_true_eq]; omega
      have w0 : IntKind.i64.wrap 0 = 0 := by decide
      have t255 : ((255 : UInt8).toNat : Int) = 255 := rfl
      have t0 : ((0 : UInt8).toNat : Int) = 0 := rfl
      have ex : IntKind.i64.wrap (x.toNat : Int) = (x.toNat : Int) := by have := x.toNat_lt; rw [w64] <;> omega
      by_cases hx : x = 255
      · subst hx
        simp (maxSteps := 4000000) only [Try.results30, hl0, t255, byteR_sc, e3, XX, Nat.reduceBEq, Nat.reduceLT, Nat.reduceAdd, Nat.reduceMul, Nat.reduceSub, Nat.reduceLeDiff, Nat.reduceEqDiff, Int.reduceToNat, Int.reduceLT, Int.reduceLE, Int.reduceAdd, Int.reduceSub, Int.reduceEq, reduceIte, Nat.reduceBNe, Int.reducePow, Nat.reducePow, Int.reduceMul, Int.reduceNeg, isB_i, isB_b, isB_y, isBv_i, isBv_b, eqCells_t, TT]
        rw [parse1_end] at hpar
        simp only [List.length_cons] at hsum hc1
        refine ⟨by omega, by omega, ?_⟩
        exact ⟨ps.length - (i + 1), by omega, _, ⟨i + 1, H, iO, o, es, r, rfl, by omega, O, hes, hpar, by omega, rfl⟩, .inl ⟨rfl, rfl, rfl, rfl, rfl, rfl, trivial⟩⟩
      have dx : decide ((x.toNat : Int) = 255) = false := by
        simp only [decide_eq_false_iff_not]; intro h; exact hx (UInt8.toNat_inj.1 (by show x.toNat = 255; omega))
      by_cases hx0 : x = 0
      · subst hx0
        simp (maxSteps := 4000000) only [Try.results30, hl0, t0, byteR_sc, w0, set_end, Nat.add_sub_cancel, List.append_assoc, List.getElem?_append_left, List.getElem?_append_right, List.length_append, List.length_set, List.set_append_left, gset, List.getElem?_set_ne, Nat.add_sub_cancel_left, Nat.sub_self, Nat.le_refl, Nat.le_add_right, List.replicate_one, List.flatten_cons, List.flatten_nil, rep_flat, XX, Nat.reduceBEq, Nat.reduceLT, Nat.reduceAdd, Nat.reduceMul, Nat.reduceSub, Nat.reduceLeDiff, Nat.reduceEqDiff, Int.reduceToNat, Int.reduceLT, Int.reduceLE, Int.reduceAdd, Int.reduceSub, Int.reduceEq, reduceIte, Nat.reduceBNe, Int.reducePow, Nat.reducePow, Int.reduceMul, Int.reduceNeg, isB_i, isB_b, isB_y, isBv_i, isBv_b, eqCells_t, TT]
        rw [parse1_pad] at hpar
        simp only [List.length_cons] at hsum hc1
        refine ⟨by omega, by omega, by omega, by omega, by omega, ?_⟩
        exact ⟨l.length, by omega, _, ⟨l, sp, c' - 1, _, iO, o, es, r, rfl, by omega, O.app _, hes, hpar, by omega, rfl⟩, .inl ⟨rfl, rfl, rfl, rfl, rfl, rfl, rfl, trivial⟩⟩
      have dx0 : decide ((x.toNat : Int) = 0) = false := by
        simp only [decide_eq_false_iff_not]; intro h; exact hx0 (UInt8.toNat_inj.1 (by show x.toNat = 0; omega))
      have z0 : (#[] : Array Operand).size = 0 := rfl
      simp (maxSteps := 4000000) only [Try.results30, hl0, byteR_sc, dx, dx0, ex, z0, set_end, Nat.add_sub_cancel, List.append_assoc, List.getElem?_append_left, List.getElem?_append_right, List.length_append, List.length_set, List.set_append_left, gset, List.getElem?_set_ne, Nat.add_sub_cancel_left, Nat.sub_self, Nat.le_refl, Nat.le_add_right, List.replicate_one, List.flatten_cons, List.flatten_nil, rep_flat, XX, Nat.reduceBEq, Nat.reduceLT, Nat.reduceAdd, Nat.reduceMul, Nat.reduceSub, Nat.reduceLeDiff, Nat.reduceEqDiff, Int.reduceToNat, Int.reduceLT, Int.reduceLE, Int.reduceAdd, Int.reduceSub, Int.reduceEq, reduceIte, Nat.reduceBNe, Int.reducePow, Nat.reducePow, Int.reduceMul, Int.reduceNeg, isB_i, isB_b, isB_y, isBv_i, isBv_b, eqCells_t, TT]
      simp only [List.length_cons] at hsum hc1
      refine ⟨by omega, by omega, by omega, by omega, by omega, ?_⟩
      refine call_is (index_spec (H ++ [(⟨true, 3, [i64 (x.toNat : Int)]⟩ : SB)]) iO o es r (O.app _) hes (x.toNat : Int) H.length true (by rw [List.getElem?_append_right (Nat.le_refl _), Nat.sub_self]; rfl)) ?_
      rintro _ _ ⟨rfl, t, rfl⟩
      have hbox : ((H ++ [(⟨true, 3, [i64 (x.toNat : Int)]⟩ : SB)]) ++ t)[H.length]? = some ⟨true, 3, [i64 (x.toNat : Int)]⟩ := by
        rw [List.append_assoc, List.getElem?_append_right (Nat.le_refl _), Nat.sub_self]; rfl
      have lH : H.length < ((H ++ [(⟨true, 3, [i64 (x.toNat : Int)]⟩ : SB)]) ++ t).length := by simp
      have hk : atK ((es.map PE.pi).map (·.1)) (x.toNat : Int) = atK (es.map PE.k) (x.toNat : Int) := by rw [List.map_map]; rfl
      have Oa := (O.app [(⟨true, 3, [i64 (x.toNat : Int)]⟩ : SB)]).app t
      generalize (H ++ [(⟨true, 3, [i64 (x.toNat : Int)]⟩ : SB)]) ++ t = G at hbox lH Oa ⊢
      generalize H.length = ib at hbox lH ⊢
      clear O hrow lrow
      have hrow := Oa.row
      have lrow := lt_of hrow
      rcases atK_cases (es.map PE.k) (x.toNat : Int) with ⟨j, hj, hkj, ha⟩ | ⟨hno, ha⟩
      · rw [ha] at hk ⊢
        have hnb : ¬ (atK ((es.map PE.pi).map (·.1)) (x.toNat : Int) < 0 ∧ (es.map PE.pi).length = 64) := by rw [hk]; omega
        have dj : decide ((j : Int) < 0) = false := by simp only [decide_eq_false_iff_not]; omega
        match l, hc1, hsum, hpar with
        | [], hc1, hsum, hpar =>
          rw [parse1_short hx hx0 hnb] at hpar
          rw [← hpar]
          cases sp with
          | nil =>
            simp (maxSteps := 4000000) only [Try.results30, dj, Bool.false_and, ge0O, binS_uO, conv_uO, binS_ib, binS_bi, byteR_sc, XX, Nat.reduceBEq, Nat.reduceLT, Nat.reduceAdd, Nat.reduceMul, Nat.reduceSub, Nat.reduceLeDiff, Nat.reduceEqDiff, Int.reduceToNat, Int.reduceLT, Int.reduceLE, Int.reduceAdd, Int.reduceSub, Int.reduceEq, reduceIte, Nat.reduceBNe, Int.reducePow, Nat.reducePow, Int.reduceMul, Int.reduceNeg, isB_i, isB_b, isB_y, isBv_i, isBv_b, eqCells_t, TT]
            exact rfl
          | cons y sp =>
            simp (maxSteps := 4000000) only [Try.results30, dj, Bool.false_and, ge0O, binS_uO, conv_uO, binS_ib, binS_bi, byteR_sc, XX, Nat.reduceBEq, Nat.reduceLT, Nat.reduceAdd, Nat.reduceMul, Nat.reduceSub, Nat.reduceLeDiff, Nat.reduceEqDiff, Int.reduceToNat, Int.reduceLT, Int.reduceLE, Int.reduceAdd, Int.reduceSub, Int.reduceEq, reduceIte, Nat.reduceBNe, Int.reducePow, Nat.reducePow, Int.reduceMul, Int.reduceNeg, isB_i, isB_b, isB_y, isBv_i, isBv_b, eqCells_t, TT]
            exact rfl
        | n :: l, hc1, hsum, hpar =>
          have en : IntKind.i64.wrap (n.toNat : Int) = (n.toNat : Int) := by have := n.toNat_lt; rw [w64] <;> omega
          have dl : decide (((l.length + 1 : Nat) : Int) = 0) = false := by simp only [decide_eq_false_iff_not]; omega
          have bn := n.toNat_lt
          simp only [List.length_cons] at hc1 hsum
          by_cases hs : l.length < n.toNat
          · rw [parse1_cut hx hx0 hnb hs] at hpar
            rw [← hpar]
            have dn : decide (((l.length + 1 : Nat) : Int) ≤ (n.toNat : Int)) = true := by simp only [decide_eq_true_eq]; omega
            simp (maxSteps := 4000000) only [Try.results30, dj, Bool.false_and, byteR_sc, dl, dn, en, XX, Nat.reduceBEq, Nat.reduceLT, Nat.reduceAdd, Nat.reduceMul, Nat.reduceSub, Nat.reduceLeDiff, Nat.reduceEqDiff, Int.reduceToNat, Int.reduceLT, Int.reduceLE, Int.reduceAdd, Int.reduceSub, Int.reduceEq, reduceIte, Nat.reduceBNe, Int.reducePow, Nat.reducePow, Int.reduceMul, Int.reduceNeg, isB_i, isB_b, isB_y, isBv_i, isBv_b, eqCells_t, TT]
            exact ⟨by omega, by omega, rfl⟩
          · rw [parse1_put hx hx0 hnb (by omega)] at hpar
            have dn : decide (((l.length + 1 : Nat) : Int) ≤ (n.toNat : Int)) = false := by simp only [decide_eq_false_iff_not]; omega
            have e1n : IntKind.i64.wrap (1 + (n.toNat : Int)) = ((1 + n.toNat : Nat) : Int) := by rw [w64] <;> omega
            have d2 : List.drop (1 + n.toNat) (byteR n :: List.map byteR (l ++ sp)) = bsR (l.drop n.toNat ++ sp) := by rw [Nat.add_comm, List.drop_succ_cons, ← List.map_drop, List.drop_append_of_le_length (by omega)]
            have d3 : l.length + 1 - (1 + n.toNat) = (l.drop n.toNat).length := by rw [List.length_drop]; omega
            have lt1 : (bsC (l.take n.toNat)).length = n.toNat := by rw [bsC_len, List.length_take]; omega
            have d1 : ((bsR (l ++ sp)).take n.toNat) = bsR (l.take n.toNat) := by rw [rs_take, List.take_append_of_le_length (by omega)]
            simp (maxSteps := 4000000) only [Try.results30, dj, Bool.false_and, byteR_sc, dl, dn, en, e1n, hrow, lrow, hbox, lH, List.append_assoc, List.getElem?_append_left, List.getElem?_append_right, List.length_append, List.length_set, List.set_append_left, gset, List.getElem?_set_ne, Nat.add_sub_cancel_left, Nat.sub_self, Nat.le_refl, Nat.le_add_right, List.replicate_one, List.flatten_cons, List.flatten_nil, rep_flat, XX, Nat.reduceBEq, Nat.reduceLT, Nat.reduceAdd, Nat.reduceMul, Nat.reduceSub, Nat.reduceLeDiff, Nat.reduceEqDiff, Int.reduceToNat, Int.reduceLT, Int.reduceLE, Int.reduceAdd, Int.reduceSub, Int.reduceEq, reduceIte, Nat.reduceBNe, Int.reducePow, Nat.reducePow, Int.reduceMul, Int.reduceNeg, isB_i, isB_b, isB_y, isBv_i, isBv_b, eqCells_t, TT]
            refine ⟨by omega, by omega, by omega, by omega, ?_⟩
            have hj' : j < es.length := by simpa using hj
            obtain ⟨e, he⟩ : ∃ e, es[j]? = some e := ⟨_, List.getElem?_eq_getElem (by simpa using hj)⟩
            obtain ⟨hw, ow⟩ := Oa.at_ j e he
            have lw := lt_of hw
            have gk := (row_get (r := r) he).2
            have lr := rowC_len es r
            refine draw_of cx_ok (by kernel_rfl) 400 [] [(0, true), (1, true), (2, true), (3, true), (4, true), (5, true), (7, true), (8, true), (9, true), (6, false), (10, false), (11, true), (12, true), (13, false)] (by kernel_rfl) (by first | exact hok | simp [*]) ?_
            simp (maxSteps := 4000000) only [Try.results30, hrow, lrow, hw, lw, gk, d1, lt1, bsR_toSC, maskL_nil, unL_nil, List.append_assoc, List.getElem?_append_left, List.getElem?_append_right, List.length_append, List.length_set, List.set_append_left, gset, List.getElem?_set_ne, Nat.add_sub_cancel_left, Nat.sub_self, Nat.le_refl, Nat.le_add_right, List.replicate_one, List.flatten_cons, List.flatten_nil, rep_flat, XX, Nat.reduceBEq, Nat.reduceLT, Nat.reduceAdd, Nat.reduceMul, Nat.reduceSub, Nat.reduceLeDiff, Nat.reduceEqDiff, Int.reduceToNat, Int.reduceLT, Int.reduceLE, Int.reduceAdd, Int.reduceSub, Int.reduceEq, reduceIte, Nat.reduceBNe, Int.reducePow, Nat.reducePow, Int.reduceMul, Int.reduceNeg, isB_i, isB_b, isB_y, isBv_i, isBv_b, eqCells_t, TT]
            have l1 := bsC_len (e.d ++ e.sp)
            refine ⟨by omega, by omega, by rw [flatc_len, rep_len (sz := 2) rfl]; omega, ⟨⟨?_, ?_, by rw [l1, List.length_append]; omega, fun h => ⟨?_, by rw [l1, List.length_append]; omega⟩⟩, by simp; omega⟩, xapp_any ⟨hw, ow⟩ rfl (by rw [List.length_take]; omega) rfl rfl ?_⟩
            · have := sum_le he; omega
            · have := sum_le he; unfold maxLen; omega
            · by_cases hz : n.toNat = 0
              · exact .inl hz
              · exact .inr (ow (by omega))
            intro G' w' sp' o' B' hG' hkp' hw'
            have hrow' := (hkp' iO lrow (Oa.neR he).symm).trans hrow
            have lrow' := lt_of hrow'
            have lw' := lt_of B'.at_
            simp (maxSteps := 4000000) only [Try.results30, hrow', lrow', hw, lw, lw', B'.at_, gk, d1, d2, d3, lt1, bsR_toSC, maskL_nil, unL_nil, List.append_assoc, List.getElem?_append_left, List.getElem?_append_right, List.length_append, List.length_set, List.set_append_left, gset, List.getElem?_set_ne, Nat.add_sub_cancel_left, Nat.sub_self, Nat.le_refl, Nat.le_add_right, List.replicate_one, List.flatten_cons, List.flatten_nil, rep_flat, XX, Nat.reduceBEq, Nat.reduceLT, Nat.reduceAdd, Nat.reduceMul, Nat.reduceSub, Nat.reduceLeDiff, Nat.reduceEqDiff, Int.reduceToNat, Int.reduceLT, Int.reduceLE, Int.reduceAdd, Int.reduceSub, Int.reduceEq, reduceIte, Nat.reduceBNe, Int.reducePow, Nat.reducePow, Int.reduceMul, Int.reduceNeg, isB_i, isB_b, isB_y, isBv_i, isBv_b, eqCells_t, TT]
            have hek : e.k = (x.toNat : Int) := by rw [List.getElem?_map, he] at hkj; simpa using hkj
            have On := opts_old (d := l.take n.toNat) Oa he B' hG' hkp' hw' (row_store (r := r) (f := ⟨e.k, e.d ++ l.take n.toNat, w', sp', o'⟩) he rfl)
            rw [putP_hit hk (x := e.d) (by rw [List.getElem?_map, he, ← hek]; rfl)] at hpar
            refine ⟨by omega, ⟨Oa.own (by omega), by rw [flatc_len, rep_len (sz := 2) rfl]; omega⟩, by omega, (l.drop n.toNat).length, by rw [List.length_drop]; omega, ⟨⟨13, 0⟩, [(4, .c (.sl iO 0 es.length (es.length + r))), (6, .c (roB (l.drop n.toNat) sp (c' - 1 - (1 + n.toNat)))), (10, .c (partsV ps rs c)), (11, .c (i64 ps.length)), (12, .c (i64 i))], _⟩, ⟨l.drop n.toNat, sp, c' - 1 - (1 + n.toNat), _, iO, o, _, r, rfl, by rw [List.length_drop]; omega, On, by rw [List.length_set]; exact hes, ?_, ?_, by rw [List.length_set]⟩, .inl ⟨rfl, rfl, rfl, rfl, rfl, rfl, rfl, trivial⟩⟩
            · rw [← hpar, List.map_set, ← hek]
            · rw [sum_set (m := n.toNat) he (by simp; omega), List.length_drop]; omega
      · rw [ha] at hk ⊢
        by_cases h64 : es.length = 64
        · have d64 : decide ((es.length : Int) = 64) = true := by simp only [decide_eq_true_eq]; omega
          simp (maxSteps := 4000000) only [Try.results30, d64, XX, Nat.reduceBEq, Nat.reduceLT, Nat.reduceAdd, Nat.reduceMul, Nat.reduceSub, Nat.reduceLeDiff, Nat.reduceEqDiff, Int.reduceToNat, Int.reduceLT, Int.reduceLE, Int.reduceAdd, Int.reduceSub, Int.reduceEq, reduceIte, Nat.reduceBNe, Int.reducePow, Nat.reducePow, Int.reduceMul, Int.reduceNeg, isB_i, isB_b, isB_y, isBv_i, isBv_b, eqCells_t, TT]
          rw [parse1_many l hx hx0 hk (by rw [List.length_map]; exact h64)] at hpar
          rw [← hpar]
          exact rfl
        · have d64 : decide ((es.length : Int) = 64) = false := by simp only [decide_eq_false_iff_not]; omega
          have hnb : ¬ (atK ((es.map PE.pi).map (·.1)) (x.toNat : Int) < 0 ∧ (es.map PE.pi).length = 64) := by rw [List.length_map]; omega
          match l, hc1, hsum, hpar with
          | [], hc1, hsum, hpar =>
            rw [parse1_short hx hx0 hnb] at hpar
            rw [← hpar]
            cases sp with
            | nil =>
              simp (maxSteps := 4000000) only [Try.results30, d64, ge0O, binS_uO, conv_uO, binS_ib, binS_bi, byteR_sc, XX, Nat.reduceBEq, Nat.reduceLT, Nat.reduceAdd, Nat.reduceMul, Nat.reduceSub, Nat.reduceLeDiff, Nat.reduceEqDiff, Int.reduceToNat, Int.reduceLT, Int.reduceLE, Int.reduceAdd, Int.reduceSub, Int.reduceEq, reduceIte, Nat.reduceBNe, Int.reducePow, Nat.reducePow, Int.reduceMul, Int.reduceNeg, isB_i, isB_b, isB_y, isBv_i, isBv_b, eqCells_t, TT]
              exact rfl
            | cons y sp =>
              simp (maxSteps := 4000000) only [Try.results30, d64, ge0O, binS_uO, conv_uO, binS_ib, binS_bi, byteR_sc, XX, Nat.reduceBEq, Nat.reduceLT, Nat.reduceAdd, Nat.reduceMul, Nat.reduceSub, Nat.reduceLeDiff, Nat.reduceEqDiff, Int.reduceToNat, Int.reduceLT, Int.reduceLE, Int.reduceAdd, Int.reduceSub, Int.reduceEq, reduceIte, Nat.reduceBNe, Int.reducePow, Nat.reducePow, Int.reduceMul, Int.reduceNeg, isB_i, isB_b, isB_y, isBv_i, isBv_b, eqCells_t, TT]
              exact rfl
          | n :: l, hc1, hsum, hpar =>
            have en : IntKind.i64.wrap (n.toNat : Int) = (n.toNat : Int) := by have := n.toNat_lt; rw [w64] <;> omega
            have dl : decide (((l.length + 1 : Nat) : Int) = 0) = false := by simp only [decide_eq_false_iff_not]; omega
            have bn := n.toNat_lt
            simp only [List.length_cons] at hc1 hsum
            by_cases hs : l.length < n.toNat
            · rw [parse1_cut hx hx0 hnb hs] at hpar
              rw [← hpar]
              have dn : decide (((l.length + 1 : Nat) : Int) ≤ (n.toNat : Int)) = true := by simp only [decide_eq_true_eq]; omega
              simp (maxSteps := 4000000) only [Try.results30, d64, byteR_sc, dl, dn, en, XX, Nat.reduceBEq, Nat.reduceLT, Nat.reduceAdd, Nat.reduceMul, Nat.reduceSub, Nat.reduceLeDiff, Nat.reduceEqDiff, Int.reduceToNat, Int.reduceLT, Int.reduceLE, Int.reduceAdd, Int.reduceSub, Int.reduceEq, reduceIte, Nat.reduceBNe, Int.reducePow, Nat.reducePow, Int.reduceMul, Int.reduceNeg, isB_i, isB_b, isB_y, isBv_i, isBv_b, eqCells_t, TT]
              exact ⟨by omega, by omega, rfl⟩
            · rw [parse1_put hx hx0 hnb (by omega)] at hpar
              have dn : decide (((l.length + 1 : Nat) : Int) ≤ (n.toNat : Int)) = false := by simp only [decide_eq_false_iff_not]; omega
              have e1n : IntKind.i64.wrap (1 + (n.toNat : Int)) = ((1 + n.toNat : Nat) : Int) := by rw [w64] <;> omega
              have d2 : List.drop (1 + n.toNat) (byteR n :: List.map byteR (l ++ sp)) = bsR (l.drop n.toNat ++ sp) := by rw [Nat.add_comm, List.drop_succ_cons, ← List.map_drop, List.drop_append_of_le_length (by omega)]
              have d3 : l.length + 1 - (1 + n.toNat) = (l.drop n.toNat).length := by rw [List.length_drop]; omega
              have lt1 : (bsC (l.take n.toNat)).length = n.toNat := by rw [bsC_len, List.length_take]; omega
              have d1 : ((bsR (l ++ sp)).take n.toNat) = bsR (l.take n.toNat) := by rw [rs_take, List.take_append_of_le_length (by omega)]
              simp (maxSteps := 4000000) only [Try.results30, d64, byteR_sc, dl, dn, en, e1n, hrow, lrow, hbox, lH, List.append_assoc, List.getElem?_append_left, List.getElem?_append_right, List.length_append, List.length_set, List.set_append_left, gset, List.getElem?_set_ne, Nat.add_sub_cancel_left, Nat.sub_self, Nat.le_refl, Nat.le_add_right, List.replicate_one, List.flatten_cons, List.flatten_nil, rep_flat, XX, Nat.reduceBEq, Nat.reduceLT, Nat.reduceAdd, Nat.reduceMul, Nat.reduceSub, Nat.reduceLeDiff, Nat.reduceEqDiff, Int.reduceToNat, Int.reduceLT, Int.reduceLE, Int.reduceAdd, Int.reduceSub, Int.reduceEq, reduceIte, Nat.reduceBNe, Int.reducePow, Nat.reducePow, Int.reduceMul, Int.reduceNeg, isB_i, isB_b, isB_y, isBv_i, isBv_b, eqCells_t, TT]
              refine ⟨by omega, by omega, ⟨by omega, by unfold maxLen; omega, by rw [flatc_len]; omega, fun h => ⟨Oa.own (by omega), by rw [flatc_len, rep_len (sz := 2) rfl]; omega⟩⟩, opts_push Oa rfl ?_⟩
              intro G' iO' r' On hG' hkp' hiO'
              have hrow' := On.row
              have lrow' := lt_of hrow'
              simp (maxSteps := 4000000) only [Try.results30, byteR_sc, en, e1n, hrow', lrow', List.append_assoc, List.getElem?_append_left, List.getElem?_append_right, List.length_append, List.length_set, List.set_append_left, gset, List.getElem?_set_ne, Nat.add_sub_cancel_left, Nat.sub_self, Nat.le_refl, Nat.le_add_right, List.replicate_one, List.flatten_cons, List.flatten_nil, rep_flat, XX, Nat.reduceBEq, Nat.reduceLT, Nat.reduceAdd, Nat.reduceMul, Nat.reduceSub, Nat.reduceLeDiff, Nat.reduceEqDiff, Int.reduceToNat, Int.reduceLT, Int.reduceLE, Int.reduceAdd, Int.reduceSub, Int.reduceEq, reduceIte, Nat.reduceBNe, Int.reducePow, Nat.reducePow, Int.reduceMul, Int.reduceNeg, isB_i, isB_b, isB_y, isBv_i, isBv_b, eqCells_t, TT]
              refine ⟨by omega, by omega, ?_⟩
              have gk := rowN_get es (x.toNat : Int) r'
              have gl := rowN_len es (x.toNat : Int) r'
              refine draw_of cx_ok (by kernel_rfl) 400 [] [(0, true), (1, true), (2, true), (3, true), (4, true), (5, true), (7, true), (8, true), (9, true), (6, false), (10, false), (11, true), (12, true), (13, false)] (by kernel_rfl) (by first | exact hok | simp [*]) ?_
              simp (maxSteps := 4000000) only [Try.results30, hrow', lrow', gk, d1, lt1, bsR_toSC, maskL_nil, unL_nil, List.append_assoc, List.getElem?_append_left, List.getElem?_append_right, List.length_append, List.length_set, List.set_append_left, gset, List.getElem?_set_ne, Nat.add_sub_cancel_left, Nat.sub_self, Nat.le_refl, Nat.le_add_right, List.replicate_one, List.flatten_cons, List.flatten_nil, rep_flat, XX, Nat.reduceBEq, Nat.reduceLT, Nat.reduceAdd, Nat.reduceMul, Nat.reduceSub, Nat.reduceLeDiff, Nat.reduceEqDiff, Int.reduceToNat, Int.reduceLT, Int.reduceLE, Int.reduceAdd, Int.reduceSub, Int.reduceEq, reduceIte, Nat.reduceBNe, Int.reducePow, Nat.reducePow, Int.reduceMul, Int.reduceNeg, isB_i, isB_b, isB_y, isBv_i, isBv_b, eqCells_t, TT]
              refine ⟨by omega, by omega, by omega, ⟨⟨by omega, by unfold maxLen; omega⟩, by simp; omega⟩, xapp_nilB (by rw [List.length_take]; omega) rfl fun jj oo hoo => ?_⟩
              simp (maxSteps := 4000000) only [Try.results30, hrow', lrow', gk, d1, d2, d3, lt1, bsR_toSC, maskL_nil, unL_nil, List.append_assoc, List.getElem?_append_left, List.getElem?_append_right, List.length_append, List.length_set, List.set_append_left, gset, List.getElem?_set_ne, Nat.add_sub_cancel_left, Nat.sub_self, Nat.le_refl, Nat.le_add_right, List.replicate_one, List.flatten_cons, List.flatten_nil, rep_flat, XX, Nat.reduceBEq, Nat.reduceLT, Nat.reduceAdd, Nat.reduceMul, Nat.reduceSub, Nat.reduceLeDiff, Nat.reduceEqDiff, Int.reduceToNat, Int.reduceLT, Int.reduceLE, Int.reduceAdd, Int.reduceSub, Int.reduceEq, reduceIte, Nat.reduceBNe, Int.reducePow, Nat.reducePow, Int.reduceMul, Int.reduceNeg, isB_i, isB_b, isB_y, isBv_i, isBv_b, eqCells_t, TT]
              have On' := opts_new (d := l.take n.toNat) On hoo (rowN_store es (x.toNat : Int) r' (slB G'.length (l.take n.toNat) (List.replicate jj 0)))
              rw [putP_new hk] at hpar
              refine ⟨by omega, by omega, by omega, (l.drop n.toNat).length, by rw [List.length_drop]; omega, ⟨⟨13, 0⟩, [(4, .c (.sl iO' 0 (es.length + 1) (es.length + 1 + r'))), (6, .c (roB (l.drop n.toNat) sp (c' - 1 - (1 + n.toNat)))), (10, .c (partsV ps rs c)), (11, .c (i64 ps.length)), (12, .c (i64 i))], _⟩, ⟨l.drop n.toNat, sp, c' - 1 - (1 + n.toNat), _, iO', true, _, r', rfl, by rw [List.length_drop]; omega, On', by rw [List.length_append]; simp only [List.length_cons, List.length_nil]; omega, ?_, ?_, by rw [List.length_append]; rfl⟩, .inl ⟨rfl, rfl, rfl, rfl, rfl, rfl, rfl, trivial⟩⟩
              · rw [← hpar, List.map_append]; rfl
              · simp only [List.map_append, List.sum_append, List.map_cons, List.map_nil, List.sum_cons, List.sum_nil, List.length_drop, List.length_take]; omega
  obtain rfl : i = ps.length := by omega
  have hd : decide ((ps.length : Int) < (ps.length : Int)) = false := by simp
  simp (maxSteps := 4000000) only [Try.results30, hd, XX, Nat.reduceBEq, Nat.reduceLT, Nat.reduceAdd, Nat.reduceMul, Nat.reduceSub, Nat.reduceLeDiff, Nat.reduceEqDiff, Int.reduceToNat, Int.reduceLT, Int.reduceLE, Int.reduceAdd, Int.reduceSub, Int.reduceEq, reduceIte, Nat.reduceBNe, Int.reducePow, Nat.reducePow, Int.reduceMul, Int.reduceNeg, isB_i, isB_b, isB_y, isBv_i, isBv_b, eqCells_t, TT]
  rw [List.drop_length] at hpar
  rw [← hpar]
  exact ⟨iO, o, es, r, rfl, O, rfl⟩
end Go.Proofs.Ytgegddefcgfhgaa.Sx
namespace Go.Proofs.Ytgegddefcgfhgaa.Sx
open Go
set_option linter.unusedSimpArgs false
set_option linter.unusedVariables false
set_option maxRecDepth 10000
set_option maxHeartbeats 2000000
abbrev OI.pi (x : OI) : PI := (x.k, x.d)
abbrev piL (xs : List OI) : List PI := xs.map OI.pi
theorem piL_next {xs ys : List OI} {i : Nat} {x y : OI} (hx : xs[i]? = some x) (hy : ys[i]? = some y) (h : piL (xs.take i) = piL (ys.take i)) (hk : x.k = y.k) (hd : x.d = y.d) : piL (xs.take (i + 1)) = piL (ys.take (i + 1)) := by
  rw [take_nextO hx, take_nextO hy]
  simp only [piL, List.map_append, List.map_cons, List.map_nil] at h ⊢
  rw [h]
  simp only [OI.pi, hk, hd]
theorem piL_ne {xs ys : List OI} {i : Nat} {x y : OI} (hx : xs[i]? = some x) (hy : ys[i]? = some y) (hk : ¬ (x.k = y.k ∧ x.d = y.d)) : piL xs ≠ piL ys := by
  intro h
  have h1 : (piL xs)[i]? = (piL ys)[i]? := by rw [h]
  rw [List.getElem?_map, List.getElem?_map, hx, hy] at h1
  simp only [Option.map_some, Option.some.injEq, OI.pi, Prod.mk.injEq] at h1
  exact hk h1
theorem sameO_spec (xs sp ys sp' : List OI) (c c' : Nat) (hx : ∀ x ∈ xs, x.ok) (hy : ∀ x ∈ ys, x.ok) (hn : xs.length ≤ 140737488355328) (hm : ys.length ≤ 140737488355328) : Spec cx.P 37 [.c (roO xs sp c), .c (roO ys sp' c')] [] fun s _ => s.plain = true ∧ s = .c (bC (decide (piL xs = piL ys))) := by
  refine spec_of_X cx_ok Try.func37 rfl (by kernel_rfl) (by kernel_rfl) (Nat.le_of_ble_eq_true rfl) 400 6 ?_
  simp (maxSteps := 4000000) only [Try.results37, XX, Nat.reduceBEq, Nat.reduceLT, Nat.reduceAdd, Nat.reduceMul, Nat.reduceSub, Nat.reduceLeDiff, Nat.reduceEqDiff, Int.reduceToNat, Int.reduceLT, Int.reduceLE, Int.reduceAdd, Int.reduceSub, Int.reduceEq, reduceIte, Nat.reduceBNe, Int.reducePow, Nat.reducePow, Int.reduceMul, Int.reduceNeg, isB_i, isB_b, isB_y, isBv_i, isBv_b, eqCells_t, TT]
  by_cases hl : xs.length = ys.length
  · have dl : decide ((xs.length : Int) = (ys.length : Int)) = true := by simp only [decide_eq_true_eq]; omega
    simp (maxSteps := 4000000) only [Try.results37, dl, XX, Nat.reduceBEq, Nat.reduceLT, Nat.reduceAdd, Nat.reduceMul, Nat.reduceSub, Nat.reduceLeDiff, Nat.reduceEqDiff, Int.reduceToNat, Int.reduceLT, Int.reduceLE, Int.reduceAdd, Int.reduceSub, Int.reduceEq, reduceIte, Nat.reduceBNe, Int.reducePow, Nat.reducePow, Int.reduceMul, Int.reduceNeg, isB_i, isB_b, isB_y, isBv_i, isBv_b, eqCells_t, TT]
    refine loop_any cx_ok 400 (fun μ σ => ∃ i : Nat, μ = xs.length - i ∧ i ≤ xs.length ∧ piL (xs.take i) = piL (ys.take i) ∧
        σ = ⟨⟨6, 0⟩, [(0, .c (roO xs sp c)), (1, .c (roO ys sp' c')), (5, .c (i64 i))], []⟩) xs.length
      ⟨⟨6, 0⟩, [(0, .c (roO xs sp c)), (1, .c (roO ys sp' c')), (5, .c (i64 (0 : Nat)))], []⟩ ⟨0, rfl, Nat.zero_le _, by simp, rfl⟩ (.inl ⟨rfl, rfl, rfl, rfl, rfl, trivial⟩) ?_
    rintro μ σ ⟨i, rfl, hi, hf, rfl⟩
    by_cases hlt : i < xs.length
    · have hd : decide ((i : Int) < (xs.length : Int)) = true := by simp only [decide_eq_true_eq]; omega
      have e3 : IntKind.i64.wrap ((i : Int) + 1) = ((i + 1 : Nat) : Int) := by rw [w64] <;> omega
      obtain ⟨x, hxi⟩ : ∃ x, xs[i]? = some x := ⟨_, List.getElem?_eq_getElem hlt⟩
      obtain ⟨y, hyi⟩ : ∃ y, ys[i]? = some y := ⟨_, List.getElem?_eq_getElem (by omega)⟩
      obtain ⟨R, hR⟩ := osR_at (sp := sp) hxi
      obtain ⟨R', hR'⟩ := osR_at (sp := sp') hyi
      have tx : (bsR (x.d ++ x.sp)).take x.d.length = bsR x.d := by rw [rs_take, List.take_left' rfl]
      have ty : (bsR (y.d ++ y.sp)).take y.d.length = bsR y.d := by rw [rs_take, List.take_left' rfl]
      have q1 := isByte_bsC x.d
      have q2 := isByte_bsC y.d
      have b1 : x.d.length ≤ (bsR (x.d ++ x.sp)).length := by simp
      have b2 : y.d.length ≤ (bsR (y.d ++ y.sp)).length := by simp
      by_cases hk : x.k = y.k
      · have dk : decide (x.k = y.k) = true := by simpa using hk
        by_cases hdd : x.d = y.d
        · have ddd : decide (x.d = y.d) = true := by simpa using hdd
          simp (maxSteps := 4000000) only [Try.results37, hd, XX, Nat.reduceBEq, Nat.reduceLT, Nat.reduceAdd, Nat.reduceMul, Nat.reduceSub, Nat.reduceLeDiff, Nat.reduceEqDiff, Int.reduceToNat, Int.reduceLT, Int.reduceLE, Int.reduceAdd, Int.reduceSub, Int.reduceEq, reduceIte, Nat.reduceBNe, Int.reducePow, Nat.reducePow, Int.reduceMul, Int.reduceNeg, isB_i, isB_b, isB_y, isBv_i, isBv_b, eqCells_t, TT]
          refine draw_of cx_ok (by kernel_rfl) 400 [] [(0, true), (1, true), (2, true), (3, true), (4, true), (5, true), (6, true), (7, true), (8, true), (9, true), (10, true), (11, true), (12, true), (13, true), (14, true), (15, true), (16, true), (17, true), (18, true), (19, true), (20, true), (21, true), (22, true), (23, true), (24, true), (25, true)] (by kernel_rfl) rfl ?_
          simp (maxSteps := 4000000) only [Try.results37, hR, hR', dk, tx, ty, ddd, strOf_bsC, str_eq, bsR_toSC, e3, XX, Nat.reduceBEq, Nat.reduceLT, Nat.reduceAdd, Nat.reduceMul, Nat.reduceSub, Nat.reduceLeDiff, Nat.reduceEqDiff, Int.reduceToNat, Int.reduceLT, Int.reduceLE, Int.reduceAdd, Int.reduceSub, Int.reduceEq, reduceIte, Nat.reduceBNe, Int.reducePow, Nat.reducePow, Int.reduceMul, Int.reduceNeg, isB_i, isB_b, isB_y, isBv_i, isBv_b, eqCells_t, TT]
          exact ⟨by omega, by omega, by omega, by omega, by omega, by omega, ⟨b1, q1⟩, by omega, by omega, ⟨b2, q2⟩, xs.length - (i + 1), by omega, _, ⟨i + 1, rfl, by omega, piL_next hxi hyi hf hk hdd, rfl⟩, .inl ⟨rfl, rfl, rfl, rfl, rfl, trivial⟩⟩
        · have ddd : decide (x.d = y.d) = false := by simpa using hdd
          simp (maxSteps := 4000000) only [Try.results37, hd, XX, Nat.reduceBEq, Nat.reduceLT, Nat.reduceAdd, Nat.reduceMul, Nat.reduceSub, Nat.reduceLeDiff, Nat.reduceEqDiff, Int.reduceToNat, Int.reduceLT, Int.reduceLE, Int.reduceAdd, Int.reduceSub, Int.reduceEq, reduceIte, Nat.reduceBNe, Int.reducePow, Nat.reducePow, Int.reduceMul, Int.reduceNeg, isB_i, isB_b, isB_y, isBv_i, isBv_b, eqCells_t, TT]
          refine draw_of cx_ok (by kernel_rfl) 400 [] [(0, true), (1, true), (2, true), (3, true), (4, true), (5, true), (6, true), (7, true), (8, true), (9, true), (10, true), (11, true), (12, true), (13, true), (14, true), (15, true), (16, true), (17, true), (18, true), (19, true), (20, true), (21, true), (22, true), (23, true), (24, true), (25, true)] (by kernel_rfl) rfl ?_
          simp (maxSteps := 4000000) only [Try.results37, hR, hR', dk, tx, ty, ddd, strOf_bsC, str_eq, bsR_toSC, e3, XX, Nat.reduceBEq, Nat.reduceLT, Nat.reduceAdd, Nat.reduceMul, Nat.reduceSub, Nat.reduceLeDiff, Nat.reduceEqDiff, Int.reduceToNat, Int.reduceLT, Int.reduceLE, Int.reduceAdd, Int.reduceSub, Int.reduceEq, reduceIte, Nat.reduceBNe, Int.reducePow, Nat.reducePow, Int.reduceMul, Int.reduceNeg, isB_i, isB_b, isB_y, isBv_i, isBv_b, eqCells_t, TT]
          exact ⟨by omega, by omega, by omega, by omega, by omega, by omega, ⟨b1, q1⟩, by omega, by omega, ⟨b2, q2⟩, by rw [decide_eq_false (piL_ne hxi hyi fun h => hdd h.2)]⟩
      · have dk : decide (x.k = y.k) = false := by simpa using hk
        simp (maxSteps := 4000000) only [Try.results37, hd, XX, Nat.reduceBEq, Nat.reduceLT, Nat.reduceAdd, Nat.reduceMul, Nat.reduceSub, Nat.reduceLeDiff, Nat.reduceEqDiff, Int.reduceToNat, Int.reduceLT, Int.reduceLE, Int.reduceAdd, Int.reduceSub, Int.reduceEq, reduceIte, Nat.reduceBNe, Int.reducePow, Nat.reducePow, Int.reduceMul, Int.reduceNeg, isB_i, isB_b, isB_y, isBv_i, isBv_b, eqCells_t, TT]
        refine draw_of cx_ok (by kernel_rfl) 400 [] [(0, true), (1, true), (2, true), (3, true), (4, true), (5, true), (6, true), (7, true), (8, true), (9, true), (10, true), (11, true), (12, true), (13, true), (14, true), (15, true), (16, true), (17, true), (18, true), (19, true), (20, true), (21, true), (22, true), (23, true), (24, true), (25, true)] (by kernel_rfl) rfl ?_
        simp (maxSteps := 4000000) only [Try.results37, hR, hR', dk, tx, ty, strOf_bsC, str_eq, bsR_toSC, e3, XX, Nat.reduceBEq, Nat.reduceLT, Nat.reduceAdd, Nat.reduceMul, Nat.reduceSub, Nat.reduceLeDiff, Nat.reduceEqDiff, Int.reduceToNat, Int.reduceLT, Int.reduceLE, Int.reduceAdd, Int.reduceSub, Int.reduceEq, reduceIte, Nat.reduceBNe, Int.reducePow, Nat.reducePow, Int.reduceMul, Int.reduceNeg, isB_i, isB_b, isB_y, isBv_i, isBv_b, eqCells_t, TT]
        exact ⟨by omega, by omega, by omega, by omega, by rw [decide_eq_false (piL_ne hxi hyi fun h => hk h.1)]⟩
    obtain rfl : i = xs.length := by omega
    have hd : decide ((xs.length : Int) < (xs.length : Int)) = false := by simp
    simp (maxSteps := 4000000) only [Try.results37, hd, XX, Nat.reduceBEq, Nat.reduceLT, Nat.reduceAdd, Nat.reduceMul, Nat.reduceSub, Nat.reduceLeDiff, Nat.reduceEqDiff, Int.reduceToNat, Int.reduceLT, Int.reduceLE, Int.reduceAdd, Int.reduceSub, Int.reduceEq, reduceIte, Nat.reduceBNe, Int.reducePow, Nat.reducePow, Int.reduceMul, Int.reduceNeg, isB_i, isB_b, isB_y, isBv_i, isBv_b, eqCells_t, TT]
    have hpi : piL xs = piL ys := by rw [List.take_length, hl, List.take_length] at hf; exact hf
    simp [hpi]
  · have dl : decide ((xs.length : Int) = (ys.length : Int)) = false := by simp only [decide_eq_false_iff_not]; omega
    simp (maxSteps := 4000000) only [Try.results37, dl, XX, Nat.reduceBEq, Nat.reduceLT, Nat.reduceAdd, Nat.reduceMul, Nat.reduceSub, Nat.reduceLeDiff, Nat.reduceEqDiff, Int.reduceToNat, Int.reduceLT, Int.reduceLE, Int.reduceAdd, Int.reduceSub, Int.reduceEq, reduceIte, Nat.reduceBNe, Int.reducePow, Nat.reducePow, Int.reduceMul, Int.reduceNeg, isB_i, isB_b, isB_y, isBv_i, isBv_b, eqCells_t, TT]
    have : piL xs ≠ piL ys := fun h => hl (by have := congrArg List.length h; simpa using this)
    simp [this]
def resI (k : Int) (d : List UInt8) (s : SV) (h' : List SB) : Prop := s = .agg [i64 k, .sl 0 0 d.length d.length] ∧ h' = [wB true d]
section
variable (k : Int)
theorem numbered_spec (n : Nat) (hn : n < 4294967296) : Spec cx.P 44 [.c (i64 k), .c (i32 n)] [] (resI k (be4 n)) := by
  have e1 : IntKind.u64.wrap (n : Int) = (n : Int) := by rw [wu64] <;> omega
  refine Spec.wk (K := fun s h' => ∃ o, s = .agg [i64 k, .sl 1 0 4 4] ∧ h' = [o, wB true (be4 n)]) ?_ ?_
  · refine spec_of_X cx_ok Try.func44 rfl (by kernel_rfl) (by kernel_rfl) (Nat.le_of_ble_eq_true rfl) 400 5 ?_
    simp (maxSteps := 4000000) only [Try.results44, XX, Nat.reduceBEq, Nat.reduceLT, Nat.reduceAdd, Nat.reduceMul, Nat.reduceSub, Nat.reduceLeDiff, Nat.reduceEqDiff, Int.reduceToNat, Int.reduceLT, Int.reduceLE, Int.reduceAdd, Int.reduceSub, Int.reduceEq, reduceIte, Nat.reduceBNe, Int.reducePow, Nat.reducePow, Int.reduceMul, Int.reduceNeg, isB_i, isB_b, isB_y, isBv_i, isBv_b, eqCells_t, TT]
    simp (maxSteps := 4000000) only [Try.results44, e1, XX, Nat.reduceBEq, Nat.reduceLT, Nat.reduceAdd, Nat.reduceMul, Nat.reduceSub, Nat.reduceLeDiff, Nat.reduceEqDiff, Int.reduceToNat, Int.reduceLT, Int.reduceLE, Int.reduceAdd, Int.reduceSub, Int.reduceEq, reduceIte, Nat.reduceBNe, Int.reducePow, Nat.reducePow, Int.reduceMul, Int.reduceNeg, isB_i, isB_b, isB_y, isBv_i, isBv_b, eqCells_t, TT]
    refine call_frame (put4_spec n (by omega)) [] rfl rfl trivial rfl rfl ?_
    rintro _ _ ⟨rfl, rfl⟩
    simp (maxSteps := 4000000) only [Try.results44, ids_bsC, ren_bsC, noRo_bsC, plain_bsC, lt_bsC, ids_byte, ren_byte, noRo_byte, plain_byte, lt_byte, XX, Nat.reduceBEq, Nat.reduceLT, Nat.reduceAdd, Nat.reduceMul, Nat.reduceSub, Nat.reduceLeDiff, Nat.reduceEqDiff, Int.reduceToNat, Int.reduceLT, Int.reduceLE, Int.reduceAdd, Int.reduceSub, Int.reduceEq, reduceIte, Nat.reduceBNe, Int.reducePow, Nat.reducePow, Int.reduceMul, Int.reduceNeg, isB_i, isB_b, isB_y, isBv_i, isBv_b, eqCells_t, TT]
    exact ⟨_, rfl⟩
  · rintro _ _ ⟨o, rfl, rfl⟩
    exact ⟨.agg [i64 k, .sl 0 0 4 4], [wB true (be4 n)], [some 1], rfl, by simp only [XX, Nat.reduceBEq, Nat.reduceLT, Nat.reduceAdd, Nat.reduceMul, Nat.reduceSub, Nat.reduceLeDiff, Nat.reduceEqDiff, Int.reduceToNat, Int.reduceLT, Int.reduceLE, Int.reduceAdd, Int.reduceSub, Int.reduceEq, reduceIte, Nat.reduceBNe, Int.reducePow, Nat.reducePow, Int.reduceMul, Int.reduceNeg, isB_i, isB_b, isB_y, isBv_i, isBv_b, eqCells_t, TT, ids_bsC, ren_bsC, noRo_bsC, plain_bsC, lt_bsC, ids_byte, ren_byte, noRo_byte, plain_byte, lt_byte], by simp only [XX, Nat.reduceBEq, Nat.reduceLT, Nat.reduceAdd, Nat.reduceMul, Nat.reduceSub, Nat.reduceLeDiff, Nat.reduceEqDiff, Int.reduceToNat, Int.reduceLT, Int.reduceLE, Int.reduceAdd, Int.reduceSub, Int.reduceEq, reduceIte, Nat.reduceBNe, Int.reducePow, Nat.reducePow, Int.reduceMul, Int.reduceNeg, isB_i, isB_b, isB_y, isBv_i, isBv_b, eqCells_t, TT], rfl, rfl⟩
theorem byte_spec (n : Int) : Spec cx.P 43 [.c (i64 k), .c (i64 n)] [] (resI k [UInt8.ofInt n]) := by
  refine Spec.wk (K := fun s h' => ∃ o, s = .agg [i64 k, .sl 1 0 1 1] ∧ h' = [o, wB true [UInt8.ofInt n]]) ?_ ?_
  · refine spec_of_X cx_ok Try.func43 rfl (by kernel_rfl) (by kernel_rfl) (Nat.le_of_ble_eq_true rfl) 400 5 ?_
    simp (maxSteps := 4000000) only [Try.results43, XX, Nat.reduceBEq, Nat.reduceLT, Nat.reduceAdd, Nat.reduceMul, Nat.reduceSub, Nat.reduceLeDiff, Nat.reduceEqDiff, Int.reduceToNat, Int.reduceLT, Int.reduceLE, Int.reduceAdd, Int.reduceSub, Int.reduceEq, reduceIte, Nat.reduceBNe, Int.reducePow, Nat.reducePow, Int.reduceMul, Int.reduceNeg, isB_i, isB_b, isB_y, isBv_i, isBv_b, eqCells_t, TT]
    simp (maxSteps := 4000000) only [Try.results43, List.replicate_one, List.flatten_cons, List.flatten_nil, byteC_of, List.append_nil, XX, Nat.reduceBEq, Nat.reduceLT, Nat.reduceAdd, Nat.reduceMul, Nat.reduceSub, Nat.reduceLeDiff, Nat.reduceEqDiff, Int.reduceToNat, Int.reduceLT, Int.reduceLE, Int.reduceAdd, Int.reduceSub, Int.reduceEq, reduceIte, Nat.reduceBNe, Int.reducePow, Nat.reducePow, Int.reduceMul, Int.reduceNeg, isB_i, isB_b, isB_y, isBv_i, isBv_b, eqCells_t, TT]
    exact ⟨_, rfl⟩
  · rintro _ _ ⟨o, rfl, rfl⟩
    exact ⟨.agg [i64 k, .sl 0 0 1 1], [wB true [UInt8.ofInt n]], [some 1], rfl, by simp only [XX, Nat.reduceBEq, Nat.reduceLT, Nat.reduceAdd, Nat.reduceMul, Nat.reduceSub, Nat.reduceLeDiff, Nat.reduceEqDiff, Int.reduceToNat, Int.reduceLT, Int.reduceLE, Int.reduceAdd, Int.reduceSub, Int.reduceEq, reduceIte, Nat.reduceBNe, Int.reducePow, Nat.reducePow, Int.reduceMul, Int.reduceNeg, isB_i, isB_b, isB_y, isBv_i, isBv_b, eqCells_t, TT, ids_bsC, ren_bsC, noRo_bsC, plain_bsC, lt_bsC, ids_byte, ren_byte, noRo_byte, plain_byte, lt_byte], by simp only [XX, Nat.reduceBEq, Nat.reduceLT, Nat.reduceAdd, Nat.reduceMul, Nat.reduceSub, Nat.reduceLeDiff, Nat.reduceEqDiff, Int.reduceToNat, Int.reduceLT, Int.reduceLE, Int.reduceAdd, Int.reduceSub, Int.reduceEq, reduceIte, Nat.reduceBNe, Int.reducePow, Nat.reducePow, Int.reduceMul, Int.reduceNeg, isB_i, isB_b, isB_y, isBv_i, isBv_b, eqCells_t, TT], rfl, rfl⟩
end
end Go.Proofs.Ytgegddefcgfhgaa.Sx
namespace Go.Proofs.Ytgegddefcgfhgaa.Sx
open Go
set_option linter.unusedSimpArgs false
set_option linter.unusedVariables false
set_option maxRecDepth 10000
set_option maxHeartbeats 2000000
theorem resB_noRo {l : List UInt8} {e : Int} {t : SV} {h' : List SB} (h : resB l e t h') : t.noRo = true ∧ (h'.all fun b => b.cells.all SC.noRo) = true := by
  obtain ⟨sp, o, rfl, rfl, _⟩ := h
  exact ⟨rfl, by simp only [XX, Nat.reduceBEq, Nat.reduceLT, Nat.reduceAdd, Nat.reduceMul, Nat.reduceSub, Nat.reduceLeDiff, Nat.reduceEqDiff, Int.reduceToNat, Int.reduceLT, Int.reduceLE, Int.reduceAdd, Int.reduceSub, Int.reduceEq, reduceIte, Nat.reduceBNe, Int.reducePow, Nat.reducePow, Int.reduceMul, Int.reduceNeg, isB_i, isB_b, isB_y, isBv_i, isBv_b, eqCells_t, TT, ids_bsC, ren_bsC, noRo_bsC, plain_bsC, lt_bsC, ids_byte, ren_byte, noRo_byte, plain_byte, lt_byte]⟩
theorem Opts.oks {H : List SB} {iO : Nat} {o : Bool} {es : List PE} {r : Nat} (O : Opts H iO o es r) (h : ∀ e ∈ es, e.d.length ≤ 140737488355328 ∧ -9223372036854775808 ≤ e.k ∧ e.k < 9223372036854775808) : ∀ x ∈ es.map PE.oi, x.ok := by
  intro x hx
  simp only [List.mem_map] at hx
  obtain ⟨e, he, rfl⟩ := hx
  exact ⟨Nat.le_add_right _ _, (h e he).1, (h e he).2⟩
/-- From here on, some of the windows are known. -/
theorem gen_hp {xn : XN} {k : List KI} {nm : NB} {tm : List (Nat × SV)} {hp : List SB} {Q : XE → St → Prop} (P : List SB → Prop) (h0 : P hp) (h : ∀ H, P H → xn k ⟨nm, tm, H⟩ Q) : xn k ⟨nm, tm, hp⟩ Q := h hp h0
theorem two_pi {es : List PE} {a b : PI} (h : es.map PE.pi = [a, b]) : ∃ e1 e2, es = [e1, e2] ∧ e1.k = a.1 ∧ e1.d = a.2 ∧ e2.k = b.1 ∧ e2.d = b.2 := by
  obtain ⟨e1, r1, rfl, h1, h2⟩ := List.map_eq_cons_iff.1 h
  obtain ⟨e2, r2, rfl, h3, h4⟩ := List.map_eq_cons_iff.1 h2
  obtain rfl := List.map_eq_nil_iff.1 h4
  subst h1; subst h3
  exact ⟨e1, e2, rfl, rfl, rfl, rfl, rfl⟩
theorem frO_ro {h : List SB} {l sp : List UInt8} {c : Nat} : frR (fun _ => true) h (partO (l, sp, c)) (roB l sp c) := .inl rfl
theorem fzO_rows {r : Nat → Nat} {n : Nat} {h : List SB} {i o m c : Nat} {rows : List RC} {b : SB} (hb : h[i]? = some b) (hv : b.void = false) (hL : frL (fun _ => true) h rows (b.cells.drop o)) : frV true (fun _ => true) r n h (.c (.sl i o m c)) (.c (.ro rows m c)) :=
  .inr (.inl ⟨_, _, rfl, rfl, .inr ⟨rfl, .inl ⟨_, _, _, rfl, .inr (.inr ⟨i, o, rfl, .inr ⟨rfl, b, hb, hv, hL⟩⟩)⟩⟩⟩)
theorem setR {H X : List SB} {k : Nat} {x : SB} : (H ++ X).set (H.length + k) x = H ++ X.set k x := by
  rw [List.set_append_right _ _ (Nat.le_add_right ..), Nat.add_sub_cancel_left]
end Go.Proofs.Ytgegddefcgfhgaa.Sx
namespace Go.Proofs.Ytgegddefcgfhgaa.Sx
open Go Go.Proofs
set_option linter.unusedSimpArgs false
set_option linter.unusedVariables false
set_option maxHeartbeats 2000000 in
set_option maxRecDepth 100000 in
theorem sl_IndexByte (s : ByteArray) (c : Int) (w : World) :
    Calls Try.prog 99 #[.string s, .int .u8 c] w fun e w' => e = .returned (.int .i64 (Lib.indexByte s.data.toList c.toNat.toUInt8)) ∧ w' = w := by
  go_enter Try.func99, Try.ntmps99
  go_wp2
  rw [run_callFunc_extern Try.func102 (by kernel_rfl) (by kernel_rfl) (by kernel_rfl) (e := Extern.BytealgIndexByte.indexByte) (by kernel_rfl), Lib.run_indexByteString]
  simp only [Result.andThen]
  rw [Oper.upon_value]
  go_wp2
  go_ret
  exact ⟨rfl, rfl⟩
set_option maxHeartbeats 2000000 in
set_option maxRecDepth 100000 in
theorem sl_Index (s : ByteArray) (c : UInt8) (w : World) :
    Calls Try.prog 96 #[.string s, .string ⟨#[c]⟩] w fun e w' => e = .returned (.int .i64 (Lib.indexByte s.data.toList c)) ∧ w' = w := by
  go_enter Try.func96, Try.ntmps96
  go_wp2_with (go_at_call 99; refine (sl_IndexByte _ _ _).mono ?_; rintro e w' ⟨rfl, rfl⟩)
  · have h : ([c] == s.toList) = true := by assumption
    go_ret
    refine ⟨?_, rfl⟩
    have e : s.data.toList = [c] := by rw [← Lib.toList_data]; exact (beq_iff_eq.1 h).symm
    rw [e]
    simp [Lib.indexByte]
  · go_ret
    exact ⟨rfl, rfl⟩
set_option maxHeartbeats 2000000 in
theorem strings_Index_one (s : ByteArray) (c : UInt8) (w : World) :
    Calls Try.prog 89 #[.string s, .string ⟨#[c]⟩] w fun e w' => e = .returned (.int .i64 (Lib.indexByte s.data.toList c)) ∧ w' = w := by
  go_enter Try.func89, Try.ntmps89
  go_wp2_with (go_at_call 96; refine (sl_Index _ _ _).mono ?_; rintro e w' ⟨rfl, rfl⟩)
  go_ret
  exact ⟨rfl, rfl⟩
set_option maxHeartbeats 2000000 in
theorem strings_Contains_one (s : ByteArray) (c : UInt8) (w : World) :
    Calls Try.prog 75 #[.string s, .string ⟨#[c]⟩] w fun e w' => e = .returned (.bool (decide (0 ≤ Lib.indexByte s.data.toList c))) ∧ w' = w := by
  go_enter Try.func75, Try.ntmps75
  go_wp2_with (go_at_call 89; refine (strings_Index_one _ _ _).mono ?_; rintro e w' ⟨rfl, rfl⟩)
  go_ret
  exact ⟨rfl, rfl⟩
theorem contains_spec (s : ByteArray) : Spec cx.P 75 [.c (.v (.string s)), .c (.v (.string ⟨#[0]⟩))] [] fun r _ => r.plain = true ∧ r = .c (bC (decide (0 ≤ Lib.indexByte s.data.toList 0))) := by
  refine ⟨fun vs w => enters_of Try.func75 (by kernel_rfl) rfl vs w, fun ρ w vs M hl hr => ?_⟩
  match vs, hl, hr with
  | ⟨[a, b]⟩, _, hr =>
    obtain ⟨rfl, _⟩ := hr 0 _ a rfl rfl
    obtain ⟨rfl, _⟩ := hr 1 _ b rfl rfl
    refine (strings_Contains_one s 0 w).mono ?_
    rintro e w' ⟨rfl, rfl⟩
    exact ⟨_, .c (bC (decide (0 ≤ Lib.indexByte s.data.toList 0))), [], ρ, rfl, Step.refl M, ⟨rfl, rfl⟩, rfl, rfl⟩
theorem relL_bs {w0 : World} {zone : Nat → Prop} {b : Nat} : ∀ {k : Nat} {l : List UInt8}, RC.relL w0 zone b k (bsR l) → ∀ i, i < l.length → w0.cell? ⟨b, k + i, none⟩ = some (.int .u8 ((l.map fun x : UInt8 => (x.toNat : Int)).getD i 0))
  | k, x :: l, h, 0, _ => by
    obtain ⟨⟨v, h1, h2⟩, _⟩ := h
    obtain ⟨rfl, _⟩ := h2
    exact h1
  | k, x :: l, h, i + 1, hi => by
    have := relL_bs (k := k + 1) h.2 i (by simpa using hi)
    rw [show k + (i + 1) = k + 1 + i by omega]; exact this
set_option maxHeartbeats 2000000 in
set_option maxRecDepth 100000 in
theorem bytes_IndexByte (b o n c : Nat) (xs : List Int) (cv : Int) (w : World) (hx : xs.length = n)
    (hc : ∀ i, i < n → w.cell? ⟨b, o + i, none⟩ = some (.int .u8 (xs.getD i 0))) :
    Calls Try.prog 91 #[.slice (some ⟨b, o, none⟩) n c, .int .u8 cv] w fun e w' => e = .returned (.int .i64 (Lib.indexByte (Lib.bytesOf xs) cv.toNat.toUInt8)) ∧ w' = w := by
  go_enter Try.func91, Try.ntmps91
  go_wp2
  rw [run_callFunc_extern Try.func97 (by kernel_rfl) (by kernel_rfl) (by kernel_rfl) (e := Extern.BytealgIndexByte.indexByte) (by kernel_rfl), Lib.run_indexByteSlice w b o n c xs hx hc cv]
  simp only [Result.andThen]
  rw [Oper.upon_value]
  go_wp2
  go_ret
  exact ⟨rfl, rfl⟩
theorem run_byte0 {P : Program} (w : World) (p : Option Addr) (cv : Int) : (Extern.BytealgIndexByte.indexByte #[.slice p 0 0, .int .u8 cv]).run P w = .ok (.int .i64 (-1)) w := by
  have hs := Lib.run_indexByteString (P := P) .empty cv w
  cases p <;> exact hs
set_option maxHeartbeats 2000000 in
set_option maxRecDepth 100000 in
theorem bytes_IndexByte0 (p : Option Addr) (cv : Int) (w : World) :
    Calls Try.prog 91 #[.slice p 0 0, .int .u8 cv] w fun e w' => e = .returned (.int .i64 (-1)) ∧ w' = w := by
  go_enter Try.func91, Try.ntmps91
  go_wp2
  rw [run_callFunc_extern Try.func97 (by kernel_rfl) (by kernel_rfl) (by kernel_rfl) (e := Extern.BytealgIndexByte.indexByte) (by kernel_rfl), run_byte0 w p cv]
  simp only [Result.andThen]
  rw [Oper.upon_value]
  go_wp2
  go_ret
  exact ⟨rfl, rfl⟩
theorem cell_zone {h : List SB} {ρ : Rho} {w : World} (M : Models h ρ w) {b k : Nat} (hz : ρ.zone b) : w.cell? ⟨b, k, none⟩ = ρ.w0.cell? ⟨b, k, none⟩ := by
  unfold World.cell?
  rw [(M.zone b hz).2]
theorem bytesOf_nat (l : List UInt8) : Lib.bytesOf (l.map fun x : UInt8 => (x.toNat : Int)) = l := by
  rw [Lib.bytesOf, List.map_map]
  exact (List.map_congr_left fun x _ => by simp).trans (List.map_id _)
theorem indexByte_spec (l sp : List UInt8) (c : Nat) (x : UInt8) : Spec cx.P 91 [.c (roB l sp c), .c (byteC x)] [] fun r _ => r.plain = true ∧ r = .c (i64 (Lib.indexByte l x)) := by
  refine ⟨fun vs w => enters_of Try.func91 (by kernel_rfl) rfl vs w, fun ρ w vs M hl hr => ?_⟩
  match vs, hl, hr with
  | ⟨[a, b]⟩, _, hr =>
    have h0 := hr 0 _ a rfl rfl
    obtain ⟨rfl, _⟩ := hr 1 _ b rfl rfl
    rcases h0 with ⟨q1, q2, p, rfl⟩ | ⟨q1, b, o, rfl, hz, hL⟩
    · obtain rfl := List.eq_nil_of_length_eq_zero q1
      refine (bytes_IndexByte0 p x.toNat w).mono ?_
      rintro e w' ⟨rfl, rfl⟩
      exact ⟨_, .c (i64 (Lib.indexByte [] x)), [], ρ, rfl, Step.refl M, ⟨rfl, rfl⟩, rfl, rfl⟩
    · refine (bytes_IndexByte b o l.length c (l.map fun x : UInt8 => (x.toNat : Int)) x.toNat w (List.length_map ..) fun i hi => ?_).mono ?_
      · have h1 := relL_bs hL i (by simp; omega)
        rw [cell_zone M hz, h1, List.map_append, List.getD_eq_getElem?_getD, List.getElem?_append_left (by rw [List.length_map]; exact hi), List.getD_eq_getElem?_getD]
      · rintro e w' ⟨rfl, rfl⟩
        refine ⟨_, .c (i64 (Lib.indexByte l x)), [], ρ, rfl, Step.refl M, ⟨?_, rfl⟩, rfl, rfl⟩
        rw [bytesOf_nat, show ((x.toNat : Int)).toNat.toUInt8 = x by simp]
end Go.Proofs.Ytgegddefcgfhgaa.Sx
namespace Go.Proofs.Ytgegddefcgfhgaa.Sx
open Go
set_option linter.unusedSimpArgs false
set_option linter.unusedVariables false
set_option maxRecDepth 10000
set_option maxHeartbeats 2000000
/-- What stands ahead of the first byte 0. -/
def textF : List UInt8 → List UInt8
  | [] => []
  | x :: l => if x = 0 then [] else x :: textF l
theorem textF_le : ∀ l : List UInt8, (textF l).length ≤ l.length
  | [] => Nat.le_refl _
  | x :: l => by
    have := textF_le l
    rw [textF]; split
    · exact Nat.zero_le _
    · simp only [List.length_cons]; omega
theorem text_pre : ∀ l : List UInt8, l.take (textF l).length = textF l
  | [] => rfl
  | x :: l => by
    rw [textF]; split
    · rfl
    · rw [List.length_cons, List.take_succ_cons, text_pre l]
theorem index_text : ∀ l : List UInt8, Lib.indexByte l 0 = (if (0 : UInt8) ∈ l then ((textF l).length : Int) else -1)
  | [] => rfl
  | x :: l => by
    rw [Lib.indexByte, index_text l]
    by_cases hx : x = 0
    · subst hx
      simp [textF]
    · have hx' : ¬ (0 : UInt8) = x := fun h => hx h.symm
      by_cases hm : (0 : UInt8) ∈ l
      · simp [hx, hx', hm, textF]
        try omega
      · simp [hx, hx', hm]
theorem text_none : ∀ {l : List UInt8}, (0 : UInt8) ∉ l → textF l = l
  | [], _ => rfl
  | x :: l, h => by
    simp only [List.mem_cons, not_or] at h
    rw [textF, if_neg (fun e => h.1 e.symm), text_none h.2]
theorem text_lt : ∀ {l : List UInt8}, (0 : UInt8) ∈ l → (textF l).length < l.length
  | x :: l, h => by
    rw [textF]
    split
    · simp
    · rename_i hx
      rcases List.mem_cons.1 h with h | h
      · exact absurd h.symm hx
      · have := text_lt h
        simp only [List.length_cons]; omega
theorem bindex_spec (l sp : List UInt8) (c : Nat) : Spec cx.P 88 [.c (roB l sp c), .c (.sl 0 0 1 1)] [wB true [0]] fun s h' => s = .c (i64 (Lib.indexByte l 0)) ∧ h' = [wB true [0]] := by
  refine spec_of_X cx_ok Try.func88 rfl (by kernel_rfl) (by kernel_rfl) (Nat.le_of_ble_eq_true rfl) 400 20 ?_
  simp (maxSteps := 4000000) only [Try.results88, XX, Nat.reduceBEq, Nat.reduceLT, Nat.reduceAdd, Nat.reduceMul, Nat.reduceSub, Nat.reduceLeDiff, Nat.reduceEqDiff, Int.reduceToNat, Int.reduceLT, Int.reduceLE, Int.reduceAdd, Int.reduceSub, Int.reduceEq, reduceIte, Nat.reduceBNe, Int.reducePow, Nat.reducePow, Int.reduceMul, Int.reduceNeg, isB_i, isB_b, isB_y, isBv_i, isBv_b, eqCells_t, TT]
  refine call_pureF [.c (roB l sp c), .c (byteC 0)] (indexByte_spec l sp c 0) ⟨.inl ⟨rfl, rfl⟩, .inl ⟨rfl, rfl⟩, trivial⟩ ?_
  rintro _ rfl
  simp (maxSteps := 4000000) only [Try.results88, XX, Nat.reduceBEq, Nat.reduceLT, Nat.reduceAdd, Nat.reduceMul, Nat.reduceSub, Nat.reduceLeDiff, Nat.reduceEqDiff, Int.reduceToNat, Int.reduceLT, Int.reduceLE, Int.reduceAdd, Int.reduceSub, Int.reduceEq, reduceIte, Nat.reduceBNe, Int.reducePow, Nat.reducePow, Int.reduceMul, Int.reduceNeg, isB_i, isB_b, isB_y, isBv_i, isBv_b, eqCells_t, TT]
theorem cut_spec (l sp : List UInt8) (c : Nat) (hl : l.length ≤ 140737488355328) (hc : l.length ≤ c) : Spec cx.P 74 [.c (roB l sp c), .c (.sl 0 0 1 1)] [wB true [0]] fun s h' => h' = [wB true [0]] ∧ ∃ m b y, s = .tup [(false, [.ro (bsR (l ++ sp)) (textF l).length m]), (false, [y]), (false, [bC b])] := by
  have ht := textF_le l
  refine spec_of_X cx_ok Try.func74 rfl (by kernel_rfl) (by kernel_rfl) (Nat.le_of_ble_eq_true rfl) 400 8 ?_
  simp (maxSteps := 4000000) only [Try.results74, XX, Nat.reduceBEq, Nat.reduceLT, Nat.reduceAdd, Nat.reduceMul, Nat.reduceSub, Nat.reduceLeDiff, Nat.reduceEqDiff, Int.reduceToNat, Int.reduceLT, Int.reduceLE, Int.reduceAdd, Int.reduceSub, Int.reduceEq, reduceIte, Nat.reduceBNe, Int.reducePow, Nat.reducePow, Int.reduceMul, Int.reduceNeg, isB_i, isB_b, isB_y, isBv_i, isBv_b, eqCells_t, TT]
  refine call_frame (bindex_spec l sp c) [0] rfl rfl ⟨⟨rfl, fun _ => ⟨rfl, rfl⟩⟩, trivial⟩ rfl rfl ?_
  rintro _ _ ⟨rfl, rfl⟩
  rw [index_text]
  by_cases hm : (0 : UInt8) ∈ l
  · rw [if_pos hm]
    have d1 : decide ((0 : Int) ≤ ((textF l).length : Int)) = true := by simp only [decide_eq_true_eq]; omega
    have e1 : IntKind.i64.wrap (((textF l).length : Int) + 1) = (((textF l).length + 1 : Nat) : Int) := by rw [w64] <;> omega
    simp (maxSteps := 4000000) only [Try.results74, d1, ids_bsC, ren_bsC, noRo_bsC, plain_bsC, lt_bsC, ids_byte, ren_byte, noRo_byte, plain_byte, lt_byte, XX, Nat.reduceBEq, Nat.reduceLT, Nat.reduceAdd, Nat.reduceMul, Nat.reduceSub, Nat.reduceLeDiff, Nat.reduceEqDiff, Int.reduceToNat, Int.reduceLT, Int.reduceLE, Int.reduceAdd, Int.reduceSub, Int.reduceEq, reduceIte, Nat.reduceBNe, Int.reducePow, Nat.reducePow, Int.reduceMul, Int.reduceNeg, isB_i, isB_b, isB_y, isBv_i, isBv_b, eqCells_t, TT]
    refine draw_of cx_ok (by kernel_rfl) 400 [] [(0, true), (1, true), (2, true), (3, true), (4, true), (5, true), (6, true), (7, true), (8, true), (9, true), (10, true), (11, true)] (by kernel_rfl) rfl ?_
    simp (maxSteps := 4000000) only [Try.results74, e1, XX, Nat.reduceBEq, Nat.reduceLT, Nat.reduceAdd, Nat.reduceMul, Nat.reduceSub, Nat.reduceLeDiff, Nat.reduceEqDiff, Int.reduceToNat, Int.reduceLT, Int.reduceLE, Int.reduceAdd, Int.reduceSub, Int.reduceEq, reduceIte, Nat.reduceBNe, Int.reducePow, Nat.reducePow, Int.reduceMul, Int.reduceNeg, isB_i, isB_b, isB_y, isBv_i, isBv_b, eqCells_t, TT]
    have := text_lt hm
    exact ⟨by omega, by omega, rfl, _, _, _, rfl⟩
  · rw [if_neg hm]
    simp (maxSteps := 4000000) only [Try.results74, ids_bsC, ren_bsC, noRo_bsC, plain_bsC, lt_bsC, ids_byte, ren_byte, noRo_byte, plain_byte, lt_byte, XX, Nat.reduceBEq, Nat.reduceLT, Nat.reduceAdd, Nat.reduceMul, Nat.reduceSub, Nat.reduceLeDiff, Nat.reduceEqDiff, Int.reduceToNat, Int.reduceLT, Int.reduceLE, Int.reduceAdd, Int.reduceSub, Int.reduceEq, reduceIte, Nat.reduceBNe, Int.reducePow, Nat.reducePow, Int.reduceMul, Int.reduceNeg, isB_i, isB_b, isB_y, isBv_i, isBv_b, eqCells_t, TT]
    rw [text_none hm]
    exact ⟨rfl, _, _, _, rfl⟩
theorem btext_spec (l sp : List UInt8) (c : Nat) (hl : l.length ≤ 140737488355328) (hc : l.length ≤ c) : Spec cx.P 34 [.c (roB l sp c)] [] fun s _ => s = .c (strB (textF l)) := by
  refine spec_of_X cx_ok Try.func34 rfl (by kernel_rfl) (by kernel_rfl) (Nat.le_of_ble_eq_true rfl) 400 4 ?_
  simp (maxSteps := 4000000) only [Try.results34, XX, Nat.reduceBEq, Nat.reduceLT, Nat.reduceAdd, Nat.reduceMul, Nat.reduceSub, Nat.reduceLeDiff, Nat.reduceEqDiff, Int.reduceToNat, Int.reduceLT, Int.reduceLE, Int.reduceAdd, Int.reduceSub, Int.reduceEq, reduceIte, Nat.reduceBNe, Int.reducePow, Nat.reducePow, Int.reduceMul, Int.reduceNeg, isB_i, isB_b, isB_y, isBv_i, isBv_b, eqCells_t, TT]
  simp (maxSteps := 4000000) only [Try.results34, List.flatten_cons, List.flatten_nil, List.cons_append, List.nil_append, List.append_nil, List.replicate_succ, List.replicate_zero, List.drop_succ_cons, List.drop_zero, List.length_cons, List.length_nil, Nat.reduceAdd, Nat.reduceLeDiff, reduceIte, XX, Nat.reduceBEq, Nat.reduceLT, Nat.reduceAdd, Nat.reduceMul, Nat.reduceSub, Nat.reduceLeDiff, Nat.reduceEqDiff, Int.reduceToNat, Int.reduceLT, Int.reduceLE, Int.reduceAdd, Int.reduceSub, Int.reduceEq, reduceIte, Nat.reduceBNe, Int.reducePow, Nat.reducePow, Int.reduceMul, Int.reduceNeg, isB_i, isB_b, isB_y, isBv_i, isBv_b, eqCells_t, TT]
  refine call_frame (cut_spec l sp c hl hc) [0] rfl rfl ⟨⟨rfl, fun _ => ⟨rfl, rfl⟩⟩, trivial⟩ rfl rfl ?_
  rintro _ _ ⟨rfl, m, b, y, rfl⟩
  have tk : (bsR (l ++ sp)).take (textF l).length = bsR (textF l) := by rw [rs_take, List.take_append_of_le_length (textF_le l), text_pre]
  simp (maxSteps := 4000000) only [Try.results34, ids_bsC, ren_bsC, noRo_bsC, plain_bsC, lt_bsC, ids_byte, ren_byte, noRo_byte, plain_byte, lt_byte, tk, bsR_toSC, strOf_bsC, XX, Nat.reduceBEq, Nat.reduceLT, Nat.reduceAdd, Nat.reduceMul, Nat.reduceSub, Nat.reduceLeDiff, Nat.reduceEqDiff, Int.reduceToNat, Int.reduceLT, Int.reduceLE, Int.reduceAdd, Int.reduceSub, Int.reduceEq, reduceIte, Nat.reduceBNe, Int.reducePow, Nat.reducePow, Int.reduceMul, Int.reduceNeg, isB_i, isB_b, isB_y, isBv_i, isBv_b, eqCells_t, TT]
  exact ⟨by rw [rs_len, List.length_append]; have := textF_le l; omega, isByte_bsC _⟩
end Go.Proofs.Ytgegddefcgfhgaa.Sx
namespace Go.Proofs.Ytgegddefcgfhgaa.Sx
open Go
set_option linter.unusedSimpArgs false
set_option linter.unusedVariables false
set_option maxRecDepth 10000
set_option maxHeartbeats 2000000
/-- A message, its options aside. -/
structure BM where
  op : Int
  hops : Int
  xid : Nat
  secs : Int
  all : Bool
  ci : Nat
  yi : Nat
  si : Nat
  gi : Nat
  mac : M6
  sname : List UInt8
  file : List UInt8
abbrev boC (m : BM) (o : SC) : List SC := [i64 m.op, i64 m.hops, i32 m.xid, i64 m.secs, bC m.all, i32 m.ci, i32 m.yi, i32 m.si, i32 m.gi, byteC m.mac.a, byteC m.mac.b, byteC m.mac.c, byteC m.mac.d, byteC m.mac.e, byteC m.mac.f, strB m.sname, strB m.file, o]
structure BM.ok (m : BM) : Prop where
  op : -9223372036854775808 ≤ m.op ∧ m.op < 9223372036854775808
  hops : -9223372036854775808 ≤ m.hops ∧ m.hops < 9223372036854775808
  secs : -9223372036854775808 ≤ m.secs ∧ m.secs < 9223372036854775808
  xid : m.xid < 4294967296
  ci : m.ci < 4294967296
  yi : m.yi < 4294967296
  si : m.si < 4294967296
  gi : m.gi < 4294967296
  sname : m.sname.length ≤ 140737488355328
  file : m.file.length ≤ 140737488355328
def badB (m : BM) : Bool := !decide (m.op = 1) && !decide (m.op = 2) || decide (m.hops < 0) || decide (255 < m.hops) || decide (m.secs < 0) || decide (65535 < m.secs)
def zeroB (m : BM) : Bool := decide ((0 : UInt8) ∈ m.sname) || decide ((0 : UInt8) ∈ m.file)
def longB (m : BM) : Bool := decide ((63 : Int) < (m.sname.length : Int)) || decide ((127 : Int) < (m.file.length : Int))
def overB (xs : List OI) : Bool := xs.any fun x => decide (x.k = 52)
def refF (m : BM) (xs : List OI) : Int := if badB m || zeroB m then 160 else if longB m then 2 else if overB xs then 162 else 0
theorem index_dec (l : List UInt8) : decide (0 ≤ Lib.indexByte l 0) = decide ((0 : UInt8) ∈ l) := by
  rw [index_text]
  by_cases h : (0 : UInt8) ∈ l
  · rw [if_pos h, decide_eq_true h, decide_eq_true (by omega)]
  · rw [if_neg h, decide_eq_false h]; rfl
theorem str_size (l : List UInt8) : (⟨l.toArray⟩ : ByteArray).size = l.length := rfl
theorem str_app (a b : List UInt8) : (⟨a.toArray⟩ ++ ⟨b.toArray⟩ : ByteArray) = ⟨(a ++ b).toArray⟩ := by
  apply ByteArray.ext
  rw [ByteArray.data_append]
  simp
theorem overload_spec (k : Int) (x : SC) : Spec cx.P 36 [.agg [i64 k, x]] [] fun s _ => s.plain = true ∧ s = .c (bC (decide (k = 52))) := by
  refine spec_of_X cx_ok Try.func36 rfl (by kernel_rfl) (by kernel_rfl) (Nat.le_of_ble_eq_true rfl) 400 3 ?_
  simp (maxSteps := 4000000) only [Try.results36, XX, Nat.reduceBEq, Nat.reduceLT, Nat.reduceAdd, Nat.reduceMul, Nat.reduceSub, Nat.reduceLeDiff, Nat.reduceEqDiff, Int.reduceToNat, Int.reduceLT, Int.reduceLE, Int.reduceAdd, Int.reduceSub, Int.reduceEq, reduceIte, Nat.reduceBNe, Int.reducePow, Nat.reducePow, Int.reduceMul, Int.reduceNeg, isB_i, isB_b, isB_y, isBv_i, isBv_b, eqCells_t, TT]
theorem indexO_spec (xs sp : List OI) (c : Nat) (hn : xs.length ≤ 140737488355328) : Spec cx.P 59 [.c (roO xs sp c), .c (.fn 36 [])] [] fun s _ => s.plain = true ∧ s = .c (i64 (atK (xs.map OI.k) 52)) := by
  refine spec_of_X cx_ok Try.func59 rfl (by kernel_rfl) (by kernel_rfl) (Nat.le_of_ble_eq_true rfl) 400 9 ?_
  simp (maxSteps := 4000000) only [Try.results59, XX, Nat.reduceBEq, Nat.reduceLT, Nat.reduceAdd, Nat.reduceMul, Nat.reduceSub, Nat.reduceLeDiff, Nat.reduceEqDiff, Int.reduceToNat, Int.reduceLT, Int.reduceLE, Int.reduceAdd, Int.reduceSub, Int.reduceEq, reduceIte, Nat.reduceBNe, Int.reducePow, Nat.reducePow, Int.reduceMul, Int.reduceNeg, isB_i, isB_b, isB_y, isBv_i, isBv_b, eqCells_t, TT]
  refine loop_any cx_ok 400 (fun μ σ => ∃ i : Nat, μ = xs.length - i ∧ i ≤ xs.length ∧ (((xs.map OI.k).drop i).findIdx? fun a => decide (a = (52 : Int))).map (· + i) = ((xs.map OI.k).findIdx? fun a => decide (a = (52 : Int))) ∧
      σ = ⟨⟨9, 0⟩, [(0, .c (roO xs sp c)), (1, .c (.fn 36 [])), (7, .c (i64 xs.length)), (8, .c (i64 i))], []⟩) xs.length
    ⟨⟨9, 0⟩, [(0, .c (roO xs sp c)), (1, .c (.fn 36 [])), (7, .c (i64 xs.length)), (8, .c (i64 (0 : Nat)))], []⟩ ⟨0, rfl, Nat.zero_le _, atK_start, rfl⟩ (.inl ⟨rfl, rfl, rfl, rfl, rfl, rfl, trivial⟩) ?_
  rintro μ σ ⟨i, rfl, hi, hf, rfl⟩
  by_cases hlt : i < xs.length
  · have hd : decide ((i : Int) < (xs.length : Int)) = true := by simp only [decide_eq_true_eq]; omega
    have e3 : IntKind.i64.wrap ((i : Int) + 1) = ((i + 1 : Nat) : Int) := by rw [w64] <;> omega
    obtain ⟨x, hx⟩ : ∃ x, xs[i]? = some x := ⟨_, List.getElem?_eq_getElem hlt⟩
    have hkx : (xs.map OI.k)[i]? = some x.k := by rw [List.getElem?_map, hx]; rfl
    obtain ⟨R, hR⟩ := osR_at (sp := sp) hx
    have ov := overload_spec x.k (roB x.d x.sp x.c)
    by_cases hk : x.k = 52
    · have dk : decide (x.k = 52) = true := by simpa using hk
      rw [dk] at ov
      simp (maxSteps := 4000000) only [Try.results59, hd, hR, XX, Nat.reduceBEq, Nat.reduceLT, Nat.reduceAdd, Nat.reduceMul, Nat.reduceSub, Nat.reduceLeDiff, Nat.reduceEqDiff, Int.reduceToNat, Int.reduceLT, Int.reduceLE, Int.reduceAdd, Int.reduceSub, Int.reduceEq, reduceIte, Nat.reduceBNe, Int.reducePow, Nat.reducePow, Int.reduceMul, Int.reduceNeg, isB_i, isB_b, isB_y, isBv_i, isBv_b, eqCells_t, TT]
      refine ⟨by omega, ?_⟩
      refine call_pureF [.agg [i64 x.k, roB x.d x.sp x.c]] ov ⟨.inl ⟨rfl, rfl⟩, trivial⟩ ?_
      rintro _ rfl
      simp (maxSteps := 4000000) only [Try.results59, XX, Nat.reduceBEq, Nat.reduceLT, Nat.reduceAdd, Nat.reduceMul, Nat.reduceSub, Nat.reduceLeDiff, Nat.reduceEqDiff, Int.reduceToNat, Int.reduceLT, Int.reduceLE, Int.reduceAdd, Int.reduceSub, Int.reduceEq, reduceIte, Nat.reduceBNe, Int.reducePow, Nat.reducePow, Int.reduceMul, Int.reduceNeg, isB_i, isB_b, isB_y, isBv_i, isBv_b, eqCells_t, TT]
      rw [atK_hit hf hkx hk]
    · have dk : decide (x.k = 52) = false := by simpa using hk
      rw [dk] at ov
      simp (maxSteps := 4000000) only [Try.results59, hd, hR, XX, Nat.reduceBEq, Nat.reduceLT, Nat.reduceAdd, Nat.reduceMul, Nat.reduceSub, Nat.reduceLeDiff, Nat.reduceEqDiff, Int.reduceToNat, Int.reduceLT, Int.reduceLE, Int.reduceAdd, Int.reduceSub, Int.reduceEq, reduceIte, Nat.reduceBNe, Int.reducePow, Nat.reducePow, Int.reduceMul, Int.reduceNeg, isB_i, isB_b, isB_y, isBv_i, isBv_b, eqCells_t, TT]
      refine ⟨by omega, ?_⟩
      refine call_pureF [.agg [i64 x.k, roB x.d x.sp x.c]] ov ⟨.inl ⟨rfl, rfl⟩, trivial⟩ ?_
      rintro _ rfl
      simp (maxSteps := 4000000) only [Try.results59, e3, XX, Nat.reduceBEq, Nat.reduceLT, Nat.reduceAdd, Nat.reduceMul, Nat.reduceSub, Nat.reduceLeDiff, Nat.reduceEqDiff, Int.reduceToNat, Int.reduceLT, Int.reduceLE, Int.reduceAdd, Int.reduceSub, Int.reduceEq, reduceIte, Nat.reduceBNe, Int.reducePow, Nat.reducePow, Int.reduceMul, Int.reduceNeg, isB_i, isB_b, isB_y, isBv_i, isBv_b, eqCells_t, TT]
      exact ⟨xs.length - (i + 1), by omega, _, ⟨i + 1, rfl, by omega, atK_skip hf hkx hk, rfl⟩, .inl ⟨rfl, rfl, rfl, rfl, rfl, rfl, trivial⟩⟩
  obtain rfl : i = xs.length := by omega
  have hd : decide ((xs.length : Int) < (xs.length : Int)) = false := by simp
  simp (maxSteps := 4000000) only [Try.results59, hd, XX, Nat.reduceBEq, Nat.reduceLT, Nat.reduceAdd, Nat.reduceMul, Nat.reduceSub, Nat.reduceLeDiff, Nat.reduceEqDiff, Int.reduceToNat, Int.reduceLT, Int.reduceLE, Int.reduceAdd, Int.reduceSub, Int.reduceEq, reduceIte, Nat.reduceBNe, Int.reducePow, Nat.reducePow, Int.reduceMul, Int.reduceNeg, isB_i, isB_b, isB_y, isBv_i, isBv_b, eqCells_t, TT]
  rw [atK_none (by simpa using hf)]
theorem overB_atK (xs : List OI) : decide ((0 : Int) ≤ atK (xs.map OI.k) 52) = overB xs := by
  rcases atK_cases (xs.map OI.k) 52 with ⟨i, hi, hk, ha⟩ | ⟨hno, ha⟩
  · rw [ha, decide_eq_true (by omega)]
    have hm := List.mem_of_getElem? hk
    obtain ⟨x, hx, hxk⟩ := List.mem_map.1 hm
    exact (List.any_eq_true.2 ⟨x, hx, by simpa using hxk⟩).symm
  · rw [ha]
    have : overB xs = false := by
      unfold overB
      rw [List.any_eq_false]
      intro x hx
      simp only [decide_eq_true_eq]
      intro h
      exact hno (List.mem_map.2 ⟨x, hx, h⟩)
    rw [this]; rfl
theorem containsF_spec (xs sp : List OI) (c : Nat) (hn : xs.length ≤ 140737488355328) : Spec cx.P 76 [.c (roO xs sp c), .c (.fn 36 [])] [] fun s _ => s.plain = true ∧ s = .c (bC (overB xs)) := by
  refine spec_of_X cx_ok Try.func76 rfl (by kernel_rfl) (by kernel_rfl) (Nat.le_of_ble_eq_true rfl) 400 5 ?_
  simp (maxSteps := 4000000) only [Try.results76, XX, Nat.reduceBEq, Nat.reduceLT, Nat.reduceAdd, Nat.reduceMul, Nat.reduceSub, Nat.reduceLeDiff, Nat.reduceEqDiff, Int.reduceToNat, Int.reduceLT, Int.reduceLE, Int.reduceAdd, Int.reduceSub, Int.reduceEq, reduceIte, Nat.reduceBNe, Int.reducePow, Nat.reducePow, Int.reduceMul, Int.reduceNeg, isB_i, isB_b, isB_y, isBv_i, isBv_b, eqCells_t, TT]
  refine call_pureF [.c (roO xs sp c), .c (.fn 36 [])] (indexO_spec xs sp c hn) ⟨.inl ⟨rfl, rfl⟩, .inl ⟨rfl, rfl⟩, trivial⟩ ?_
  rintro _ rfl
  simp (maxSteps := 4000000) only [Try.results76, overB_atK, XX, Nat.reduceBEq, Nat.reduceLT, Nat.reduceAdd, Nat.reduceMul, Nat.reduceSub, Nat.reduceLeDiff, Nat.reduceEqDiff, Int.reduceToNat, Int.reduceLT, Int.reduceLE, Int.reduceAdd, Int.reduceSub, Int.reduceEq, reduceIte, Nat.reduceBNe, Int.reducePow, Nat.reducePow, Int.reduceMul, Int.reduceNeg, isB_i, isB_b, isB_y, isBv_i, isBv_b, eqCells_t, TT]
theorem refused_spec (m : BM) (hm : m.ok) (xs sp : List OI) (c : Nat) (hok : ∀ x ∈ xs, x.ok) (hn : xs.length ≤ 4398046511104) : Spec cx.P 38 [.agg (boC m (roO xs sp c))] [] fun s _ => s.plain = true ∧ s = .c (i64 (refF m xs)) := by
  have h1 := hm.sname
  have h2 := hm.file
  refine spec_of_X cx_ok Try.func38 rfl (by kernel_rfl) (by kernel_rfl) (Nat.le_of_ble_eq_true rfl) 400 3 ?_
  simp (maxSteps := 4000000) only [Try.results38, XX, Nat.reduceBEq, Nat.reduceLT, Nat.reduceAdd, Nat.reduceMul, Nat.reduceSub, Nat.reduceLeDiff, Nat.reduceEqDiff, Int.reduceToNat, Int.reduceLT, Int.reduceLE, Int.reduceAdd, Int.reduceSub, Int.reduceEq, reduceIte, Nat.reduceBNe, Int.reducePow, Nat.reducePow, Int.reduceMul, Int.reduceNeg, isB_i, isB_b, isB_y, isBv_i, isBv_b, eqCells_t, TT]
  cases hB : badB m with
  | true =>
    rw [show refF m xs = 160 by unfold refF; rw [hB]; rfl]
    unfold badB at hB
    simp (maxSteps := 4000000) only [Try.results38, hB, XX, Nat.reduceBEq, Nat.reduceLT, Nat.reduceAdd, Nat.reduceMul, Nat.reduceSub, Nat.reduceLeDiff, Nat.reduceEqDiff, Int.reduceToNat, Int.reduceLT, Int.reduceLE, Int.reduceAdd, Int.reduceSub, Int.reduceEq, reduceIte, Nat.reduceBNe, Int.reducePow, Nat.reducePow, Int.reduceMul, Int.reduceNeg, isB_i, isB_b, isB_y, isBv_i, isBv_b, eqCells_t, TT]
  | false =>
    have hr : refF m xs = if zeroB m then 160 else if longB m then 2 else if overB xs then 162 else 0 := by unfold refF; rw [hB]; rfl
    rw [hr]
    clear hr
    unfold badB at hB
    simp (maxSteps := 4000000) only [Try.results38, hB, str_size, str_app, XX, Nat.reduceBEq, Nat.reduceLT, Nat.reduceAdd, Nat.reduceMul, Nat.reduceSub, Nat.reduceLeDiff, Nat.reduceEqDiff, Int.reduceToNat, Int.reduceLT, Int.reduceLE, Int.reduceAdd, Int.reduceSub, Int.reduceEq, reduceIte, Nat.reduceBNe, Int.reducePow, Nat.reducePow, Int.reduceMul, Int.reduceNeg, isB_i, isB_b, isB_y, isBv_i, isBv_b, eqCells_t, TT]
    refine ⟨by omega, ?_⟩
    refine call_plain (contains_spec ⟨(m.sname ++ m.file).toArray⟩) rfl ?_
    rintro _ rfl
    rw [index_dec]
    have hz : decide ((0 : UInt8) ∈ m.sname ++ m.file) = zeroB m := by
      unfold zeroB
      rw [← Bool.decide_or]
      simp
    rw [show (⟨(m.sname ++ m.file).toArray⟩ : ByteArray).data.toList = m.sname ++ m.file by simp, hz]
    cases hZ : zeroB m with
    | true =>
      simp (maxSteps := 4000000) only [Try.results38, XX, Nat.reduceBEq, Nat.reduceLT, Nat.reduceAdd, Nat.reduceMul, Nat.reduceSub, Nat.reduceLeDiff, Nat.reduceEqDiff, Int.reduceToNat, Int.reduceLT, Int.reduceLE, Int.reduceAdd, Int.reduceSub, Int.reduceEq, reduceIte, Nat.reduceBNe, Int.reducePow, Nat.reducePow, Int.reduceMul, Int.reduceNeg, isB_i, isB_b, isB_y, isBv_i, isBv_b, eqCells_t, TT]
    | false =>
      cases hL : longB m with
      | true =>
        unfold longB at hL
        simp (maxSteps := 4000000) only [Try.results38, hL, str_size, XX, Nat.reduceBEq, Nat.reduceLT, Nat.reduceAdd, Nat.reduceMul, Nat.reduceSub, Nat.reduceLeDiff, Nat.reduceEqDiff, Int.reduceToNat, Int.reduceLT, Int.reduceLE, Int.reduceAdd, Int.reduceSub, Int.reduceEq, reduceIte, Nat.reduceBNe, Int.reducePow, Nat.reducePow, Int.reduceMul, Int.reduceNeg, isB_i, isB_b, isB_y, isBv_i, isBv_b, eqCells_t, TT]
      | false =>
        unfold longB at hL
        simp (maxSteps := 4000000) only [Try.results38, hL, str_size, XX, Nat.reduceBEq, Nat.reduceLT, Nat.reduceAdd, Nat.reduceMul, Nat.reduceSub, Nat.reduceLeDiff, Nat.reduceEqDiff, Int.reduceToNat, Int.reduceLT, Int.reduceLE, Int.reduceAdd, Int.reduceSub, Int.reduceEq, reduceIte, Nat.reduceBNe, Int.reducePow, Nat.reducePow, Int.reduceMul, Int.reduceNeg, isB_i, isB_b, isB_y, isBv_i, isBv_b, eqCells_t, TT]
        refine call_pureF [.c (roO xs sp c), .c (.fn 36 [])] (containsF_spec xs sp c (by omega)) ⟨.inl ⟨rfl, rfl⟩, .inl ⟨rfl, rfl⟩, trivial⟩ ?_
        rintro _ rfl
        cases hO : overB xs with
        | true =>
          simp (maxSteps := 4000000) only [Try.results38, XX, Nat.reduceBEq, Nat.reduceLT, Nat.reduceAdd, Nat.reduceMul, Nat.reduceSub, Nat.reduceLeDiff, Nat.reduceEqDiff, Int.reduceToNat, Int.reduceLT, Int.reduceLE, Int.reduceAdd, Int.reduceSub, Int.reduceEq, reduceIte, Nat.reduceBNe, Int.reducePow, Nat.reducePow, Int.reduceMul, Int.reduceNeg, isB_i, isB_b, isB_y, isBv_i, isBv_b, eqCells_t, TT]
        | false =>
          simp (maxSteps := 4000000) only [Try.results38, XX, Nat.reduceBEq, Nat.reduceLT, Nat.reduceAdd, Nat.reduceMul, Nat.reduceSub, Nat.reduceLeDiff, Nat.reduceEqDiff, Int.reduceToNat, Int.reduceLT, Int.reduceLE, Int.reduceAdd, Int.reduceSub, Int.reduceEq, reduceIte, Nat.reduceBNe, Int.reducePow, Nat.reducePow, Int.reduceMul, Int.reduceNeg, isB_i, isB_b, isB_y, isBv_i, isBv_b, eqCells_t, TT]
end Go.Proofs.Ytgegddefcgfhgaa.Sx
namespace Go.Proofs.Ytgegddefcgfhgaa.Sx
open Go
set_option linter.unusedSimpArgs false
set_option linter.unusedVariables false
set_option maxRecDepth 10000
set_option maxHeartbeats 4000000
def flagB (m : BM) : List UInt8 := if m.all then [128, 0] else [0, 0]
/-- A message's bytes. -/
def encB (m : BM) (o : List UInt8) : List UInt8 :=
  [UInt8.ofInt m.op, 1, 6, UInt8.ofInt m.hops] ++ be4 m.xid ++ be2 m.secs.toNat ++ flagB m ++ be4 m.ci ++ be4 m.yi ++ be4 m.si ++ be4 m.gi ++ (m.mac.l ++ List.replicate 10 0) ++ (m.sname ++ List.replicate (64 - m.sname.length) 0) ++ (m.file ++ List.replicate (128 - m.file.length) 0) ++ [99, 130, 83, 99] ++ (o ++ List.replicate (60 - o.length) 0)
noncomputable def encF (m : BM) (xs : List OI) : List UInt8 × Int := if refF m xs = 0 then (if (packF xs 1232).2 = 0 then (encB m (packF xs 1232).1, 0) else ([], (packF xs 1232).2)) else ([], refF m xs)
theorem gen_call16 {P' : Program} {xn : XN} {f : FuncId} {args : List SV} {dst : Option Tmp} {k : List KI} {nm : NB} {tm : List (Nat × SV)} {hp : List SB} {Q : XE → St → Prop} (P : List SB → Prop) (h0 : P hp) (h : ∀ H, P H → CallGoal P' xn f args dst k ⟨nm, tm, H⟩ Q) : CallGoal P' xn f args dst k ⟨nm, tm, hp⟩ Q := h hp h0
theorem packF_le' {xs : List OI} (room : Int) (hr : 0 ≤ room) : ((packF xs room).1.length : Int) ≤ room := by
  unfold packF
  split
  · simpa using hr
  · split
    · simpa using hr
    · split
      · simpa using hr
      · simp only [List.length_append, encAll_len, List.length_cons, List.length_nil]; omega
theorem bs_get {l z : List UInt8} {i : Nat} (hi : i < l.length) : (bsC (l ++ z)).getD i .any = byteC (l.getD i 0) := by
  rw [List.getD_eq_getElem?_getD, List.getElem?_map, List.getElem?_append_left hi, List.getD_eq_getElem?_getD, List.getElem?_eq_getElem hi]; rfl
end Go.Proofs.Ytgegddefcgfhgaa.Sx
namespace Go.Proofs.Ytgegddefcgfhgaa.Sx
open Go
set_option linter.unusedSimpArgs false
set_option linter.unusedVariables false
set_option maxRecDepth 10000
set_option maxHeartbeats 2000000
theorem pF1_spec (H : List SB) (im : Nat) : Spec cx.P 63 [.c (.ptr im 0)] H fun s h' => s = .c (.ptr im 0) ∧ h' = H := by
  refine spec_of_X cx_ok Try.func63 rfl (by kernel_rfl) (by kernel_rfl) (Nat.le_of_ble_eq_true rfl) 400 3 ?_
  simp (maxSteps := 4000000) only [Try.results63, XX, Nat.reduceBEq, Nat.reduceLT, Nat.reduceAdd, Nat.reduceMul, Nat.reduceSub, Nat.reduceLeDiff, Nat.reduceEqDiff, Int.reduceToNat, Int.reduceLT, Int.reduceLE, Int.reduceAdd, Int.reduceSub, Int.reduceEq, reduceIte, Nat.reduceBNe, Int.reducePow, Nat.reducePow, Int.reduceMul, Int.reduceNeg, isB_i, isB_b, isB_y, isBv_i, isBv_b, eqCells_t, TT]
theorem pF2_spec (H : List SB) (im : Nat) : Spec cx.P 64 [.c (.ptr im 0)] H fun s h' => s = .c (.ptr im 1) ∧ h' = H := by
  refine spec_of_X cx_ok Try.func64 rfl (by kernel_rfl) (by kernel_rfl) (Nat.le_of_ble_eq_true rfl) 400 3 ?_
  simp (maxSteps := 4000000) only [Try.results64, XX, Nat.reduceBEq, Nat.reduceLT, Nat.reduceAdd, Nat.reduceMul, Nat.reduceSub, Nat.reduceLeDiff, Nat.reduceEqDiff, Int.reduceToNat, Int.reduceLT, Int.reduceLE, Int.reduceAdd, Int.reduceSub, Int.reduceEq, reduceIte, Nat.reduceBNe, Int.reducePow, Nat.reducePow, Int.reduceMul, Int.reduceNeg, isB_i, isB_b, isB_y, isBv_i, isBv_b, eqCells_t, TT]
theorem pF3_spec (H : List SB) (im : Nat) : Spec cx.P 66 [.c (.ptr im 0)] H fun s h' => s = .c (.ptr im 2) ∧ h' = H := by
  refine spec_of_X cx_ok Try.func66 rfl (by kernel_rfl) (by kernel_rfl) (Nat.le_of_ble_eq_true rfl) 400 3 ?_
  simp (maxSteps := 4000000) only [Try.results66, XX, Nat.reduceBEq, Nat.reduceLT, Nat.reduceAdd, Nat.reduceMul, Nat.reduceSub, Nat.reduceLeDiff, Nat.reduceEqDiff, Int.reduceToNat, Int.reduceLT, Int.reduceLE, Int.reduceAdd, Int.reduceSub, Int.reduceEq, reduceIte, Nat.reduceBNe, Int.reducePow, Nat.reducePow, Int.reduceMul, Int.reduceNeg, isB_i, isB_b, isB_y, isBv_i, isBv_b, eqCells_t, TT]
theorem pF4_spec (H : List SB) (im : Nat) : Spec cx.P 67 [.c (.ptr im 0)] H fun s h' => s = .c (.ptr im 3) ∧ h' = H := by
  refine spec_of_X cx_ok Try.func67 rfl (by kernel_rfl) (by kernel_rfl) (Nat.le_of_ble_eq_true rfl) 400 3 ?_
  simp (maxSteps := 4000000) only [Try.results67, XX, Nat.reduceBEq, Nat.reduceLT, Nat.reduceAdd, Nat.reduceMul, Nat.reduceSub, Nat.reduceLeDiff, Nat.reduceEqDiff, Int.reduceToNat, Int.reduceLT, Int.reduceLE, Int.reduceAdd, Int.reduceSub, Int.reduceEq, reduceIte, Nat.reduceBNe, Int.reducePow, Nat.reducePow, Int.reduceMul, Int.reduceNeg, isB_i, isB_b, isB_y, isBv_i, isBv_b, eqCells_t, TT]
theorem pF7_spec (H : List SB) (im : Nat) : Spec cx.P 70 [.c (.ptr im 0)] H fun s h' => s = .c (.ptr im 5) ∧ h' = H := by
  refine spec_of_X cx_ok Try.func70 rfl (by kernel_rfl) (by kernel_rfl) (Nat.le_of_ble_eq_true rfl) 400 3 ?_
  simp (maxSteps := 4000000) only [Try.results70, XX, Nat.reduceBEq, Nat.reduceLT, Nat.reduceAdd, Nat.reduceMul, Nat.reduceSub, Nat.reduceLeDiff, Nat.reduceEqDiff, Int.reduceToNat, Int.reduceLT, Int.reduceLE, Int.reduceAdd, Int.reduceSub, Int.reduceEq, reduceIte, Nat.reduceBNe, Int.reducePow, Nat.reducePow, Int.reduceMul, Int.reduceNeg, isB_i, isB_b, isB_y, isBv_i, isBv_b, eqCells_t, TT]
theorem pF8_spec (H : List SB) (im : Nat) : Spec cx.P 71 [.c (.ptr im 0)] H fun s h' => s = .c (.ptr im 6) ∧ h' = H := by
  refine spec_of_X cx_ok Try.func71 rfl (by kernel_rfl) (by kernel_rfl) (Nat.le_of_ble_eq_true rfl) 400 3 ?_
  simp (maxSteps := 4000000) only [Try.results71, XX, Nat.reduceBEq, Nat.reduceLT, Nat.reduceAdd, Nat.reduceMul, Nat.reduceSub, Nat.reduceLeDiff, Nat.reduceEqDiff, Int.reduceToNat, Int.reduceLT, Int.reduceLE, Int.reduceAdd, Int.reduceSub, Int.reduceEq, reduceIte, Nat.reduceBNe, Int.reducePow, Nat.reducePow, Int.reduceMul, Int.reduceNeg, isB_i, isB_b, isB_y, isBv_i, isBv_b, eqCells_t, TT]
theorem pF9_spec (H : List SB) (im : Nat) : Spec cx.P 72 [.c (.ptr im 0)] H fun s h' => s = .c (.ptr im 7) ∧ h' = H := by
  refine spec_of_X cx_ok Try.func72 rfl (by kernel_rfl) (by kernel_rfl) (Nat.le_of_ble_eq_true rfl) 400 3 ?_
  simp (maxSteps := 4000000) only [Try.results72, XX, Nat.reduceBEq, Nat.reduceLT, Nat.reduceAdd, Nat.reduceMul, Nat.reduceSub, Nat.reduceLeDiff, Nat.reduceEqDiff, Int.reduceToNat, Int.reduceLT, Int.reduceLE, Int.reduceAdd, Int.reduceSub, Int.reduceEq, reduceIte, Nat.reduceBNe, Int.reducePow, Nat.reducePow, Int.reduceMul, Int.reduceNeg, isB_i, isB_b, isB_y, isBv_i, isBv_b, eqCells_t, TT]
theorem pF10_spec (H : List SB) (im : Nat) : Spec cx.P 73 [.c (.ptr im 0)] H fun s h' => s = .c (.ptr im 8) ∧ h' = H := by
  refine spec_of_X cx_ok Try.func73 rfl (by kernel_rfl) (by kernel_rfl) (Nat.le_of_ble_eq_true rfl) 400 3 ?_
  simp (maxSteps := 4000000) only [Try.results73, XX, Nat.reduceBEq, Nat.reduceLT, Nat.reduceAdd, Nat.reduceMul, Nat.reduceSub, Nat.reduceLeDiff, Nat.reduceEqDiff, Int.reduceToNat, Int.reduceLT, Int.reduceLE, Int.reduceAdd, Int.reduceSub, Int.reduceEq, reduceIte, Nat.reduceBNe, Int.reducePow, Nat.reducePow, Int.reduceMul, Int.reduceNeg, isB_i, isB_b, isB_y, isBv_i, isBv_b, eqCells_t, TT]
theorem small1_spec (H : List SB) (im ibx ofs g : Nat) (v : Int) (ob : Bool) (bb : SB) (hbx : H[ibx]? = some ⟨ob, 94, [.fn g []]⟩) (hm : H[im]? = some bb) (hv : bb.cells.getD ofs .any = .v (.int .i64 v)) (hl : ofs < bb.cells.length)
    (hg : Spec cx.P g [.c (.ptr im 0)] H fun s h' => s = .c (.ptr im ofs) ∧ h' = H) : Spec cx.P 84 [.c (.ptr im 0), .c (.ptr ibx 0)] H fun s h' => s = .c (.v (.int .u64 (IntKind.u64.wrap v))) ∧ h' = H := by
  have lm := lt_of hm
  have lx := lt_of hbx
  refine spec_of_X cx_ok Try.func84 rfl (by kernel_rfl) (by kernel_rfl) (Nat.le_of_ble_eq_true rfl) 400 4 ?_
  simp (maxSteps := 4000000) only [Try.results84, XX, Nat.reduceBEq, Nat.reduceLT, Nat.reduceAdd, Nat.reduceMul, Nat.reduceSub, Nat.reduceLeDiff, Nat.reduceEqDiff, Int.reduceToNat, Int.reduceLT, Int.reduceLE, Int.reduceAdd, Int.reduceSub, Int.reduceEq, reduceIte, Nat.reduceBNe, Int.reducePow, Nat.reducePow, Int.reduceMul, Int.reduceNeg, isB_i, isB_b, isB_y, isBv_i, isBv_b, eqCells_t, TT]
  simp (maxSteps := 4000000) only [Try.results84, hbx, lx, XX, Nat.reduceBEq, Nat.reduceLT, Nat.reduceAdd, Nat.reduceMul, Nat.reduceSub, Nat.reduceLeDiff, Nat.reduceEqDiff, Int.reduceToNat, Int.reduceLT, Int.reduceLE, Int.reduceAdd, Int.reduceSub, Int.reduceEq, reduceIte, Nat.reduceBNe, Int.reducePow, Nat.reducePow, Int.reduceMul, Int.reduceNeg, isB_i, isB_b, isB_y, isBv_i, isBv_b, eqCells_t, TT]
  refine call_is hg ?_
  rintro _ _ ⟨rfl, rfl⟩
  simp (maxSteps := 4000000) only [Try.results84, hm, lm, hv, XX, Nat.reduceBEq, Nat.reduceLT, Nat.reduceAdd, Nat.reduceMul, Nat.reduceSub, Nat.reduceLeDiff, Nat.reduceEqDiff, Int.reduceToNat, Int.reduceLT, Int.reduceLE, Int.reduceAdd, Int.reduceSub, Int.reduceEq, reduceIte, Nat.reduceBNe, Int.reducePow, Nat.reducePow, Int.reduceMul, Int.reduceNeg, isB_i, isB_b, isB_y, isBv_i, isBv_b, eqCells_t, TT]
  exact hl
theorem address1_spec (H : List SB) (im ibx ofs g : Nat) (v : Int) (ob : Bool) (bb : SB) (hbx : H[ibx]? = some ⟨ob, 97, [.fn g []]⟩) (hm : H[im]? = some bb) (hv : bb.cells.getD ofs .any = .v (.int .u32 v)) (hl : ofs < bb.cells.length)
    (hg : Spec cx.P g [.c (.ptr im 0)] H fun s h' => s = .c (.ptr im ofs) ∧ h' = H) : Spec cx.P 86 [.c (.ptr im 0), .c (.ptr ibx 0)] H fun s h' => s = .c (.v (.int .u64 (IntKind.u64.wrap v))) ∧ h' = H := by
  have lm := lt_of hm
  have lx := lt_of hbx
  refine spec_of_X cx_ok Try.func86 rfl (by kernel_rfl) (by kernel_rfl) (Nat.le_of_ble_eq_true rfl) 400 4 ?_
  simp (maxSteps := 4000000) only [Try.results86, XX, Nat.reduceBEq, Nat.reduceLT, Nat.reduceAdd, Nat.reduceMul, Nat.reduceSub, Nat.reduceLeDiff, Nat.reduceEqDiff, Int.reduceToNat, Int.reduceLT, Int.reduceLE, Int.reduceAdd, Int.reduceSub, Int.reduceEq, reduceIte, Nat.reduceBNe, Int.reducePow, Nat.reducePow, Int.reduceMul, Int.reduceNeg, isB_i, isB_b, isB_y, isBv_i, isBv_b, eqCells_t, TT]
  simp (maxSteps := 4000000) only [Try.results86, hbx, lx, XX, Nat.reduceBEq, Nat.reduceLT, Nat.reduceAdd, Nat.reduceMul, Nat.reduceSub, Nat.reduceLeDiff, Nat.reduceEqDiff, Int.reduceToNat, Int.reduceLT, Int.reduceLE, Int.reduceAdd, Int.reduceSub, Int.reduceEq, reduceIte, Nat.reduceBNe, Int.reducePow, Nat.reducePow, Int.reduceMul, Int.reduceNeg, isB_i, isB_b, isB_y, isBv_i, isBv_b, eqCells_t, TT]
  refine call_is hg ?_
  rintro _ _ ⟨rfl, rfl⟩
  simp (maxSteps := 4000000) only [Try.results86, hm, lm, hv, XX, Nat.reduceBEq, Nat.reduceLT, Nat.reduceAdd, Nat.reduceMul, Nat.reduceSub, Nat.reduceLeDiff, Nat.reduceEqDiff, Int.reduceToNat, Int.reduceLT, Int.reduceLE, Int.reduceAdd, Int.reduceSub, Int.reduceEq, reduceIte, Nat.reduceBNe, Int.reducePow, Nat.reducePow, Int.reduceMul, Int.reduceNeg, isB_i, isB_b, isB_y, isBv_i, isBv_b, eqCells_t, TT]
  exact hl
theorem flag1_spec (H : List SB) (im : Nat) (b : Bool) (bb : SB) (hm : H[im]? = some bb) (hv : bb.cells.getD 4 .any = bC b) (hl : 4 < bb.cells.length) : Spec cx.P 68 [.c (.ptr im 0)] H fun s h' => s = .c (u64 (if b then 128 else 0 : Nat)) ∧ h' = H := by
  have lm := lt_of hm
  refine spec_of_X cx_ok Try.func68 rfl (by kernel_rfl) (by kernel_rfl) (Nat.le_of_ble_eq_true rfl) 400 3 ?_
  simp (maxSteps := 4000000) only [Try.results68, XX, Nat.reduceBEq, Nat.reduceLT, Nat.reduceAdd, Nat.reduceMul, Nat.reduceSub, Nat.reduceLeDiff, Nat.reduceEqDiff, Int.reduceToNat, Int.reduceLT, Int.reduceLE, Int.reduceAdd, Int.reduceSub, Int.reduceEq, reduceIte, Nat.reduceBNe, Int.reducePow, Nat.reducePow, Int.reduceMul, Int.reduceNeg, isB_i, isB_b, isB_y, isBv_i, isBv_b, eqCells_t, TT]
  cases b
  all_goals
    simp (maxSteps := 4000000) only [Try.results68, hm, lm, hv, XX, Nat.reduceBEq, Nat.reduceLT, Nat.reduceAdd, Nat.reduceMul, Nat.reduceSub, Nat.reduceLeDiff, Nat.reduceEqDiff, Int.reduceToNat, Int.reduceLT, Int.reduceLE, Int.reduceAdd, Int.reduceSub, Int.reduceEq, reduceIte, Nat.reduceBNe, Int.reducePow, Nat.reducePow, Int.reduceMul, Int.reduceNeg, isB_i, isB_b, isB_y, isBv_i, isBv_b, eqCells_t, TT]
    exact hl
theorem fsmall_spec (a w : Int) (g : Nat) : Spec cx.P 62 [.c (i64 a), .c (i64 w), .c (.fn g [])] [] fun s h' => s = .agg [i64 a, i64 w, .fn 84 [(0, 0)], .fn 85 [(0, 0)]] ∧ h' = [⟨true, 94, [.fn g []]⟩] := by
  refine Spec.wk (K := fun s h' => ∃ b, s = .agg [i64 a, i64 w, .fn 84 [(0, 0)], .fn 85 [(0, 0)]] ∧ h' = [⟨true, 94, [.fn g []]⟩, b]) ?_ ?_
  · refine spec_of_X cx_ok Try.func62 rfl (by kernel_rfl) (by kernel_rfl) (Nat.le_of_ble_eq_true rfl) 400 7 ?_
    simp (maxSteps := 4000000) only [Try.results62, XX, Nat.reduceBEq, Nat.reduceLT, Nat.reduceAdd, Nat.reduceMul, Nat.reduceSub, Nat.reduceLeDiff, Nat.reduceEqDiff, Int.reduceToNat, Int.reduceLT, Int.reduceLE, Int.reduceAdd, Int.reduceSub, Int.reduceEq, reduceIte, Nat.reduceBNe, Int.reducePow, Nat.reducePow, Int.reduceMul, Int.reduceNeg, isB_i, isB_b, isB_y, isBv_i, isBv_b, eqCells_t, TT]
    simp (maxSteps := 4000000) only [Try.results62, List.size_toArray, List.length_nil, XX, Nat.reduceBEq, Nat.reduceLT, Nat.reduceAdd, Nat.reduceMul, Nat.reduceSub, Nat.reduceLeDiff, Nat.reduceEqDiff, Int.reduceToNat, Int.reduceLT, Int.reduceLE, Int.reduceAdd, Int.reduceSub, Int.reduceEq, reduceIte, Nat.reduceBNe, Int.reducePow, Nat.reducePow, Int.reduceMul, Int.reduceNeg, isB_i, isB_b, isB_y, isBv_i, isBv_b, eqCells_t, TT]
    exact ⟨_, rfl⟩
  · rintro t h' ⟨b, rfl, rfl⟩
    exact ⟨.agg [i64 a, i64 w, .fn 84 [(0, 0)], .fn 85 [(0, 0)]], [⟨true, 94, [.fn g []]⟩], [some 0], rfl, by simp only [XX, Nat.reduceBEq, Nat.reduceLT, Nat.reduceAdd, Nat.reduceMul, Nat.reduceSub, Nat.reduceLeDiff, Nat.reduceEqDiff, Int.reduceToNat, Int.reduceLT, Int.reduceLE, Int.reduceAdd, Int.reduceSub, Int.reduceEq, reduceIte, Nat.reduceBNe, Int.reducePow, Nat.reducePow, Int.reduceMul, Int.reduceNeg, isB_i, isB_b, isB_y, isBv_i, isBv_b, eqCells_t, TT, ids_bsC, ren_bsC, noRo_bsC, plain_bsC, lt_bsC, ids_byte, ren_byte, noRo_byte, plain_byte, lt_byte], by simp only [XX, Nat.reduceBEq, Nat.reduceLT, Nat.reduceAdd, Nat.reduceMul, Nat.reduceSub, Nat.reduceLeDiff, Nat.reduceEqDiff, Int.reduceToNat, Int.reduceLT, Int.reduceLE, Int.reduceAdd, Int.reduceSub, Int.reduceEq, reduceIte, Nat.reduceBNe, Int.reducePow, Nat.reducePow, Int.reduceMul, Int.reduceNeg, isB_i, isB_b, isB_y, isBv_i, isBv_b, eqCells_t, TT, ids_bsC, ren_bsC, noRo_bsC, plain_bsC, lt_bsC, ids_byte, ren_byte, noRo_byte, plain_byte, lt_byte], rfl, rfl⟩
theorem faddress_spec (a : Int) (g : Nat) : Spec cx.P 65 [.c (i64 a), .c (.fn g [])] [] fun s h' => s = .agg [i64 a, i64 4, .fn 86 [(0, 0)], .fn 87 [(0, 0)]] ∧ h' = [⟨true, 97, [.fn g []]⟩] := by
  refine Spec.wk (K := fun s h' => ∃ b, s = .agg [i64 a, i64 4, .fn 86 [(0, 0)], .fn 87 [(0, 0)]] ∧ h' = [⟨true, 97, [.fn g []]⟩, b]) ?_ ?_
  · refine spec_of_X cx_ok Try.func65 rfl (by kernel_rfl) (by kernel_rfl) (Nat.le_of_ble_eq_true rfl) 400 5 ?_
    simp (maxSteps := 4000000) only [Try.results65, XX, Nat.reduceBEq, Nat.reduceLT, Nat.reduceAdd, Nat.reduceMul, Nat.reduceSub, Nat.reduceLeDiff, Nat.reduceEqDiff, Int.reduceToNat, Int.reduceLT, Int.reduceLE, Int.reduceAdd, Int.reduceSub, Int.reduceEq, reduceIte, Nat.reduceBNe, Int.reducePow, Nat.reducePow, Int.reduceMul, Int.reduceNeg, isB_i, isB_b, isB_y, isBv_i, isBv_b, eqCells_t, TT]
    simp (maxSteps := 4000000) only [Try.results65, List.size_toArray, List.length_nil, XX, Nat.reduceBEq, Nat.reduceLT, Nat.reduceAdd, Nat.reduceMul, Nat.reduceSub, Nat.reduceLeDiff, Nat.reduceEqDiff, Int.reduceToNat, Int.reduceLT, Int.reduceLE, Int.reduceAdd, Int.reduceSub, Int.reduceEq, reduceIte, Nat.reduceBNe, Int.reducePow, Nat.reducePow, Int.reduceMul, Int.reduceNeg, isB_i, isB_b, isB_y, isBv_i, isBv_b, eqCells_t, TT]
    exact ⟨_, rfl⟩
  · rintro t h' ⟨b, rfl, rfl⟩
    exact ⟨.agg [i64 a, i64 4, .fn 86 [(0, 0)], .fn 87 [(0, 0)]], [⟨true, 97, [.fn g []]⟩], [some 0], rfl, by simp only [XX, Nat.reduceBEq, Nat.reduceLT, Nat.reduceAdd, Nat.reduceMul, Nat.reduceSub, Nat.reduceLeDiff, Nat.reduceEqDiff, Int.reduceToNat, Int.reduceLT, Int.reduceLE, Int.reduceAdd, Int.reduceSub, Int.reduceEq, reduceIte, Nat.reduceBNe, Int.reducePow, Nat.reducePow, Int.reduceMul, Int.reduceNeg, isB_i, isB_b, isB_y, isBv_i, isBv_b, eqCells_t, TT, ids_bsC, ren_bsC, noRo_bsC, plain_bsC, lt_bsC, ids_byte, ren_byte, noRo_byte, plain_byte, lt_byte], by simp only [XX, Nat.reduceBEq, Nat.reduceLT, Nat.reduceAdd, Nat.reduceMul, Nat.reduceSub, Nat.reduceLeDiff, Nat.reduceEqDiff, Int.reduceToNat, Int.reduceLT, Int.reduceLE, Int.reduceAdd, Int.reduceSub, Int.reduceEq, reduceIte, Nat.reduceBNe, Int.reducePow, Nat.reducePow, Int.reduceMul, Int.reduceNeg, isB_i, isB_b, isB_y, isBv_i, isBv_b, eqCells_t, TT, ids_bsC, ren_bsC, noRo_bsC, plain_bsC, lt_bsC, ids_byte, ren_byte, noRo_byte, plain_byte, lt_byte], rfl, rfl⟩
abbrev boxI (g : Nat) : SB := ⟨true, 94, [.fn g []]⟩
abbrev boxU (g : Nat) : SB := ⟨true, 97, [.fn g []]⟩
abbrev fI (b : Nat) (a w : Int) : List SC := [i64 a, i64 w, .fn 84 [(b, 0)], .fn 85 [(b, 0)]]
abbrev fU (b : Nat) (a : Int) : List SC := [i64 a, i64 4, .fn 86 [(b, 0)], .fn 87 [(b, 0)]]
abbrev fieldsR (b : Nat) : List SC := fI b 0 1 ++ (fI (b + 1) 3 1 ++ (fU (b + 2) 4 ++ (fI (b + 3) 8 2 ++ ([i64 10, i64 1, .fn 68 [], .fn 69 []] ++ (fU (b + 4) 12 ++ (fU (b + 5) 16 ++ (fU (b + 6) 20 ++ fU (b + 7) 24)))))))
abbrev boxesL : List SB := [boxI 63, boxI 64, boxU 66, boxI 67, boxU 70, boxU 71, boxU 72, boxU 73]
abbrev rowF (b : Nat) : SB := ⟨true, 66, fieldsR b⟩
theorem fields_spec : Spec cx.P 32 [] [] fun s h' => s = .c (.sl 8 0 9 9) ∧ h' = boxesL ++ [rowF 0] := by
  refine spec_of_X cx_ok Try.func32 rfl (by kernel_rfl) (by kernel_rfl) (Nat.le_of_ble_eq_true rfl) 400 1 ?_
  simp (maxSteps := 4000000) only [Try.results32, XX, Nat.reduceBEq, Nat.reduceLT, Nat.reduceAdd, Nat.reduceMul, Nat.reduceSub, Nat.reduceLeDiff, Nat.reduceEqDiff, Int.reduceToNat, Int.reduceLT, Int.reduceLE, Int.reduceAdd, Int.reduceSub, Int.reduceEq, reduceIte, Nat.reduceBNe, Int.reducePow, Nat.reducePow, Int.reduceMul, Int.reduceNeg, isB_i, isB_b, isB_y, isBv_i, isBv_b, eqCells_t, TT]
  refine call_fz [.c (i64 0), .c (i64 1), .c (.fn 63 [])] (fsmall_spec 0 1 63) (fun t h' h => by obtain ⟨rfl, rfl⟩ := h; exact ⟨rfl, rfl⟩) ⟨.inl ⟨rfl, rfl⟩, .inl ⟨rfl, rfl⟩, .inl ⟨rfl, rfl⟩, trivial⟩ ?_
  rintro _ _ ⟨rfl, rfl⟩
  simp (maxSteps := 4000000) only [Try.results32, List.flatten_cons, List.flatten_nil, List.cons_append, List.nil_append, List.append_nil, List.replicate_succ, List.replicate_zero, List.drop_succ_cons, List.drop_zero, List.length_cons, List.length_nil, Nat.reduceAdd, Nat.reduceLeDiff, reduceIte, setR, List.set_cons_zero, List.set_cons_succ, XX, Nat.reduceBEq, Nat.reduceLT, Nat.reduceAdd, Nat.reduceMul, Nat.reduceSub, Nat.reduceLeDiff, Nat.reduceEqDiff, Int.reduceToNat, Int.reduceLT, Int.reduceLE, Int.reduceAdd, Int.reduceSub, Int.reduceEq, reduceIte, Nat.reduceBNe, Int.reducePow, Nat.reducePow, Int.reduceMul, Int.reduceNeg, isB_i, isB_b, isB_y, isBv_i, isBv_b, eqCells_t, TT]
  refine call_fz [.c (i64 3), .c (i64 1), .c (.fn 64 [])] (fsmall_spec 3 1 64) (fun t h' h => by obtain ⟨rfl, rfl⟩ := h; exact ⟨rfl, rfl⟩) ⟨.inl ⟨rfl, rfl⟩, .inl ⟨rfl, rfl⟩, .inl ⟨rfl, rfl⟩, trivial⟩ ?_
  rintro _ _ ⟨rfl, rfl⟩
  simp (maxSteps := 4000000) only [Try.results32, List.flatten_cons, List.flatten_nil, List.cons_append, List.nil_append, List.append_nil, List.replicate_succ, List.replicate_zero, List.drop_succ_cons, List.drop_zero, List.length_cons, List.length_nil, Nat.reduceAdd, Nat.reduceLeDiff, reduceIte, setR, List.set_cons_zero, List.set_cons_succ, XX, Nat.reduceBEq, Nat.reduceLT, Nat.reduceAdd, Nat.reduceMul, Nat.reduceSub, Nat.reduceLeDiff, Nat.reduceEqDiff, Int.reduceToNat, Int.reduceLT, Int.reduceLE, Int.reduceAdd, Int.reduceSub, Int.reduceEq, reduceIte, Nat.reduceBNe, Int.reducePow, Nat.reducePow, Int.reduceMul, Int.reduceNeg, isB_i, isB_b, isB_y, isBv_i, isBv_b, eqCells_t, TT]
  refine call_fz [.c (i64 4), .c (.fn 66 [])] (faddress_spec 4 66) (fun t h' h => by obtain ⟨rfl, rfl⟩ := h; exact ⟨rfl, rfl⟩) ⟨.inl ⟨rfl, rfl⟩, .inl ⟨rfl, rfl⟩, trivial⟩ ?_
  rintro _ _ ⟨rfl, rfl⟩
  simp (maxSteps := 4000000) only [Try.results32, List.flatten_cons, List.flatten_nil, List.cons_append, List.nil_append, List.append_nil, List.replicate_succ, List.replicate_zero, List.drop_succ_cons, List.drop_zero, List.length_cons, List.length_nil, Nat.reduceAdd, Nat.reduceLeDiff, reduceIte, setR, List.set_cons_zero, List.set_cons_succ, XX, Nat.reduceBEq, Nat.reduceLT, Nat.reduceAdd, Nat.reduceMul, Nat.reduceSub, Nat.reduceLeDiff, Nat.reduceEqDiff, Int.reduceToNat, Int.reduceLT, Int.reduceLE, Int.reduceAdd, Int.reduceSub, Int.reduceEq, reduceIte, Nat.reduceBNe, Int.reducePow, Nat.reducePow, Int.reduceMul, Int.reduceNeg, isB_i, isB_b, isB_y, isBv_i, isBv_b, eqCells_t, TT]
  refine call_fz [.c (i64 8), .c (i64 2), .c (.fn 67 [])] (fsmall_spec 8 2 67) (fun t h' h => by obtain ⟨rfl, rfl⟩ := h; exact ⟨rfl, rfl⟩) ⟨.inl ⟨rfl, rfl⟩, .inl ⟨rfl, rfl⟩, .inl ⟨rfl, rfl⟩, trivial⟩ ?_
  rintro _ _ ⟨rfl, rfl⟩
  simp (maxSteps := 4000000) only [Try.results32, List.flatten_cons, List.flatten_nil, List.cons_append, List.nil_append, List.append_nil, List.replicate_succ, List.replicate_zero, List.drop_succ_cons, List.drop_zero, List.length_cons, List.length_nil, Nat.reduceAdd, Nat.reduceLeDiff, reduceIte, setR, List.set_cons_zero, List.set_cons_succ, XX, Nat.reduceBEq, Nat.reduceLT, Nat.reduceAdd, Nat.reduceMul, Nat.reduceSub, Nat.reduceLeDiff, Nat.reduceEqDiff, Int.reduceToNat, Int.reduceLT, Int.reduceLE, Int.reduceAdd, Int.reduceSub, Int.reduceEq, reduceIte, Nat.reduceBNe, Int.reducePow, Nat.reducePow, Int.reduceMul, Int.reduceNeg, isB_i, isB_b, isB_y, isBv_i, isBv_b, eqCells_t, TT]
  refine call_fz [.c (i64 12), .c (.fn 70 [])] (faddress_spec 12 70) (fun t h' h => by obtain ⟨rfl, rfl⟩ := h; exact ⟨rfl, rfl⟩) ⟨.inl ⟨rfl, rfl⟩, .inl ⟨rfl, rfl⟩, trivial⟩ ?_
  rintro _ _ ⟨rfl, rfl⟩
  simp (maxSteps := 4000000) only [Try.results32, List.flatten_cons, List.flatten_nil, List.cons_append, List.nil_append, List.append_nil, List.replicate_succ, List.replicate_zero, List.drop_succ_cons, List.drop_zero, List.length_cons, List.length_nil, Nat.reduceAdd, Nat.reduceLeDiff, reduceIte, setR, List.set_cons_zero, List.set_cons_succ, XX, Nat.reduceBEq, Nat.reduceLT, Nat.reduceAdd, Nat.reduceMul, Nat.reduceSub, Nat.reduceLeDiff, Nat.reduceEqDiff, Int.reduceToNat, Int.reduceLT, Int.reduceLE, Int.reduceAdd, Int.reduceSub, Int.reduceEq, reduceIte, Nat.reduceBNe, Int.reducePow, Nat.reducePow, Int.reduceMul, Int.reduceNeg, isB_i, isB_b, isB_y, isBv_i, isBv_b, eqCells_t, TT]
  refine call_fz [.c (i64 16), .c (.fn 71 [])] (faddress_spec 16 71) (fun t h' h => by obtain ⟨rfl, rfl⟩ := h; exact ⟨rfl, rfl⟩) ⟨.inl ⟨rfl, rfl⟩, .inl ⟨rfl, rfl⟩, trivial⟩ ?_
  rintro _ _ ⟨rfl, rfl⟩
  simp (maxSteps := 4000000) only [Try.results32, List.flatten_cons, List.flatten_nil, List.cons_append, List.nil_append, List.append_nil, List.replicate_succ, List.replicate_zero, List.drop_succ_cons, List.drop_zero, List.length_cons, List.length_nil, Nat.reduceAdd, Nat.reduceLeDiff, reduceIte, setR, List.set_cons_zero, List.set_cons_succ, XX, Nat.reduceBEq, Nat.reduceLT, Nat.reduceAdd, Nat.reduceMul, Nat.reduceSub, Nat.reduceLeDiff, Nat.reduceEqDiff, Int.reduceToNat, Int.reduceLT, Int.reduceLE, Int.reduceAdd, Int.reduceSub, Int.reduceEq, reduceIte, Nat.reduceBNe, Int.reducePow, Nat.reducePow, Int.reduceMul, Int.reduceNeg, isB_i, isB_b, isB_y, isBv_i, isBv_b, eqCells_t, TT]
  refine call_fz [.c (i64 20), .c (.fn 72 [])] (faddress_spec 20 72) (fun t h' h => by obtain ⟨rfl, rfl⟩ := h; exact ⟨rfl, rfl⟩) ⟨.inl ⟨rfl, rfl⟩, .inl ⟨rfl, rfl⟩, trivial⟩ ?_
  rintro _ _ ⟨rfl, rfl⟩
  simp (maxSteps := 4000000) only [Try.results32, List.flatten_cons, List.flatten_nil, List.cons_append, List.nil_append, List.append_nil, List.replicate_succ, List.replicate_zero, List.drop_succ_cons, List.drop_zero, List.length_cons, List.length_nil, Nat.reduceAdd, Nat.reduceLeDiff, reduceIte, setR, List.set_cons_zero, List.set_cons_succ, XX, Nat.reduceBEq, Nat.reduceLT, Nat.reduceAdd, Nat.reduceMul, Nat.reduceSub, Nat.reduceLeDiff, Nat.reduceEqDiff, Int.reduceToNat, Int.reduceLT, Int.reduceLE, Int.reduceAdd, Int.reduceSub, Int.reduceEq, reduceIte, Nat.reduceBNe, Int.reducePow, Nat.reducePow, Int.reduceMul, Int.reduceNeg, isB_i, isB_b, isB_y, isBv_i, isBv_b, eqCells_t, TT]
  refine call_fz [.c (i64 24), .c (.fn 73 [])] (faddress_spec 24 73) (fun t h' h => by obtain ⟨rfl, rfl⟩ := h; exact ⟨rfl, rfl⟩) ⟨.inl ⟨rfl, rfl⟩, .inl ⟨rfl, rfl⟩, trivial⟩ ?_
  rintro _ _ ⟨rfl, rfl⟩
  simp (maxSteps := 4000000) only [Try.results32, List.flatten_cons, List.flatten_nil, List.cons_append, List.nil_append, List.append_nil, List.replicate_succ, List.replicate_zero, List.drop_succ_cons, List.drop_zero, List.length_cons, List.length_nil, Nat.reduceAdd, Nat.reduceLeDiff, reduceIte, setR, List.set_cons_zero, List.set_cons_succ, XX, Nat.reduceBEq, Nat.reduceLT, Nat.reduceAdd, Nat.reduceMul, Nat.reduceSub, Nat.reduceLeDiff, Nat.reduceEqDiff, Int.reduceToNat, Int.reduceLT, Int.reduceLE, Int.reduceAdd, Int.reduceSub, Int.reduceEq, reduceIte, Nat.reduceBNe, Int.reducePow, Nat.reducePow, Int.reduceMul, Int.reduceNeg, isB_i, isB_b, isB_y, isBv_i, isBv_b, eqCells_t, TT]
  rfl
end Go.Proofs.Ytgegddefcgfhgaa.Sx
