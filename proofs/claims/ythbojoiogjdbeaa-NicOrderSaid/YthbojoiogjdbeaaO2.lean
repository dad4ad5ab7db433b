/- The symbolic executor, at work: what the laws lean on, part 2. No condition. -/
import Derived.Test.YthbojoiogjdbeaaO1
namespace Go.Proofs.Ythbojoiogjdbeaa.Sx
open Go
set_option linter.unusedSimpArgs false
set_option linter.unusedVariables false
set_option maxRecDepth 10000
set_option maxHeartbeats 2000000
/-- A book that may be empty. -/
def BkS (H : List SB) (bk : Nat) (es : List OE) : Prop := (es = [] ∧ H[bk]? = some (bookB nilC nilC)) ∨ ∃ iL cL iW cW, Book H bk (es.map OE.sc) (es.map OE.l) iL cL iW cW
/-- All but a book's windows stay. -/
def KeepB (H h' : List SB) : Prop := H.length ≤ h'.length ∧ ∀ (i : Nat) (b : SB), H[i]? = some b → b.ty ≠ 57 → b.ty ≠ 33 → b.ty ≠ 9 → h'[i]? = some b
theorem KeepB.trans {a b c : List SB} (h1 : KeepB a b) (h2 : KeepB b c) : KeepB a c :=
  ⟨Nat.le_trans h1.1 h2.1, fun i x hx n1 n2 n3 => h2.2 i x (h1.2 i x hx n1 n2 n3) n1 n2 n3⟩
theorem Owns.keep {H h' : List SB} {es : List OE} (O : Owns H es) (K : KeepB H h') : Owns h' es :=
  ⟨fun i e he => K.2 _ _ (O.at_ i e he) (by decide : (5 : Nat) ≠ 57) (by decide : (5 : Nat) ≠ 33) (by decide : (5 : Nat) ≠ 9), O.own, O.lt, O.ne⟩
theorem Owns.push {H : List SB} {es : List OE} (O : Owns H es) (e : OE) (h1 : H[e.w]? = some (wB e.o (e.l ++ e.p))) (h2 : 0 < e.l.length + e.p.length → e.o = true) (h3 : e.l.length < 140737488351233) (h4 : ∀ f ∈ es, f.w ≠ e.w) : Owns H (es ++ [e]) := by
  have key : ∀ (i : Nat) (f : OE), (es ++ [e])[i]? = some f → es[i]? = some f ∨ (i = es.length ∧ f = e) := by
    intro i f hf
    by_cases hi : i < es.length
    · rw [List.getElem?_append_left hi] at hf
      exact .inl hf
    · rw [List.getElem?_append_right (by omega)] at hf
      have : i - es.length = 0 := by
        have := (List.getElem?_eq_some_iff.1 hf).1
        simp at this
        omega
      rw [this] at hf
      exact .inr ⟨by omega, (Option.some.inj hf).symm⟩
  refine ⟨fun i f hf => ?_, fun i f hf => ?_, fun i f hf => ?_, fun i j f g hij hf hg => ?_⟩
  · rcases key i f hf with h | ⟨_, rfl⟩
    · exact O.at_ i f h
    · exact h1
  · rcases key i f hf with h | ⟨_, rfl⟩
    · exact O.own i f h
    · exact h2
  · rcases key i f hf with h | ⟨_, rfl⟩
    · exact O.lt i f h
    · exact h3
  · rcases key i f hf with h | ⟨hi, rfl⟩ <;> rcases key j g hg with h' | ⟨hj, rfl⟩
    · exact O.ne i j f g hij h h'
    · exact h4 f (List.mem_of_getElem? h)
    · exact Ne.symm (h4 g (List.mem_of_getElem? h'))
    · omega
theorem takeA_spec {H : List SB} {bk : Nat} {es : List OE} (B : BkS H bk es) (hn : es.length ≤ 4398046511104) (w : Nat) (l sp : List UInt8) (o : Bool) (hw : H[w]? = some (wB o (l ++ sp))) (hl : l.length ≤ 1514) :
    Spec cx.P 41 [.c (.ptr bk 0), .c (.sl w 0 l.length (l.length + sp.length))] H fun t h' => t = .tup [] ∧ BkS h' bk (es ++ [⟨w, l, sp, o⟩]) ∧ KeepB H h' := by
  rcases B with ⟨rfl, hb⟩ | ⟨iL, cL, iW, cW, B⟩
  · refine (take0_spec H bk w l sp o _ (by omega) hb hw).mono fun t h' ⟨h1, iL, cL, iW, cW, B', K, _, _⟩ => ⟨h1, .inr ⟨iL, cL, iW, cW, B'⟩, K.1, fun i b hi n1 n2 n3 => ?_⟩
    rw [K.2 i (lt_of hi) (ty_ne hi hb n1)]
    exact hi
  · refine (take_spec H bk w _ _ iL cL iW cW l sp o _ (by omega) B (by simpa using hn) hw).mono fun t h' ⟨h1, iL', cL', iW', cW', B', K, _, _⟩ => ⟨h1, .inr ⟨iL', cL', iW', cW', ?_⟩, K.1, fun i b hi n1 n2 n3 => ?_⟩
    · simpa [OE.sc] using B'
    · rw [K.2 i (lt_of hi) (fun h => ?_)]
      · exact hi
      · rcases h with h | h | h
        · exact ty_ne hi B.b n1 h
        · exact ty_ne hi B.L n2 h
        · exact ty_ne hi B.W n3 h
end Go.Proofs.Ythbojoiogjdbeaa.Sx
namespace Go.Proofs.Ythbojoiogjdbeaa.Sx
open Go
set_option linter.unusedSimpArgs false
set_option linter.unusedVariables false
set_option maxRecDepth 10000
set_option maxHeartbeats 2000000
theorem Book.app {H : List SB} {ib : Nat} {ls : List SC} {ws : List (List UInt8)} {iL cL iW cW : Nat} (B : Book H ib ls ws iL cL iW cW) (X : List SB) : Book (H ++ X) ib ls ws iL cL iW cW :=
  ⟨by rw [List.getElem?_append_left (lt_of B.b)]; exact B.b, by rw [List.getElem?_append_left (lt_of B.L)]; exact B.L, by rw [List.getElem?_append_left (lt_of B.W)]; exact B.W, B.n, B.cl, B.cw⟩
theorem BkS.app {H : List SB} {bk : Nat} {es : List OE} (B : BkS H bk es) (X : List SB) : BkS (H ++ X) bk es := by
  rcases B with ⟨h, hb⟩ | ⟨iL, cL, iW, cW, B⟩
  · exact .inl ⟨h, by rw [List.getElem?_append_left (lt_of hb)]; exact hb⟩
  · exact .inr ⟨iL, cL, iW, cW, B.app X⟩
theorem KeepB.app (H X : List SB) : KeepB H (H ++ X) := ⟨by simp, fun i b hi _ _ _ => by rw [List.getElem?_append_left (lt_of hi)]; exact hi⟩
end Go.Proofs.Ythbojoiogjdbeaa.Sx
namespace Go.Proofs.Ythbojoiogjdbeaa.Sx
open Go
set_option linter.unusedSimpArgs false
set_option linter.unusedVariables false
set_option maxRecDepth 10000
set_option maxHeartbeats 2000000
theorem DX.keep {S : Nat → Prop} {H H' : List SB} {x : SC} {d : List UInt8} (h : DX S H x d) (K : ∀ (i : Nat) (b : SB), H[i]? = some b → b.ty = 5 → H'[i]? = some b) : DX S H' x d := by
  rcases h with h | ⟨w, z, o, h1, h2, h3⟩
  · exact .inl h
  · exact .inr ⟨w, z, o, h1, K _ _ h2 rfl, h3⟩
/-- The document's card stays, where windows of its types stay. -/
theorem RSx.keep {S : Nat → Prop} {H H' : List SB} {rc rr rt : Nat} {k : CK} (h : RSx S H rc rr rt k) (K : ∀ (i : Nat) (b : SB), H[i]? = some b → (b.ty = 83 ∨ b.ty = 85 ∨ b.ty = 5) → H'[i]? = some b) : RSx S H' rc rr rt k := by
  obtain ⟨lr, lt, cr, ct, R, X, Y⟩ := h
  refine ⟨lr, lt, cr, ct, ⟨K _ _ R.hc (.inl rfl), K _ _ R.hr (.inr (.inl rfl)), K _ _ R.ht (.inr (.inl rfl)), R.ne, R.lr, R.lt, R.n1, R.n2, R.ar, R.at'⟩, ?_, ?_⟩
  · exact X.mono fun _ _ h => h.keep fun i b hi ht => K i b hi (.inr (.inr ht))
  · exact Y.mono fun _ _ h => h.keep fun i b hi ht => K i b hi (.inr (.inr ht))
theorem RSx.grow {S S' : Nat → Prop} {H : List SB} {rc rr rt : Nat} {k : CK} (h : RSx S H rc rr rt k) (hs : ∀ i, S' i → S i ∨ H.length ≤ i) : RSx S' H rc rr rt k := by
  obtain ⟨lr, lt, cr, ct, R, X, Y⟩ := h
  exact ⟨lr, lt, cr, ct, R, X.mono fun _ _ h => h.grow hs, Y.mono fun _ _ h => h.grow hs⟩
theorem PC.keep {H H' : List SB} {c w1 w2 : Nat} {k : CK} (h : PC H c w1 w2 k) (K : ∀ (i : Nat) (b : SB), H[i]? = some b → (b.ty = 73 ∨ b.ty = 76) → H'[i]? = some b) : PC H' c w1 w2 k :=
  ⟨K _ _ h.hc (.inl rfl), K _ _ h.h1 (.inr rfl), K _ _ h.h2 (.inr rfl), h.ne⟩
theorem BkS.keep {H H' : List SB} {bk : Nat} {es : List OE} (B : BkS H bk es) (K : ∀ (i : Nat) (b : SB), H[i]? = some b → (b.ty = 57 ∨ b.ty = 33 ∨ b.ty = 9) → H'[i]? = some b) : BkS H' bk es := by
  rcases B with ⟨h, hb⟩ | ⟨iL, cL, iW, cW, B⟩
  · exact .inl ⟨h, K _ _ hb (.inl rfl)⟩
  · exact .inr ⟨iL, cL, iW, cW, K _ _ B.b (.inl rfl), K _ _ B.L (.inr (.inl rfl)), K _ _ B.W (.inr (.inr rfl)), B.n, B.cl, B.cw⟩
theorem mask_off {L : List Nat} {H : List SB} {x : Nat} (h : L.contains x = false) : (maskL L 0 H)[x]? = H[x]? := by
  rw [maskL_get, Nat.zero_add, h]; cases H[x]? <;> rfl
theorem unL_off {L : List Nat} {H h' : List SB} {x : Nat} (h : L.contains x = false) : (unL L 0 H h')[x]? = h'[x]? := by
  rw [unL_get]
  cases h'[x]? with
  | none => rfl
  | some b =>
    simp only [Option.map_some, Nat.zero_add, h, cond_false]
    cases H[x]? <;> rfl
end Go.Proofs.Ythbojoiogjdbeaa.Sx
namespace Go.Proofs.Ythbojoiogjdbeaa.Sx
open Go
set_option linter.unusedSimpArgs false
set_option linter.unusedVariables false
set_option maxRecDepth 10000
set_option maxHeartbeats 2000000
theorem maskL_len (L : List Nat) : ∀ (h : List SB) (k : Nat), (maskL L k h).length = h.length
  | [], _ => rfl
  | b :: r, k => by simp [maskL, maskL_len L r (k + 1)]
theorem unL_len (L : List Nat) : ∀ (h0 h : List SB) (k : Nat), (unL L k h0 h).length = h.length
  | [], [], _ => rfl
  | _ :: _, [], _ => rfl
  | [], _ :: _, _ => rfl
  | b0 :: r0, b :: r, k => by simp [unL, unL_len L r0 r (k + 1)]
/-- All but some windows, and a book's, stay. -/
def Kp (X : Nat → Prop) (H h' : List SB) : Prop := H.length ≤ h'.length ∧ ∀ (i : Nat) (b : SB), H[i]? = some b → ¬ X i → b.ty ≠ 57 → b.ty ≠ 33 → b.ty ≠ 9 → h'[i]? = some b
theorem Kp.rfl' {X : Nat → Prop} (H : List SB) : Kp X H H := ⟨Nat.le_refl _, fun _ _ h _ _ _ _ => h⟩
theorem Kp.trans {X : Nat → Prop} {a b c : List SB} (h1 : Kp X a b) (h2 : Kp X b c) : Kp X a c :=
  ⟨Nat.le_trans h1.1 h2.1, fun i x hx n n1 n2 n3 => h2.2 i x (h1.2 i x hx n n1 n2 n3) n n1 n2 n3⟩
theorem Kp.app {X : Nat → Prop} (H Y : List SB) : Kp X H (H ++ Y) := ⟨by simp, fun i b hi _ _ _ _ => by rw [List.getElem?_append_left (lt_of hi)]; exact hi⟩
theorem Kp.ofBut {X p : Nat → Prop} {H h' : List SB} (K : But H h' p) (hp : ∀ i, p i → X i) : Kp X H h' :=
  ⟨K.1, fun i b hi n _ _ _ => by rw [K.2 i (lt_of hi) (fun h => n (hp i h))]; exact hi⟩
theorem Kp.set {X : Nat → Prop} {H h' : List SB} (K : Kp X H h') {j : Nat} (hj : X j ∨ H.length ≤ j) (x : SB) : Kp X H (h'.set j x) :=
  ⟨by rw [List.length_set]; exact K.1, fun i b hi n n1 n2 n3 => by
    have : j ≠ i := by
      rintro rfl
      rcases hj with h | h
      · exact n h
      · have := lt_of hi; omega
    rw [List.getElem?_set_ne this]; exact K.2 i b hi n n1 n2 n3⟩
/-- Both cards of a pair, and their book. -/
structure J4 (S : Nat → Prop) (H : List SB) (c w1 w2 rc rr rt bk : Nat) (kc kr : CK) (es : List OE) : Prop where
  C : PC H c w1 w2 kc
  R : RSx S H rc rr rt kr
  B : BkS H bk es
  O : Owns H es
  sub : ∀ e ∈ es, S e.w
  hS : ∀ i, S i → i < H.length
abbrev X6 (c w1 w2 rc rr rt : Nat) : Nat → Prop := fun i => i = c ∨ i = w1 ∨ i = w2 ∨ i = rc ∨ i = rr ∨ i = rt
/-- Types of windows that are no pair's, no op's. -/
def tyP (t : TypeId) : Prop := t = 73 ∨ t = 76 ∨ t = 83 ∨ t = 85 ∨ t = 5 ∨ t = 57 ∨ t = 33 ∨ t = 9
section
variable {S : Nat → Prop} {H : List SB} {c w1 w2 rc rr rt bk : Nat} {kc kr : CK} {es : List OE}
theorem Owns.keep' {H H' : List SB} {es : List OE} (O : Owns H es) (K : ∀ (i : Nat) (b : SB), H[i]? = some b → b.ty = 5 → H'[i]? = some b) : Owns H' es :=
  ⟨fun i e he => K _ _ (O.at_ i e he) rfl, O.own, O.lt, O.ne⟩
theorem J4.keep (J : J4 S H c w1 w2 rc rr rt bk kc kr es) {H' : List SB} (hl : H.length ≤ H'.length) (K : ∀ (i : Nat) (b : SB), H[i]? = some b → tyP b.ty → H'[i]? = some b) : J4 S H' c w1 w2 rc rr rt bk kc kr es where
  C := J.C.keep fun i b hi h => K i b hi (by unfold tyP; rcases h with h | h <;> simp [h])
  R := J.R.keep fun i b hi h => K i b hi (by unfold tyP; rcases h with h | h | h <;> simp [h])
  B := J.B.keep fun i b hi h => K i b hi (by unfold tyP; rcases h with h | h | h <;> simp [h])
  O := J.O.keep' fun i b hi h => K i b hi (by unfold tyP; simp [h])
  sub := J.sub
  hS := fun i hi => Nat.lt_of_lt_of_le (J.hS i hi) hl
theorem J4.app (J : J4 S H c w1 w2 rc rr rt bk kc kr es) (Y : List SB) : J4 S (H ++ Y) c w1 w2 rc rr rt bk kc kr es :=
  J.keep (by simp) fun i b hi _ => by rw [List.getElem?_append_left (lt_of hi)]; exact hi
/-- A new window may be counted among those of the owner. -/
theorem J4.grow (J : J4 S H c w1 w2 rc rr rt bk kc kr es) (Y : List SB) (hY : 0 < Y.length) : J4 (fun i => S i ∨ i = H.length) (H ++ Y) c w1 w2 rc rr rt bk kc kr es :=
  have J1 := J.app Y
  ⟨J1.C, (J.R.grow (S' := fun i => S i ∨ i = H.length) fun i hi => hi.elim .inl fun h => .inr (by omega)).keep fun i b hi _ => by rw [List.getElem?_append_left (lt_of hi)]; exact hi, J1.B, J1.O, fun e he => .inl (J.sub e he), fun i hi => by
    rcases hi with h | h
    · exact J1.hS i h
    · rw [List.length_append]; omega⟩
/-- A call at the card. -/
theorem J4.setC (J : J4 S H c w1 w2 rc rr rt bk kc kr es) (k' : CK) : J4 S (setC H c w1 w2 k') c w1 w2 rc rr rt bk k' kr es ∧ Kp (X6 c w1 w2 rc rr rt) H (setC H c w1 w2 k') := by
  have off : ∀ (i : Nat) (b : SB), H[i]? = some b → b.ty ≠ 73 → b.ty ≠ 76 → (Sx.setC H c w1 w2 k')[i]? = some b := fun i b hi t1 t2 => by
    rw [setC_off (ty_ne hi J.C.hc t1) (ty_ne hi J.C.h1 t2) (ty_ne hi J.C.h2 t2)]
    exact hi
  refine ⟨⟨J.C.set k', J.R.keep fun i b hi h => off i b hi ?_ ?_, J.B.keep fun i b hi h => off i b hi ?_ ?_, J.O.keep' fun i b hi h => off i b hi ?_ ?_, J.sub, fun i hi => by rw [setC_len]; exact J.hS i hi⟩, by rw [setC_len]; exact Nat.le_refl _, fun i b hi n _ _ _ => ?_⟩
  · rcases h with h | h | h <;> rw [h] <;> decide
  · rcases h with h | h | h <;> rw [h] <;> decide
  · rcases h with h | h | h <;> rw [h] <;> decide
  · rcases h with h | h | h <;> rw [h] <;> decide
  · rw [h]; decide
  · rw [h]; decide
  · have h1 : i ≠ c := fun e => n (.inl e)
    have h2 : i ≠ w1 := fun e => n (.inr (.inl e))
    have h3 : i ≠ w2 := fun e => n (.inr (.inr (.inl e)))
    rw [setC_off h1 h2 h3]; exact hi
theorem But.wk {H h' : List SB} {p q : Nat → Prop} (K : But H h' p) (hp : ∀ i, p i → q i) : But H h' q := ⟨K.1, fun k hk n => K.2 k hk fun h => n (hp k h)⟩
/-- A drawn region: what is masked stands again behind it. -/
theorem J4.mask {L : List Nat} (J : J4 S H c w1 w2 rc rr rt bk kc kr es) (hL : ∀ i ∈ L, ∃ b, H[i]? = some b ∧ ¬ tyP b.ty) : J4 S (maskL L 0 H) c w1 w2 rc rr rt bk kc kr es :=
  J.keep (by rw [maskL_len]; exact Nat.le_refl _) fun i b hi ht => by
    rw [mask_off, hi]
    rw [Bool.eq_false_iff]
    intro h
    obtain ⟨b', hb', n⟩ := hL i (by simpa using h)
    rw [hi] at hb'
    cases hb'
    exact n ht
/-- A list is counted among those that came out. -/
theorem J4.take (J : J4 S H c w1 w2 rc rr rt bk kc kr es) (e : OE) {h' : List SB} (h1 : H[e.w]? = some (wB e.o (e.l ++ e.p))) (h2 : 0 < e.l.length + e.p.length → e.o = true) (h3 : e.l.length < 140737488351233) (h4 : ∀ f ∈ es, f.w ≠ e.w) (h5 : S e.w) (B' : BkS h' bk (es ++ [e])) (K : KeepB H h') : J4 S h' c w1 w2 rc rr rt bk kc kr (es ++ [e]) :=
  ⟨J.C.keep fun i b hi h => K.2 i b hi (by rcases h with h | h <;> rw [h] <;> decide) (by rcases h with h | h <;> rw [h] <;> decide) (by rcases h with h | h <;> rw [h] <;> decide),
   J.R.keep fun i b hi h => K.2 i b hi (by rcases h with h | h | h <;> rw [h] <;> decide) (by rcases h with h | h | h <;> rw [h] <;> decide) (by rcases h with h | h | h <;> rw [h] <;> decide),
   B', (J.O.push e h1 h2 h3 h4).keep K, fun f hf => by
    rcases List.mem_append.1 hf with h | h
    · exact J.sub f h
    · rw [List.mem_singleton] at h; rw [h]; exact h5, fun i hi => Nat.lt_of_lt_of_le (J.hS i hi) K.1⟩
theorem fz_ok {ok : Nat → Bool} {r : Nat → Nat} {n : Nat} {h : List SB} {i o c : Nat} {l sp : List UInt8} {b : SB} (hk : ok i = true) (hb : h[i]? = some b) (hv : b.void = false) (hc : b.cells.drop o = bsC (l ++ sp)) : frC true ok r n h (.sl i o l.length c) (roB l sp c) :=
  .inr ⟨rfl, .inl ⟨_, _, _, rfl, .inr (.inr ⟨i, o, rfl, .inr ⟨hk, b, hb, hv, by
    have := frL_bs (ok := ok) (h := h) [] (l ++ sp)
    rw [List.append_nil] at this
    rw [hc]; exact this⟩⟩)⟩⟩
theorem notW3 {c w1 w2 w : Nat} {k : CK} (h1 : w ≠ c) (h2 : w ≠ w1) (h3 : w ≠ w2) : notW [c, w1, w2] k.h w = true := by
  simp [notW, Ne.symm h1, Ne.symm h2, Ne.symm h3]
/-- Arrive at the card. -/
theorem J4.arrive (J : J4 S H c w1 w2 rc rr rt bk kc kr es) (ok : kc.ok) (w : Nat) (b sp : List UInt8) (cc : Nat) (hw : H[w]? = some (wB true (b ++ sp))) : Spec cx.P 10 [.c (.ptr c 0), .c (.sl w 0 b.length cc)] H fun t h' => t = .c (bC (arrB kc b)) ∧ J4 S h' c w1 w2 rc rr rt bk (arrK kc b) kr es ∧ Kp (X6 c w1 w2 rc rr rt) H h' := by
  refine (J.C.spec (bs := [.c (.sl w 0 b.length cc)]) (arriveA_spec kc ok b sp cc) (fun t h' ⟨h1, h2⟩ => by subst h1 h2; exact ⟨rfl, card_noRo _⟩) ⟨fz_c (fz_ok (notW3 (ty_ne hw J.C.hc (by decide : (5 : Nat) ≠ 73)) (ty_ne hw J.C.h1 (by decide : (5 : Nat) ≠ 76)) (ty_ne hw J.C.h2 (by decide : (5 : Nat) ≠ 76))) hw rfl rfl), trivial⟩).mono ?_
  rintro _ _ ⟨_, _, ⟨rfl, rfl⟩, rfl, rfl⟩
  rw [plug3']
  exact ⟨rfl, J.setC _⟩
theorem J4.lay (J : J4 S H c w1 w2 rc rr rt bk kc kr es) (ok : kc.ok) (i : Int) (w : Nat) (b sp : List UInt8) (cc : Nat) (hw : H[w]? = some (wB true (b ++ sp))) : Spec cx.P 57 [.c (.ptr c 0), .c (i64 i), .c (.sl w 0 b.length cc)] H fun t h' => t = .c (i64 (layE kc i b)) ∧ J4 S h' c w1 w2 rc rr rt bk (layK kc i b) kr es ∧ Kp (X6 c w1 w2 rc rr rt) H h' := by
  refine (J.C.spec (bs := [.c (i64 i), .c (.sl w 0 b.length cc)]) (layA_spec kc ok i b sp cc) (fun t h' ⟨h1, h2⟩ => by subst h1 h2; exact ⟨rfl, card_noRo _⟩) ⟨.inl ⟨rfl, rfl⟩, fz_c (fz_ok (notW3 (ty_ne hw J.C.hc (by decide : (5 : Nat) ≠ 73)) (ty_ne hw J.C.h1 (by decide : (5 : Nat) ≠ 76)) (ty_ne hw J.C.h2 (by decide : (5 : Nat) ≠ 76))) hw rfl rfl), trivial⟩).mono ?_
  rintro _ _ ⟨_, _, ⟨rfl, rfl⟩, rfl, rfl⟩
  rw [plug3']
  exact ⟨rfl, J.setC _⟩
theorem J4.give (J : J4 S H c w1 w2 rc rr rt bk kc kr es) (ok : kc.ok) (i : Int) : Spec cx.P 33 [.c (.ptr c 0), .c (i64 i)] H fun t h' => t = .c (i64 (givE kc i)) ∧ J4 S h' c w1 w2 rc rr rt bk (givK kc i) kr es ∧ Kp (X6 c w1 w2 rc rr rt) H h' := by
  refine (J.C.spec (bs := [.c (i64 i)]) (giveA_spec kc ok i) (fun t h' ⟨h1, h2⟩ => by subst h1 h2; exact ⟨rfl, card_noRo _⟩) ⟨.inl ⟨rfl, rfl⟩, trivial⟩).mono ?_
  rintro _ _ ⟨_, _, ⟨rfl, rfl⟩, rfl, rfl⟩
  rw [plug3']
  exact ⟨rfl, J.setC _⟩
/-- What came out stands in a new window. -/
def New4 (S : Nat → Prop) (H h' : List SB) (d : List UInt8) (w : Nat) (o : Bool) (S' : Nat → Prop) : Prop := H.length ≤ w ∧ h'[w]? = some (wB o d) ∧ (0 < d.length → o = true) ∧ S' = fun i => S i ∨ i = w
theorem J4.new (J : J4 S H c w1 w2 rc rr rt bk kc kr es) (k' : CK) (o : Bool) (d : List UInt8) (ho : 0 < d.length → o = true) : J4 (fun i => S i ∨ i = H.length) (Sx.setC H c w1 w2 k' ++ [wB o d]) c w1 w2 rc rr rt bk k' kr es ∧ Kp (X6 c w1 w2 rc rr rt) H (Sx.setC H c w1 w2 k' ++ [wB o d]) ∧ New4 S H (Sx.setC H c w1 w2 k' ++ [wB o d]) d H.length o (fun i => S i ∨ i = H.length) := by
  obtain ⟨J1, K1⟩ := J.setC k'
  have J2 := J1.grow [wB o d] (by simp)
  rw [setC_len] at J2
  exact ⟨J2, K1.trans (Kp.app _ _), Nat.le_refl _, by rw [List.getElem?_append_right (by rw [setC_len]; exact Nat.le_refl _), setC_len, Nat.sub_self]; rfl, ho, rfl⟩
theorem J4.dep (J : J4 S H c w1 w2 rc rr rt bk kc kr es) (ok : kc.ok) : Spec cx.P 13 [.c (.ptr c 0)] H fun t h' => ∃ w o S', t = .tup [(false, [.sl w 0 (depD kc).length (depD kc).length]), (false, [bC (depB kc)])] ∧ J4 S' h' c w1 w2 rc rr rt bk (depK kc) kr es ∧ Kp (X6 c w1 w2 rc rr rt) H h' ∧ New4 S H h' (depD kc) w o S' := by
  refine (J.C.spec (bs := []) (departA_spec kc ok) (fun t h' h => resO_noRo h) trivial).mono ?_
  rintro _ _ ⟨_, _, ⟨o, rfl, rfl, ho⟩, rfl, rfl⟩
  rw [plug3]
  simp only [List.map_cons, List.map_nil, SB.ren, ren_bsC]
  obtain ⟨J1, K1, N1⟩ := J.new (depK kc) o (depD kc) ho
  exact ⟨H.length, o, _, rfl, J1, K1, N1⟩
theorem setC_same (h : PC H c w1 w2 kc) : Sx.setC H c w1 w2 kc = H := by
  unfold Sx.setC
  rw [set_same h.hc, set_same h.h1, set_same h.h2]
theorem J4.rx (J : J4 S H c w1 w2 rc rr rt bk kc kr es) (ok : kc.ok) (i : Int) : Spec cx.P 30 [.c (.ptr c 0), .c (i64 i)] H fun t h' => ∃ w o S', t = .tup [(true, [bC (seeS kc.rx i), .sl w 0 (seeD kc.rx i).length (seeD kc.rx i).length]), (false, [i64 (seeE kc.rx i)])] ∧ J4 S' h' c w1 w2 rc rr rt bk kc kr es ∧ Kp (X6 c w1 w2 rc rr rt) H h' ∧ New4 S H h' (seeD kc.rx i) w o S' := by
  refine (J.C.spec (bs := [.c (i64 i)]) (rxA_spec kc ok i) (fun t h' h => resD_noRo h) ⟨.inl ⟨rfl, rfl⟩, trivial⟩).mono ?_
  rintro _ _ ⟨_, _, ⟨o, rfl, rfl, ho⟩, rfl, rfl⟩
  rw [plug3]
  simp only [List.map_cons, List.map_nil, SB.ren, ren_bsC]
  obtain ⟨J1, K1, N1⟩ := J.new kc o (seeD kc.rx i) ho
  exact ⟨H.length, o, _, rfl, J1, K1, N1⟩
theorem J4.tx (J : J4 S H c w1 w2 rc rr rt bk kc kr es) (ok : kc.ok) (i : Int) : Spec cx.P 45 [.c (.ptr c 0), .c (i64 i)] H fun t h' => ∃ w o S', t = .tup [(true, [bC (seeS kc.tx i), .sl w 0 (seeD kc.tx i).length (seeD kc.tx i).length]), (false, [i64 (seeE kc.tx i)])] ∧ J4 S' h' c w1 w2 rc rr rt bk kc kr es ∧ Kp (X6 c w1 w2 rc rr rt) H h' ∧ New4 S H h' (seeD kc.tx i) w o S' := by
  refine (J.C.spec (bs := [.c (i64 i)]) (txA_spec kc ok i) (fun t h' h => resD_noRo h) ⟨.inl ⟨rfl, rfl⟩, trivial⟩).mono ?_
  rintro _ _ ⟨_, _, ⟨o, rfl, rfl, ho⟩, rfl, rfl⟩
  rw [plug3]
  simp only [List.map_cons, List.map_nil, SB.ren, ren_bsC]
  obtain ⟨J1, K1, N1⟩ := J.new kc o (seeD kc.tx i) ho
  exact ⟨H.length, o, _, rfl, J1, K1, N1⟩
end
theorem unL_ge {L : List Nat} {H h : List SB} {j : Nat} (hj : H.length ≤ j) : (unL L 0 H h)[j]? = h[j]? := by
  rw [unL_get, List.getElem?_eq_none hj]; cases h[j]? <;> rfl
theorem append_at {H : List SB} (y : SB) : (H ++ [y])[H.length]? = some y := by rw [List.getElem?_append_right (Nat.le_refl _), Nat.sub_self]; rfl
theorem append_set {H : List SB} (y z : SB) : (H ++ [y]).set H.length z = H ++ [z] := by
  rw [List.set_append_right _ _ (Nat.le_refl _), Nat.sub_self]; rfl
theorem append_len1 {H : List SB} (y : SB) : (H ++ [y]).length = H.length + 1 := by simp
theorem DX.unL {S : Nat → Prop} {L : List Nat} {H h : List SB} {x : SC} {d : List UInt8} (D : DX S h x d) (hL : ∀ i ∈ L, ∃ b, h[i]? = some b ∧ b.ty ≠ 5) : DX S (unL L 0 H h) x d :=
  D.keep fun i b hi ht => by
    rw [unL_off, hi]
    rw [Bool.eq_false_iff]
    intro h'
    obtain ⟨b', hb', n⟩ := hL i (by simpa using h')
    rw [hi] at hb'
    cases hb'
    exact n ht
/-- Behind a drawn region less may be known. -/
theorem draw_cut {cx : Cx} (hc : CxOk cx) {id : Nat} {ops : Array Oper} {k : List KI} {σ : St} {Q : XE → St → Prop} (n : Nat) (R : St → Prop) (h : DrawGoal cx.P id ops (.lp (fun σ' => ∃ τ, R τ ∧ (Sub σ' τ ∨ ∃ π, Wk π σ' τ)) :: k) σ Q) (hk : ∀ τ, R τ → X cx n k τ Q) : DrawGoal cx.P id ops k σ Q := by
  intro e a w hcd hok S
  refine wp_mono (h e a w hcd (fun i hi => by
    cases hi with
    | head => trivial
    | tail _ hi => exact hok i hi) S) ?_
  intro ex a' w' hq
  cases ex with
  | normal =>
    obtain ⟨σ', S', τ, hR, hw⟩ := hq
    have S2 : Sat e τ a' w' := hw.elim (fun h => S'.sub h) fun ⟨_, h⟩ => S'.wk h
    exact X_ok hc n _ _ _ (hk τ hR) e a' w' hok S2
  | exit j => exact hq
  | ret => exact hq
  | goto l => exact hq
  | panic c => exact hq
  | outgrown => exact hq
end Go.Proofs.Ythbojoiogjdbeaa.Sx
namespace Go.Proofs.Ythbojoiogjdbeaa.Sx
open Go
set_option linter.unusedSimpArgs false
set_option linter.unusedVariables false
set_option maxRecDepth 10000
set_option maxHeartbeats 2000000
/-- The cells of a row, with room for so many. -/
abbrev rowG (z : List SC) (cs : List (List SC)) (r : Nat) : List SC := cs.flatten ++ (List.replicate r z).flatten
structure RowG (H : List SB) (ty : TypeId) (z : List SC) (iO : Nat) (o : Bool) (cs : List (List SC)) (r : Nat) : Prop where
  row : H[iO]? = some ⟨o, ty, rowG z cs r⟩
  own : 0 < cs.length + r → o = true
theorem flatG_len {sz : Nat} : ∀ {cs : List (List SC)}, (∀ c ∈ cs, c.length = sz) → cs.flatten.length = cs.length * sz
  | [], _ => by simp
  | c :: cs, h => by
    rw [List.flatten_cons, List.length_append, h c (List.mem_cons_self ..), flatG_len fun c hc => h c (List.mem_cons_of_mem _ hc), List.length_cons, Nat.succ_mul, Nat.add_comm]
theorem repG_len {z : List SC} {sz : Nat} (hz : z.length = sz) (r : Nat) : (List.replicate r z).flatten.length = r * sz := by
  rw [flatG_len (sz := sz) fun c hc => by rw [List.eq_of_mem_replicate hc]; exact hz, List.length_replicate]
theorem rowG_take {z : List SC} {cs : List (List SC)} {r sz m : Nat} (h : ∀ c ∈ cs, c.length = sz) (hm : cs.length = m) : (rowG z cs r).take (m * sz) = cs.flatten := by
  rw [rowG, List.take_left' (by rw [flatG_len h, hm])]
theorem rowG_drop {z : List SC} {cs : List (List SC)} {r sz m : Nat} (h : ∀ c ∈ cs, c.length = sz) (hz : z.length = sz) (hm : cs.length = m) : (rowG z cs (r + 1)).drop (m * sz + sz) = (List.replicate r z).flatten := by
  rw [rowG, List.drop_append, List.drop_of_length_le (by rw [flatG_len h, hm]; omega), List.nil_append, flatG_len h, hm, Nat.add_sub_cancel_left, List.replicate_succ, List.flatten_cons, List.drop_left' hz]
theorem rowG_len {z : List SC} {cs : List (List SC)} {r sz : Nat} (h : ∀ c ∈ cs, c.length = sz) (hz : z.length = sz) : (rowG z cs r).length = (cs.length + r) * sz := by
  rw [rowG, List.length_append, flatG_len h, repG_len hz, Nat.add_mul]
theorem rowG_at {z : List SC} {cs : List (List SC)} {r sz i : Nat} {c : List SC} (h : ∀ c ∈ cs, c.length = sz) (hi : cs[i]? = some c) : ∃ R, (rowG z cs r).drop (i * sz) = c ++ R := by
  have h1 : (cs.take i).length = i := by rw [List.length_take]; have := (List.getElem?_eq_some_iff.1 hi).1; omega
  have h2 : cs = cs.take i ++ (c :: cs.drop (i + 1)) := by
    obtain ⟨hlt, rfl⟩ := List.getElem?_eq_some_iff.1 hi
    rw [← List.drop_eq_getElem_cons hlt, List.take_append_drop]
  refine ⟨(cs.drop (i + 1)).flatten ++ (List.replicate r z).flatten, ?_⟩
  have h3 : (cs.take i).flatten.length = i * sz := by rw [flatG_len fun c hc => h c (List.mem_of_mem_take hc), h1]
  have h4 : rowG z cs r = (cs.take i).flatten ++ (c ++ ((cs.drop (i + 1)).flatten ++ (List.replicate r z).flatten)) := by
    conv => lhs; rw [rowG, h2]
    simp only [List.flatten_append, List.flatten_cons, List.append_assoc]
  rw [h4, List.drop_left' h3]
theorem RowG.mono {H H' : List SB} {ty : TypeId} {z : List SC} {iO : Nat} {o : Bool} {cs : List (List SC)} {r : Nat} (R : RowG H ty z iO o cs r) (h : H'[iO]? = H[iO]?) : RowG H' ty z iO o cs r := ⟨h.trans R.row, R.own⟩
/-- One more behind a row: in its room, or in new memory. -/
theorem rowg_push {xn : XN} {dst : Option Tmp} {k : List KI} {nm : NB} {tm : List (Nat × SV)} {Q : XE → St → Prop} {H : List SB} {ty : TypeId} {z : List SC} {iO g m sz : Nat} {o : Bool} {cs : List (List SC)} {r : Nat} (n : List SC) {b : SB}
    (R : RowG H ty z iO o cs r) (hcs : ∀ c ∈ cs, c.length = sz) (hz : z.length = sz) (hm : cs.length = m) (hg : g = H.length + 1)
    (hk : ∀ H' iO' r', RowG H' ty z iO' true (cs ++ [n]) r' → H.length ≤ H'.length → (∀ i, i < H.length → i ≠ iO → H'[i]? = H[i]?) → (iO' = iO ∨ H.length ≤ iO') → xn k ⟨nm, put dst (.c (.sl iO' 0 (m + 1) (m + 1 + r'))) tm, H'⟩ Q) :
    XApp xn (m + 1) (m + r) dst k nm tm (.c (.sl iO 0 (m + 1) (m + r)), H.set iO ⟨o, ty, (rowG z cs r).take (m * sz) ++ (n ++ (rowG z cs r).drop (m * sz + sz))⟩ ++ [b])
      (fun c' => (.c (.sl g 0 (m + 1) c'), H ++ [b, ⟨true, ty, (rowG z cs r).take (m * sz) ++ (n ++ (List.replicate (c' - (m + 1)) z).flatten)⟩])) Q := by
  have lO := lt_of R.row
  refine xapp_P (fun s H' => ∃ iO' r', s = .c (.sl iO' 0 (m + 1) (m + 1 + r')) ∧ RowG H' ty z iO' true (cs ++ [n]) r' ∧ H.length ≤ H'.length ∧ (∀ i, i < H.length → i ≠ iO → H'[i]? = H[i]?) ∧ (iO' = iO ∨ H.length ≤ iO')) (fun h => ?_) (fun h c' h1 h2 => ?_) ?_
  · obtain ⟨r', rfl⟩ : ∃ r', r = r' + 1 := ⟨r - 1, by omega⟩
    have ho := R.own (by omega)
    subst ho
    refine ⟨iO, r', by rw [Nat.add_assoc, Nat.add_comm 1 r'], ⟨?_, fun _ => rfl⟩, by simp, fun i hi hne => by rw [List.getElem?_append_left (by simpa using hi), List.getElem?_set_ne (Ne.symm hne)], .inl rfl⟩
    dsimp only
    rw [List.getElem?_append_left (by simpa using lO), List.getElem?_set_self lO, rowG_take hcs hm, rowG_drop hcs hz hm, rowG, List.flatten_append, List.append_assoc, List.flatten_cons, List.flatten_nil, List.append_nil]
  · obtain ⟨j, rfl⟩ := Nat.exists_eq_add_of_le h1
    refine ⟨g, j, rfl, ⟨?_, fun _ => rfl⟩, by simp, fun i hi _ => List.getElem?_append_left hi, .inr (by omega)⟩
    dsimp only
    rw [hg, List.getElem?_append_right (by omega), Nat.add_sub_cancel_left, rowG_take hcs hm, Nat.add_sub_cancel_left, rowG, List.flatten_append, List.append_assoc, List.flatten_cons, List.flatten_nil, List.append_nil]; rfl
  · rintro s H' ⟨iO', r', rfl, h1, h2, h3, h4⟩
    exact hk H' iO' r' h1 h2 h3 h4
/-- The first of a row, behind nothing. -/
theorem rowg_first {xn : XN} {dst : Option Tmp} {k : List KI} {nm : NB} {tm : List (Nat × SV)} {Q : XE → St → Prop} {H : List SB} {ty : TypeId} {z : List SC} {g : Nat} (n : List SC) {b : SB} {room : SV × List SB} (hg : g = H.length + 1)
    (hk : ∀ H' iO' r', RowG H' ty z iO' true [n] r' → H.length ≤ H'.length → (∀ i, i < H.length → H'[i]? = H[i]?) → H.length ≤ iO' → xn k ⟨nm, put dst (.c (.sl iO' 0 1 (1 + r'))) tm, H'⟩ Q) :
    XApp xn 1 0 dst k nm tm room (fun c' => (.c (.sl g 0 1 c'), H ++ [b, ⟨true, ty, n ++ (List.replicate (c' - 1) z).flatten⟩])) Q := by
  refine xapp_grow (by omega) fun c' h1 _ => ?_
  obtain ⟨j, rfl⟩ := Nat.exists_eq_add_of_le h1
  refine hk _ g j ⟨?_, fun _ => rfl⟩ (by simp) (fun i hi => List.getElem?_append_left hi) (by omega)
  dsimp only
  rw [hg, List.getElem?_append_right (by omega), Nat.add_sub_cancel_left, Nat.add_sub_cancel_left, rowG, List.flatten_cons, List.flatten_nil, List.append_nil]; rfl
end Go.Proofs.Ythbojoiogjdbeaa.Sx
namespace Go.Proofs.Ythbojoiogjdbeaa.Sx
open Go
set_option linter.unusedSimpArgs false
set_option linter.unusedVariables false
set_option maxRecDepth 10000
set_option maxHeartbeats 4000000
theorem set_end {h : List SB} {a b : SB} : (h ++ [a]).set h.length b = h ++ [b] := by rw [List.set_append_right _ _ (Nat.le_refl _), Nat.sub_self]; rfl
theorem app_self {H : List SB} {x : SB} : (H ++ [x])[H.length]? = some x := by rw [List.getElem?_append_right (Nat.le_refl _), Nat.sub_self]; rfl
theorem app_two {H : List SB} {x y : SB} : (H ++ [x, y])[H.length + 1]? = some y := by rw [List.getElem?_append_right (by omega), Nat.add_sub_cancel_left]; rfl
theorem gen_draw {P : Program} {id : Nat} {ops : Array Oper} {k : List KI} {nm : NB} {tm : List (Nat × SV)} {hp : List SB} {Q : XE → St → Prop} (p : List SB → Prop) (h0 : p hp) (h : ∀ H, p H → DrawGoal P id ops k ⟨nm, tm, H⟩ Q) : DrawGoal P id ops k ⟨nm, tm, hp⟩ Q := h hp h0
/-- Bytes that a call reads alone: as they came in, or in memory. -/
def Rd (H : List SB) (x : SC) (l sp : List UInt8) (cc : Nat) : Prop := x = roB l sp cc ∨ (∃ w b, x = .sl w 0 l.length cc ∧ H[w]? = some b ∧ b.ty = 5 ∧ b.void = false ∧ b.cells = bsC (l ++ sp)) ∨ (x = .v (.slice none 0 0) ∧ l = [] ∧ cc = 0)
theorem Rd.frc {H : List SB} {x : SC} {l sp : List UInt8} {cc : Nat} (h : Rd H x l sp cc) {ok : Nat → Bool} {r : Nat → Nat} {n : Nat} (hok : ∀ (w : Nat) (b : SB), H[w]? = some b → b.ty = 5 → ok w = true) : frC true ok r n H x (roB l sp cc) := by
  rcases h with rfl | ⟨w, b, rfl, hw, ht, hv, hc⟩ | ⟨rfl, rfl, rfl⟩
  · exact .inl ⟨rfl, rfl⟩
  · exact fz_ok (hok w _ hw ht) hw hv hc
  · exact fz_nil4
theorem Rd.mono {H H' : List SB} {x : SC} {l sp : List UInt8} {cc : Nat} (h : Rd H x l sp cc) (K : ∀ (i : Nat) (b : SB), H[i]? = some b → b.ty = 5 → H'[i]? = some b) : Rd H' x l sp cc := by
  rcases h with rfl | ⟨w, b, rfl, hw, ht, hv, hc⟩ | h
  · exact .inl rfl
  · exact .inr (.inl ⟨w, b, rfl, K w _ hw ht, ht, hv, hc⟩)
  · exact .inr (.inr h)
theorem unL_eq {L : List Nat} {H h' G : List SB} (hl : h'.length = G.length) (h1 : ∀ i, (L.contains i = false ∨ H.length ≤ i) → h'[i]? = G[i]?) (h2 : ∀ i, L.contains i = true → i < H.length → G[i]? = H[i]?) : unL L 0 H h' = G := by
  apply List.ext_getElem?
  intro i
  rw [unL_get, Nat.zero_add]
  by_cases hi : i < H.length
  · cases hc : L.contains i with
    | false =>
      rw [List.getElem?_eq_getElem hi, h1 i (.inl hc)]
      cases G[i]? <;> rfl
    | true =>
      have g := h2 i hc hi
      rw [List.getElem?_eq_getElem hi] at g ⊢
      have hj : i < h'.length := by rw [hl]; exact lt_of g
      rw [List.getElem?_eq_getElem hj, g]; rfl
  · rw [List.getElem?_eq_none (Nat.le_of_not_lt hi), h1 i (.inr (Nat.le_of_not_lt hi))]
    cases G[i]? <;> rfl
theorem unL_app {L : List Nat} {H X : List SB} : unL L 0 H (maskL L 0 H ++ X) = H ++ X := by
  refine unL_eq (by simp [maskL_len]) (fun i hi => ?_) (fun i _ h => List.getElem?_append_left h)
  rcases Nat.lt_or_ge i H.length with h | h
  · have h' : i < (maskL L 0 H).length := by rw [maskL_len]; exact h
    rw [List.getElem?_append_left h', List.getElem?_append_left h]
    rcases hi with hi | hi
    · exact mask_off hi
    · omega
  · have h' : (maskL L 0 H).length ≤ i := by rw [maskL_len]; exact h
    rw [List.getElem?_append_right h', List.getElem?_append_right h, maskL_len]
theorem unL_set {L : List Nat} {H : List SB} {j : Nat} {y : SB} (hj : L.contains j = false) : unL L 0 H ((maskL L 0 H).set j y) = H.set j y := by
  refine unL_eq (by simp [maskL_len]) (fun i hi => ?_) (fun i hi h => ?_)
  · rw [List.getElem?_set, List.getElem?_set, maskL_len]
    split
    · rfl
    · rcases hi with hi | hi
      · exact mask_off hi
      · rw [List.getElem?_eq_none hi, List.getElem?_eq_none (by rw [maskL_len]; exact hi)]
  · rw [List.getElem?_set_ne (fun e => by rw [← e, hj] at hi; cases hi)]
theorem not1 {n c : Nat} (h : n ≠ c) : [n].contains c = false := by
  rw [Bool.eq_false_iff]
  intro h'
  rw [List.contains_iff_mem, List.mem_singleton] at h'
  exact h h'.symm
theorem not2 {n m c : Nat} (h : n ≠ c) (h2 : m ≠ c) : [n, m].contains c = false := by
  rw [Bool.eq_false_iff]
  intro h'
  rw [List.contains_iff_mem, List.mem_cons, List.mem_singleton] at h'
  rcases h' with h' | h'
  · exact h h'.symm
  · exact h2 h'.symm
theorem setC_congr {H H' : List SB} {c w1 w2 i : Nat} {k : CK} (hl : H'.length = H.length) (h : H'[i]? = H[i]?) : (setC H' c w1 w2 k)[i]? = (setC H c w1 w2 k)[i]? := by
  unfold setC
  simp only [List.getElem?_set, List.length_set, hl, h]
theorem unL_setC {L : List Nat} {H X : List SB} {c w1 w2 : Nat} {k : CK} (h1 : L.contains c = false) (h2 : L.contains w1 = false) (h3 : L.contains w2 = false) : unL L 0 H (setC (maskL L 0 H) c w1 w2 k ++ X) = setC H c w1 w2 k ++ X := by
  refine unL_eq (by simp [setC_len, maskL_len]) (fun i hi => ?_) (fun i hi h => ?_)
  · rcases Nat.lt_or_ge i H.length with h | h
    · have h' : i < (setC (maskL L 0 H) c w1 w2 k).length := by rw [setC_len, maskL_len]; exact h
      have h'' : i < (setC H c w1 w2 k).length := by rw [setC_len]; exact h
      rw [List.getElem?_append_left h', List.getElem?_append_left h'']
      rcases hi with hi | hi
      · exact setC_congr (maskL_len _ _ _) (mask_off hi)
      · omega
    · have h' : (setC (maskL L 0 H) c w1 w2 k).length ≤ i := by rw [setC_len, maskL_len]; exact h
      have h'' : (setC H c w1 w2 k).length ≤ i := by rw [setC_len]; exact h
      rw [List.getElem?_append_right h', List.getElem?_append_right h'', setC_len, setC_len, maskL_len]
  · rw [List.getElem?_append_left (by rw [setC_len]; exact h)]
    exact setC_off (fun e => by rw [e, h1] at hi; cases hi) (fun e => by rw [e, h2] at hi; cases hi) (fun e => by rw [e, h3] at hi; cases hi)
theorem unL_setC0 {L : List Nat} {H : List SB} {c w1 w2 : Nat} {k : CK} (h1 : L.contains c = false) (h2 : L.contains w1 = false) (h3 : L.contains w2 = false) : unL L 0 H (setC (maskL L 0 H) c w1 w2 k) = setC H c w1 w2 k := by
  have := unL_setC (H := H) (X := []) (k := k) h1 h2 h3
  rwa [List.append_nil, List.append_nil] at this
theorem Rd.mask {H : List SB} {x : SC} {l sp : List UInt8} {cc : Nat} {L : List Nat} (h : Rd H x l sp cc) (hL : ∀ i, L.contains i = true → ∃ b : SB, H[i]? = some b ∧ b.ty ≠ 5) : Rd (maskL L 0 H) x l sp cc :=
  h.mono fun i b hi ht => by
    cases hc : L.contains i with
    | false => rw [mask_off hc]; exact hi
    | true =>
      obtain ⟨b', h1, h2⟩ := hL i hc
      rw [hi] at h1
      cases h1
      exact absurd ht h2
/-- What came out: nothing, or bytes in new memory. -/
def Out (H h' : List SB) (x : SC) (D : List UInt8) : Prop := (x = .v (.slice none 0 0) ∧ D = []) ∨ ∃ w z o, x = slB w D z ∧ H.length ≤ w ∧ h'[w]? = some (wB o (D ++ z)) ∧ (0 < D.length + z.length → o = true)
section
variable {H : List SB} {c w1 w2 : Nat} {k : CK}
theorem PC.mask {L : List Nat} (P : PC H c w1 w2 k) (h1 : L.contains c = false) (h2 : L.contains w1 = false) (h3 : L.contains w2 = false) : PC (maskL L 0 H) c w1 w2 k :=
  P.mono (mask_off h1) (mask_off h2) (mask_off h3)
theorem PC.notU (P : PC H c w1 w2 k) : ∀ (w : Nat) (b : SB), H[w]? = some b → b.ty = 5 → notW [c, w1, w2] k.h w = true := fun w b hw ht =>
  notW3 (ty_ne hw P.hc (by rw [ht]; show (5 : Nat) ≠ 73; decide)) (ty_ne hw P.h1 (by rw [ht]; show (5 : Nat) ≠ 76; decide)) (ty_ne hw P.h2 (by rw [ht]; show (5 : Nat) ≠ 76; decide))
theorem PC.rx (P : PC H c w1 w2 k) (ok : k.ok) (i : Int) : Spec cx.P 30 [.c (.ptr c 0), .c (i64 i)] H fun t h' => ∃ o, t = .tup [(true, [bC (seeS k.rx i), .sl H.length 0 (seeD k.rx i).length (seeD k.rx i).length]), (false, [i64 (seeE k.rx i)])] ∧ h' = H ++ [wB o (seeD k.rx i)] ∧ (0 < (seeD k.rx i).length → o = true) := by
  refine (P.spec (bs := [.c (i64 i)]) (rxA_spec k ok i) (fun t h' h => resD_noRo h) ⟨.inl ⟨rfl, rfl⟩, trivial⟩).mono ?_
  rintro _ _ ⟨_, _, ⟨o, rfl, rfl, ho⟩, rfl, rfl⟩
  rw [plug3, setC_same P]
  simp only [List.map_cons, List.map_nil, SB.ren, ren_bsC]
  exact ⟨o, rfl, rfl, ho⟩
theorem PC.tx (P : PC H c w1 w2 k) (ok : k.ok) (i : Int) : Spec cx.P 45 [.c (.ptr c 0), .c (i64 i)] H fun t h' => ∃ o, t = .tup [(true, [bC (seeS k.tx i), .sl H.length 0 (seeD k.tx i).length (seeD k.tx i).length]), (false, [i64 (seeE k.tx i)])] ∧ h' = H ++ [wB o (seeD k.tx i)] ∧ (0 < (seeD k.tx i).length → o = true) := by
  refine (P.spec (bs := [.c (i64 i)]) (txA_spec k ok i) (fun t h' h => resD_noRo h) ⟨.inl ⟨rfl, rfl⟩, trivial⟩).mono ?_
  rintro _ _ ⟨_, _, ⟨o, rfl, rfl, ho⟩, rfl, rfl⟩
  rw [plug3, setC_same P]
  simp only [List.map_cons, List.map_nil, SB.ren, ren_bsC]
  exact ⟨o, rfl, rfl, ho⟩
theorem PC.dep (P : PC H c w1 w2 k) (ok : k.ok) : Spec cx.P 13 [.c (.ptr c 0)] H fun t h' => ∃ o, t = .tup [(false, [.sl H.length 0 (depD k).length (depD k).length]), (false, [bC (depB k)])] ∧ h' = setC H c w1 w2 (depK k) ++ [wB o (depD k)] ∧ (0 < (depD k).length → o = true) := by
  refine (P.spec (bs := []) (departA_spec k ok) (fun t h' h => resO_noRo h) trivial).mono ?_
  rintro _ _ ⟨_, _, ⟨o, rfl, rfl, ho⟩, rfl, rfl⟩
  rw [plug3]
  simp only [List.map_cons, List.map_nil, SB.ren, ren_bsC]
  exact ⟨o, rfl, rfl, ho⟩
theorem PC.give (P : PC H c w1 w2 k) (ok : k.ok) (i : Int) : Spec cx.P 33 [.c (.ptr c 0), .c (i64 i)] H fun t h' => t = .c (i64 (givE k i)) ∧ h' = setC H c w1 w2 (givK k i) := by
  refine (P.spec (bs := [.c (i64 i)]) (giveA_spec k ok i) (fun t h' ⟨h1, h2⟩ => by subst h1 h2; exact ⟨rfl, card_noRo _⟩) ⟨.inl ⟨rfl, rfl⟩, trivial⟩).mono ?_
  rintro _ _ ⟨_, _, ⟨rfl, rfl⟩, rfl, rfl⟩
  rw [plug3']
  exact ⟨rfl, rfl⟩
theorem PC.lay (P : PC H c w1 w2 k) (ok : k.ok) (i : Int) {x : SC} {b sp : List UInt8} {cc : Nat} (hx : Rd H x b sp cc) : Spec cx.P 57 [.c (.ptr c 0), .c (i64 i), .c x] H fun t h' => t = .c (i64 (layE k i b)) ∧ h' = setC H c w1 w2 (layK k i b) := by
  refine (P.spec (bs := [.c (i64 i), .c x]) (layA_spec k ok i b sp cc) (fun t h' ⟨h1, h2⟩ => by subst h1 h2; exact ⟨rfl, card_noRo _⟩) ⟨.inl ⟨rfl, rfl⟩, fz_c (hx.frc P.notU), trivial⟩).mono ?_
  rintro _ _ ⟨_, _, ⟨rfl, rfl⟩, rfl, rfl⟩
  rw [plug3']
  exact ⟨rfl, rfl⟩
theorem PC.arrive (P : PC H c w1 w2 k) (ok : k.ok) {x : SC} {b sp : List UInt8} {cc : Nat} (hx : Rd H x b sp cc) : Spec cx.P 10 [.c (.ptr c 0), .c x] H fun t h' => t = .c (bC (arrB k b)) ∧ h' = setC H c w1 w2 (arrK k b) := by
  refine (P.spec (bs := [.c x]) (arriveA_spec k ok b sp cc) (fun t h' ⟨h1, h2⟩ => by subst h1 h2; exact ⟨rfl, card_noRo _⟩) ⟨fz_c (hx.frc P.notU), trivial⟩).mono ?_
  rintro _ _ ⟨_, _, ⟨rfl, rfl⟩, rfl, rfl⟩
  rw [plug3']
  exact ⟨rfl, rfl⟩
theorem PC.rings (P : PC H c w1 w2 k) : Spec cx.P 29 [.c (.ptr c 0)] H fun t h' => t = .tup [(false, [i64 k.rx.length]), (false, [i64 k.tx.length])] ∧ h' = H := by
  refine (P.spec (bs := []) (rings_spec k) (fun t h' ⟨h1, h2⟩ => by subst h1 h2; exact ⟨rfl, card_noRo _⟩) trivial).mono ?_
  rintro _ _ ⟨_, _, ⟨rfl, rfl⟩, rfl, rfl⟩
  rw [plug3', setC_same P]
  exact ⟨rfl, rfl⟩
theorem setC_but (H : List SB) (c w1 w2 : Nat) (k : CK) {p : Nat → Prop} (h1 : p c) (h2 : p w1) (h3 : p w2) : But H (setC H c w1 w2 k) p :=
  ⟨by rw [setC_len]; exact Nat.le_refl _, fun i _ hi => setC_off (fun h => hi (h ▸ h1)) (fun h => hi (h ▸ h2)) (fun h => hi (h ▸ h3))⟩
end
end Go.Proofs.Ythbojoiogjdbeaa.Sx
namespace Go.Proofs.Ythbojoiogjdbeaa.Sx
open Go
set_option linter.unusedSimpArgs false
set_option linter.unusedVariables false
set_option maxRecDepth 10000
set_option maxHeartbeats 4000000
/-- What a Nic knows. -/
structure NS where
  mac : M6
  r : Nat
  t : Nat
  tk : Int
  th : Int
  se : Int
  rf : Int
abbrev macC (m : M6) : List SC := [byteC m.a, byteC m.b, byteC m.c, byteC m.d, byteC m.e, byteC m.f]
abbrev nicB (s : NS) (c : Nat) : SB := ⟨true, 80, [i64 s.tk, i64 s.th, i64 s.se, i64 s.rf, .ptr c 0, byteC s.mac.a, byteC s.mac.b, byteC s.mac.c, byteC s.mac.d, byteC s.mac.e, byteC s.mac.f, i64 (s.r : Nat), i64 (s.t : Nat)]⟩
abbrev rnicB (s : NS) (c : Nat) : SB := ⟨true, 100, [.ptr c 0, byteC s.mac.a, byteC s.mac.b, byteC s.mac.c, byteC s.mac.d, byteC s.mac.e, byteC s.mac.f, i64 (s.r : Nat), i64 (s.t : Nat), i64 s.tk, i64 s.th, i64 s.se, i64 s.rf]⟩
structure NS.ok (s : NS) (k : CK) : Prop where
  r : s.r < k.rx.length
  t : s.t < k.tx.length
def incW (n : Int) : Int := IntKind.i64.wrap (n + 1)
theorem next_spec (i n : Nat) (h : i < n) (hn : n ≤ 64) : Spec cx.P 34 [.c (i64 i), .c (i64 n)] [] fun s _ => s.plain = true ∧ s = .c (i64 ((i + 1) % n : Nat)) := by
  have e1 : IntKind.i64.wrap ((i : Int) + 1) = ((i + 1 : Nat) : Int) := by rw [w64] <;> omega
  by_cases hl : i + 1 < n
  · have dl : decide (((i + 1 : Nat) : Int) < (n : Int)) = true := by simp only [decide_eq_true_eq]; omega
    rw [Nat.mod_eq_of_lt hl]
    refine spec_of_X cx_ok Try.func34 rfl (by kernel_rfl) (by kernel_rfl) (Nat.le_of_ble_eq_true rfl) 400 5 ?_
    simp (maxSteps := 4000000) only [Try.results34, XX, Nat.reduceBEq, Nat.reduceLT, Nat.reduceAdd, Nat.reduceMul, Nat.reduceSub, Nat.reduceLeDiff, Nat.reduceEqDiff, Int.reduceToNat, Int.reduceLT, Int.reduceLE, Int.reduceAdd, Int.reduceSub, Int.reduceEq, reduceIte, Nat.reduceBNe, Int.reducePow, Nat.reducePow, Int.reduceMul, Int.reduceNeg, isB_i, isB_b, isB_y, isBv_i, isBv_b, eqCells_t, TT]
    simp (maxSteps := 4000000) only [Try.results34, e1, dl, XX, Nat.reduceBEq, Nat.reduceLT, Nat.reduceAdd, Nat.reduceMul, Nat.reduceSub, Nat.reduceLeDiff, Nat.reduceEqDiff, Int.reduceToNat, Int.reduceLT, Int.reduceLE, Int.reduceAdd, Int.reduceSub, Int.reduceEq, reduceIte, Nat.reduceBNe, Int.reducePow, Nat.reducePow, Int.reduceMul, Int.reduceNeg, isB_i, isB_b, isB_y, isBv_i, isBv_b, eqCells_t, TT]
  · have dl : decide (((i + 1 : Nat) : Int) < (n : Int)) = false := by simp only [decide_eq_false_iff_not]; omega
    obtain rfl : i + 1 = n := by omega
    rw [Nat.mod_self]
    refine spec_of_X cx_ok Try.func34 rfl (by kernel_rfl) (by kernel_rfl) (Nat.le_of_ble_eq_true rfl) 400 5 ?_
    simp (maxSteps := 4000000) only [Try.results34, XX, Nat.reduceBEq, Nat.reduceLT, Nat.reduceAdd, Nat.reduceMul, Nat.reduceSub, Nat.reduceLeDiff, Nat.reduceEqDiff, Int.reduceToNat, Int.reduceLT, Int.reduceLE, Int.reduceAdd, Int.reduceSub, Int.reduceEq, reduceIte, Nat.reduceBNe, Int.reducePow, Nat.reducePow, Int.reduceMul, Int.reduceNeg, isB_i, isB_b, isB_y, isBv_i, isBv_b, eqCells_t, TT]
    simp (maxSteps := 4000000) only [Try.results34, e1, dl, XX, Nat.reduceBEq, Nat.reduceLT, Nat.reduceAdd, Nat.reduceMul, Nat.reduceSub, Nat.reduceLeDiff, Nat.reduceEqDiff, Int.reduceToNat, Int.reduceLT, Int.reduceLE, Int.reduceAdd, Int.reduceSub, Int.reduceEq, reduceIte, Nat.reduceBNe, Int.reducePow, Nat.reducePow, Int.reduceMul, Int.reduceNeg, isB_i, isB_b, isB_y, isBv_i, isBv_b, eqCells_t, TT]
theorem own_spec {H : List SB} {n c : Nat} {s : NS} (hn : H[n]? = some (nicB s c)) : Spec cx.P 21 [.c (.ptr n 0)] H fun t h' => t = .agg (macC s.mac) ∧ ∃ x, h' = H ++ [x] := by
  have ln := lt_of hn
  refine spec_of_X cx_ok Try.func21 rfl (by kernel_rfl) (by kernel_rfl) (Nat.le_of_ble_eq_true rfl) 400 3 ?_
  simp (maxSteps := 4000000) only [Try.results21, XX, Nat.reduceBEq, Nat.reduceLT, Nat.reduceAdd, Nat.reduceMul, Nat.reduceSub, Nat.reduceLeDiff, Nat.reduceEqDiff, Int.reduceToNat, Int.reduceLT, Int.reduceLE, Int.reduceAdd, Int.reduceSub, Int.reduceEq, reduceIte, Nat.reduceBNe, Int.reducePow, Nat.reducePow, Int.reduceMul, Int.reduceNeg, isB_i, isB_b, isB_y, isBv_i, isBv_b, eqCells_t, TT]
  simp (maxSteps := 4000000) only [Try.results21, hn, ln, set_end, List.append_assoc, List.getElem?_append_left, List.getElem?_append_right, List.length_append, List.length_set, List.set_append_left, gset, List.getElem?_set_ne, Nat.add_sub_cancel_left, Nat.sub_self, Nat.le_refl, Nat.le_add_right, List.replicate_one, List.flatten_cons, List.flatten_nil, rep_flat, XX, Nat.reduceBEq, Nat.reduceLT, Nat.reduceAdd, Nat.reduceMul, Nat.reduceSub, Nat.reduceLeDiff, Nat.reduceEqDiff, Int.reduceToNat, Int.reduceLT, Int.reduceLE, Int.reduceAdd, Int.reduceSub, Int.reduceEq, reduceIte, Nat.reduceBNe, Int.reducePow, Nat.reducePow, Int.reduceMul, Int.reduceNeg, isB_i, isB_b, isB_y, isBv_i, isBv_b, eqCells_t, TT]
  exact ⟨_, rfl⟩
theorem stats_spec {H : List SB} {n c : Nat} {s : NS} (hn : H[n]? = some (nicB s c)) : Spec cx.P 22 [.c (.ptr n 0)] H fun t h' => t = .agg [i64 s.tk, i64 s.th, i64 s.se, i64 s.rf] ∧ ∃ x, h' = H ++ [x] := by
  have ln := lt_of hn
  refine spec_of_X cx_ok Try.func22 rfl (by kernel_rfl) (by kernel_rfl) (Nat.le_of_ble_eq_true rfl) 400 3 ?_
  simp (maxSteps := 4000000) only [Try.results22, XX, Nat.reduceBEq, Nat.reduceLT, Nat.reduceAdd, Nat.reduceMul, Nat.reduceSub, Nat.reduceLeDiff, Nat.reduceEqDiff, Int.reduceToNat, Int.reduceLT, Int.reduceLE, Int.reduceAdd, Int.reduceSub, Int.reduceEq, reduceIte, Nat.reduceBNe, Int.reducePow, Nat.reducePow, Int.reduceMul, Int.reduceNeg, isB_i, isB_b, isB_y, isBv_i, isBv_b, eqCells_t, TT]
  have hn' : ∀ x : SB, (H ++ [x])[n]? = some (nicB s c) := fun x => (List.getElem?_append_left ln).trans hn
  have g0 : ∀ x : SB, (H ++ [x])[H.length]? = some x := fun x => app_self
  refine gen_draw (fun G => G[n]? = some (nicB s c) ∧ ∃ x : List SC, x.length = 4 ∧ G = H ++ [⟨true, 65, x⟩]) ⟨hn' _, _, rfl, rfl⟩ ?_
  rintro G ⟨hG, x, hx, rfl⟩
  have hok := kept_cons hG rfl kept_nil
  obtain ⟨o, mG⟩ := maskL_at (L := [n]) hG
  have mH : (maskL [n] 0 (H ++ [({ own := true, ty := 65, cells := x } : SB)]))[H.length]? = some ⟨true, 65, x⟩ := (mask_off (not1 (by omega))).trans app_self
  refine draw_of cx_ok (by kernel_rfl) 400 [n] [(0, true), (1, true), (2, true), (3, true), (4, true), (5, true), (6, true), (7, true), (8, true), (9, true), (10, true), (11, true), (12, true), (13, true), (14, true), (15, true), (16, true), (17, true), (18, true), (19, true), (20, true), (21, false)] (by kernel_rfl) (by first | exact hok | simp [*]) ?_
  simp (maxSteps := 4000000) only [Try.results22, hG, mG, mH, lt_of mG, unL_set (not1 (Nat.ne_of_lt ln)), set_end, app_self, List.length_append, List.length_cons, List.length_nil, XX, Nat.reduceBEq, Nat.reduceLT, Nat.reduceAdd, Nat.reduceMul, Nat.reduceSub, Nat.reduceLeDiff, Nat.reduceEqDiff, Int.reduceToNat, Int.reduceLT, Int.reduceLE, Int.reduceAdd, Int.reduceSub, Int.reduceEq, reduceIte, Nat.reduceBNe, Int.reducePow, Nat.reducePow, Int.reduceMul, Int.reduceNeg, isB_i, isB_b, isB_y, isBv_i, isBv_b, eqCells_t, TT]
  exact ⟨by omega, _, rfl⟩
theorem new5_spec {H : List SB} {c : Nat} (m : M6) : Spec cx.P 8 [.c (.ptr c 0), .agg (macC m)] H fun t h' => ∃ x, t = .c (.ptr (H.length + 1) 0) ∧ h' = H ++ [x, nicB ⟨m, 0, 0, 0, 0, 0, 0⟩ c] := by
  refine spec_of_X cx_ok Try.func8 rfl (by kernel_rfl) (by kernel_rfl) (Nat.le_of_ble_eq_true rfl) 400 5 ?_
  simp (maxSteps := 4000000) only [Try.results8, XX, Nat.reduceBEq, Nat.reduceLT, Nat.reduceAdd, Nat.reduceMul, Nat.reduceSub, Nat.reduceLeDiff, Nat.reduceEqDiff, Int.reduceToNat, Int.reduceLT, Int.reduceLE, Int.reduceAdd, Int.reduceSub, Int.reduceEq, reduceIte, Nat.reduceBNe, Int.reducePow, Nat.reducePow, Int.reduceMul, Int.reduceNeg, isB_i, isB_b, isB_y, isBv_i, isBv_b, eqCells_t, TT]
  simp (maxSteps := 4000000) only [Try.results8, List.append_assoc, List.getElem?_append_left, List.getElem?_append_right, List.length_append, List.length_set, List.set_append_left, gset, List.getElem?_set_ne, Nat.add_sub_cancel_left, Nat.sub_self, Nat.le_refl, Nat.le_add_right, List.replicate_one, List.flatten_cons, List.flatten_nil, rep_flat, XX, Nat.reduceBEq, Nat.reduceLT, Nat.reduceAdd, Nat.reduceMul, Nat.reduceSub, Nat.reduceLeDiff, Nat.reduceEqDiff, Int.reduceToNat, Int.reduceLT, Int.reduceLE, Int.reduceAdd, Int.reduceSub, Int.reduceEq, reduceIte, Nat.reduceBNe, Int.reducePow, Nat.reducePow, Int.reduceMul, Int.reduceNeg, isB_i, isB_b, isB_y, isBv_i, isBv_b, eqCells_t, TT]
  exact ⟨_, rfl⟩
theorem new5N_spec (m : M6) : Spec cx.P 8 [.c (.v (.pointer none)), .agg (macC m)] [] fun t _ => t.plain = true ∧ t = .c (.v (.pointer none)) := by
  refine spec_of_X cx_ok Try.func8 rfl (by kernel_rfl) (by kernel_rfl) (Nat.le_of_ble_eq_true rfl) 400 5 ?_
  simp (maxSteps := 4000000) only [Try.results8, XX, Nat.reduceBEq, Nat.reduceLT, Nat.reduceAdd, Nat.reduceMul, Nat.reduceSub, Nat.reduceLeDiff, Nat.reduceEqDiff, Int.reduceToNat, Int.reduceLT, Int.reduceLE, Int.reduceAdd, Int.reduceSub, Int.reduceEq, reduceIte, Nat.reduceBNe, Int.reducePow, Nat.reducePow, Int.reduceMul, Int.reduceNeg, isB_i, isB_b, isB_y, isBv_i, isBv_b, eqCells_t, TT]
def sendE (k : CK) (s : NS) (q : List UInt8 × Int) : Int := if q.2 = 0 then (if seeS k.tx s.t then 3 else 0) else q.2
def sendD (k : CK) (s : NS) (q : List UInt8 × Int) : List UInt8 := if sendE k s q = 0 then q.1 else []
def sendK (k : CK) (s : NS) (q : List UInt8 × Int) : CK := if sendE k s q = 0 then layK k s.t q.1 else k
def sendN (k : CK) (s : NS) (q : List UInt8 × Int) : NS := if sendE k s q = 0 then { s with t := (s.t + 1) % k.tx.length, se := incW s.se } else { s with rf := incW s.rf }
theorem sealR_ok {d s : M6} {kd : Int} {l : List UInt8} (h : (sealR d s kd l).2 = 0) : 60 ≤ (sealR d s kd l).1.length ∧ (sealR d s kd l).1.length ≤ 1514 := by
  unfold sealR at h ⊢
  split
  · rename_i h1; rw [if_pos h1] at h; cases h
  · split
    · rename_i h1 h2; rw [if_neg h1, if_pos h2] at h; cases h
    · simp only [be2, List.length_append, List.length_cons, List.length_nil, List.length_replicate]; omega
theorem layE_is {k : CK} {i : Nat} {b : List UInt8} (hi : i < k.tx.length) (h1 : 60 ≤ b.length) (h2 : b.length ≤ 1514) : layE k i b = if seeS k.tx i then 41 else 0 := by
  have h0 : 0 ≤ (i : Int) ∧ (i : Int) < (k.tx.length : Int) := ⟨by omega, by omega⟩
  unfold layE seeS
  rw [if_pos h0, if_neg (by omega), if_neg (by omega), if_pos h0]
theorem layK_full {k : CK} {i : Nat} {b : List UInt8} (hi : i < k.tx.length) (h : seeS k.tx i = true) : layK k i b = k := by
  have h0 : 0 ≤ (i : Int) ∧ (i : Int) < (k.tx.length : Int) := ⟨by omega, by omega⟩
  unfold layK
  unfold seeS at h
  rw [if_pos h0] at h ⊢
  split
  · rfl
  · split
    · rfl
    · first | rfl | rw [if_pos h]
theorem layK_tx (k : CK) (i : Int) (b : List UInt8) : (layK k i b).tx.length = k.tx.length ∧ (layK k i b).rx.length = k.rx.length := by
  unfold layK
  split
  · split
    · exact ⟨rfl, rfl⟩
    · split
      · exact ⟨rfl, rfl⟩
      · split
        · exact ⟨rfl, rfl⟩
        · exact ⟨List.length_set, rfl⟩
  · exact ⟨rfl, rfl⟩
abbrev XN5 (c w1 w2 n : Nat) : Nat → Prop := fun i => i = c ∨ i = w1 ∨ i = w2 ∨ i = n
def layN (k : CK) (s : NS) (q : List UInt8 × Int) : NS := if sendE k s q = 0 then { s with t := (s.t + 1) % k.tx.length } else s
theorem lay5_spec {H : List SB} {n c w1 w2 : Nat} {k : CK} {s : NS} (P : PC H c w1 w2 k) (ok : k.ok) (hn : H[n]? = some (nicB s c)) (os : s.ok k) (d : M6) (kd : Int) {x : SC} {l sp : List UInt8} {cc : Nat} (hx : Rd H x l sp cc) :
    Spec cx.P 36 [.c (.ptr n 0), .agg (macC d ++ [i64 kd, x])] H fun t h' => ∃ x, t = .tup [(false, [x]), (false, [i64 (sendE k s (sealR d s.mac kd l))])] ∧ Out H h' x (sendD k s (sealR d s.mac kd l)) ∧ PC h' c w1 w2 (sendK k s (sealR d s.mac kd l)) ∧ h'[n]? = some (nicB (layN k s (sealR d s.mac kd l)) c) ∧ But H h' (XN5 c w1 w2 n) := by
  have ln := lt_of hn
  have sl := fsealA_spec d s.mac kd l sp cc
  have n1 : n ≠ c := ty_ne hn P.hc (by show (80 : Nat) ≠ 73; decide)
  have n2 : n ≠ w1 := ty_ne hn P.h1 (by show (80 : Nat) ≠ 76; decide)
  have n3 : n ≠ w2 := ty_ne hn P.h2 (by show (80 : Nat) ≠ 76; decide)
  refine spec_of_X cx_ok Try.func36 rfl (by kernel_rfl) (by kernel_rfl) (Nat.le_of_ble_eq_true rfl) 400 10 ?_
  simp (maxSteps := 4000000) only [Try.results36, XX, Nat.reduceBEq, Nat.reduceLT, Nat.reduceAdd, Nat.reduceMul, Nat.reduceSub, Nat.reduceLeDiff, Nat.reduceEqDiff, Int.reduceToNat, Int.reduceLT, Int.reduceLE, Int.reduceAdd, Int.reduceSub, Int.reduceEq, reduceIte, Nat.reduceBNe, Int.reducePow, Nat.reducePow, Int.reduceMul, Int.reduceNeg, isB_i, isB_b, isB_y, isBv_i, isBv_b, eqCells_t, TT]
  generalize hG : H ++ [({ own := true, ty := 35, cells := [byteC d.a, byteC d.b, byteC d.c, byteC d.d, byteC d.e, byteC d.f, i64 kd, x] } : SB)] = G
  have gn : G[n]? = some (nicB s c) := by rw [← hG, List.getElem?_append_left ln]; exact hn
  have gb : G[H.length]? = some ⟨true, 35, macC d ++ [i64 kd, x]⟩ := by rw [← hG]; exact app_self
  have PG : PC G c w1 w2 k := by rw [← hG]; exact P.app _
  have xG : Rd G x l sp cc := hx.mono fun i b hi _ => by rw [← hG, List.getElem?_append_left (lt_of hi)]; exact hi
  have lG : G.length = H.length + 1 := by rw [← hG, List.length_append]; rfl
  have kG : ∀ i, i < H.length → G[i]? = H[i]? := fun i hi => by rw [← hG, List.getElem?_append_left hi]
  obtain ⟨b, hb⟩ : ∃ b, b = H.length := ⟨_, rfl⟩
  rw [← hb] at gb lG kG ⊢
  clear hG
  obtain ⟨ox, mx⟩ : ∃ o, (maskL [n, b] 0 G)[n]? = some ⟨o, 80, (nicB s c).cells⟩ := maskL_at gn
  obtain ⟨oy, my⟩ : ∃ o, (maskL [n, b] 0 G)[b]? = some ⟨o, 35, macC d ++ [i64 kd, x]⟩ := maskL_at gb
  have hok := kept_cons gn rfl (kept_cons gb rfl kept_nil)
  have lx := lt_of mx
  have ly := lt_of my
  have lgn := lt_of gn
  have lgb := lt_of gb
  have xM : Rd (maskL [n, b] 0 G) x l sp cc := xG.mask fun i hi => by
    rw [List.contains_iff_mem] at hi
    simp only [List.mem_cons, List.not_mem_nil, or_false] at hi
    rcases hi with rfl | rfl
    · exact ⟨_, gn, by show (80 : Nat) ≠ 5; decide⟩
    · exact ⟨_, gb, by show (35 : Nat) ≠ 5; decide⟩
  refine draw_of cx_ok (by kernel_rfl) 400 [n, b] [(0, true), (1, true), (2, true), (3, true), (4, true), (5, true), (6, true), (7, true), (8, true), (9, true), (10, true), (11, false), (12, true), (13, true), (14, true), (15, true), (16, true)] (by kernel_rfl) (by first | exact hok | simp [*]) ?_
  simp (maxSteps := 4000000) only [Try.results36, gn, gb, mx, my, lx, ly, lgn, lgb, XX, Nat.reduceBEq, Nat.reduceLT, Nat.reduceAdd, Nat.reduceMul, Nat.reduceSub, Nat.reduceLeDiff, Nat.reduceEqDiff, Int.reduceToNat, Int.reduceLT, Int.reduceLE, Int.reduceAdd, Int.reduceSub, Int.reduceEq, reduceIte, Nat.reduceBNe, Int.reducePow, Nat.reducePow, Int.reduceMul, Int.reduceNeg, isB_i, isB_b, isB_y, isBv_i, isBv_b, eqCells_t, TT]
  refine call_fz [.agg (fraC d s.mac kd (roB l sp cc))] sl (fun t h' h => resB_noRo h) ⟨fra_fz (xM.frc fun _ _ _ _ => rfl), trivial⟩ ?_
  rintro _ _ ⟨z, o, rfl, rfl, ho⟩
  simp (maxSteps := 4000000) only [Try.results36, ids_bsC, ren_bsC, noRo_bsC, plain_bsC, lt_bsC, ids_byte, ren_byte, noRo_byte, plain_byte, lt_byte, unL_app, XX, Nat.reduceBEq, Nat.reduceLT, Nat.reduceAdd, Nat.reduceMul, Nat.reduceSub, Nat.reduceLeDiff, Nat.reduceEqDiff, Int.reduceToNat, Int.reduceLT, Int.reduceLE, Int.reduceAdd, Int.reduceSub, Int.reduceEq, reduceIte, Nat.reduceBNe, Int.reducePow, Nat.reducePow, Int.reduceMul, Int.reduceNeg, isB_i, isB_b, isB_y, isBv_i, isBv_b, eqCells_t, TT]
  obtain ⟨q, hq⟩ : ∃ q, q = sealR d s.mac kd l := ⟨_, rfl⟩
  have q1 := sealR_ok (d := d) (s := s.mac) (kd := kd) (l := l)
  rw [← hq] at q1 ho ⊢
  clear hq xM mx my hok lx ly sl
  by_cases hz : q.2 = 0
  · have dz : decide (q.2 = 0) = true := by simpa using hz
    obtain ⟨q2, q3⟩ := q1 hz
    obtain rfl : o = true := ho (by omega)
    simp (maxSteps := 4000000) only [Try.results36, dz, XX, Nat.reduceBEq, Nat.reduceLT, Nat.reduceAdd, Nat.reduceMul, Nat.reduceSub, Nat.reduceLeDiff, Nat.reduceEqDiff, Int.reduceToNat, Int.reduceLT, Int.reduceLE, Int.reduceAdd, Int.reduceSub, Int.reduceEq, reduceIte, Nat.reduceBNe, Int.reducePow, Nat.reducePow, Int.reduceMul, Int.reduceNeg, isB_i, isB_b, isB_y, isBv_i, isBv_b, eqCells_t, TT]
    rw [maskL_len, lG]
    have gw : (G ++ [wB true (q.1 ++ z)])[b + 1]? = some (wB true (q.1 ++ z)) := by rw [← lG]; exact app_self
    have gn' : (G ++ [wB true (q.1 ++ z)])[n]? = some (nicB s c) := (List.getElem?_append_left lgn).trans gn
    have PF := PG.app [wB true (q.1 ++ z)]
    have kF : ∀ i, i < b → (G ++ [wB true (q.1 ++ z)])[i]? = H[i]? := fun i hi => (List.getElem?_append_left (by omega)).trans (kG i hi)
    have lF : (G ++ [wB true (q.1 ++ z)]).length = b + 2 := by rw [List.length_append, lG]; rfl
    generalize G ++ [wB true (q.1 ++ z)] = F at *
    obtain ⟨ox, mx⟩ : ∃ o, (maskL [n] 0 F)[n]? = some ⟨o, 80, (nicB s c).cells⟩ := maskL_at gn'
    have hok := kept_cons gn' rfl kept_nil
    have lx := lt_of mx
    have lfn := lt_of gn'
    refine draw_of cx_ok (by kernel_rfl) 400 [n] [(0, true), (1, true), (2, true), (3, true), (4, true), (5, true), (6, true), (7, true), (8, true), (9, false), (10, true)] (by kernel_rfl) (by first | exact hok | simp [*]) ?_
    simp (maxSteps := 4000000) only [Try.results36, gn', mx, lx, lfn, XX, Nat.reduceBEq, Nat.reduceLT, Nat.reduceAdd, Nat.reduceMul, Nat.reduceSub, Nat.reduceLeDiff, Nat.reduceEqDiff, Int.reduceToNat, Int.reduceLT, Int.reduceLE, Int.reduceAdd, Int.reduceSub, Int.reduceEq, reduceIte, Nat.reduceBNe, Int.reducePow, Nat.reducePow, Int.reduceMul, Int.reduceNeg, isB_i, isB_b, isB_y, isBv_i, isBv_b, eqCells_t, TT]
    have Pm := PF.mask (not1 n1) (not1 n2) (not1 n3)
    have le := layE_is os.t q2 q3
    refine call_is (Pm.lay ok s.t (.inr (.inl ⟨b + 1, _, rfl, (mask_off (not1 (by omega))).trans gw, rfl, rfl, rfl⟩))) ?_
    rintro _ _ ⟨rfl, rfl⟩
    rw [le]
    have wm : (setC F c w1 w2 (layK k s.t q.1))[b + 1]? = some (wB true (q.1 ++ z)) := by
      rw [setC_off (ty_ne gw PF.hc (by show (5 : Nat) ≠ 73; decide)) (ty_ne gw PF.h1 (by show (5 : Nat) ≠ 76; decide)) (ty_ne gw PF.h2 (by show (5 : Nat) ≠ 76; decide))]
      exact gw
    have nm : (setC F c w1 w2 (layK k s.t q.1))[n]? = some (nicB s c) := by rw [setC_off n1 n2 n3]; exact gn'
    have Pk := PF.set (layK k s.t q.1)
    have kk : ∀ i, i < b → ¬ XN5 c w1 w2 n i → (setC F c w1 w2 (layK k s.t q.1))[i]? = H[i]? := fun i hi hx => by
      rw [setC_off (fun e => hx (.inl e)) (fun e => hx (.inr (.inl e))) (fun e => hx (.inr (.inr (.inl e))))]
      exact kF i hi
    have lk : (setC F c w1 w2 (layK k s.t q.1)).length = b + 2 := by rw [setC_len]; exact lF
    by_cases hfull : seeS k.tx s.t = true
    · rw [if_pos hfull]
      simp (maxSteps := 4000000) only [Try.results36, unL_setC0 (not1 n1) (not1 n2) (not1 n3), XX, Nat.reduceBEq, Nat.reduceLT, Nat.reduceAdd, Nat.reduceMul, Nat.reduceSub, Nat.reduceLeDiff, Nat.reduceEqDiff, Int.reduceToNat, Int.reduceLT, Int.reduceLE, Int.reduceAdd, Int.reduceSub, Int.reduceEq, reduceIte, Nat.reduceBNe, Int.reducePow, Nat.reducePow, Int.reduceMul, Int.reduceNeg, isB_i, isB_b, isB_y, isBv_i, isBv_b, eqCells_t, TT]
      have e1 : sendE k s q = 3 := by unfold sendE; rw [if_pos hz, if_pos hfull]
      have e3 : ¬ (3 : Int) = 0 := by decide
      have eN : layN k s q = s := by unfold layN; rw [e1, if_neg e3]
      have eK : sendK k s q = k := by unfold sendK; rw [e1, if_neg e3]
      have eD : sendD k s q = [] := by unfold sendD; rw [e1, if_neg e3]
      rw [layK_full os.t hfull] at Pk kk nm lk ⊢
      exact ⟨_, by rw [e1], .inl ⟨rfl, eD⟩, by rw [eK]; exact Pk, by rw [eN]; exact nm, by omega, fun i hi hx => kk i (by omega) hx⟩
    · rw [if_neg hfull]
      have e1 : sendE k s q = 0 := by unfold sendE; rw [if_pos hz, if_neg hfull]
      have eN : layN k s q = { s with t := (s.t + 1) % k.tx.length } := by unfold layN; rw [if_pos e1]
      have eK : sendK k s q = layK k s.t q.1 := by unfold sendK; rw [if_pos e1]
      have eD : sendD k s q = q.1 := by unfold sendD; rw [if_pos e1]
      rw [e1, eN, eK, eD]
      have nxt := next_spec s.t k.tx.length os.t ok.tx1
      simp (maxSteps := 4000000) only [Try.results36, unL_setC0 (not1 n1) (not1 n2) (not1 n3), XX, Nat.reduceBEq, Nat.reduceLT, Nat.reduceAdd, Nat.reduceMul, Nat.reduceSub, Nat.reduceLeDiff, Nat.reduceEqDiff, Int.reduceToNat, Int.reduceLT, Int.reduceLE, Int.reduceAdd, Int.reduceSub, Int.reduceEq, reduceIte, Nat.reduceBNe, Int.reducePow, Nat.reducePow, Int.reduceMul, Int.reduceNeg, isB_i, isB_b, isB_y, isBv_i, isBv_b, eqCells_t, TT]
      generalize setC F c w1 w2 (layK k s.t q.1) = M at *
      have lmn := lt_of nm
      simp (maxSteps := 4000000) only [Try.results36, nm, lmn, XX, Nat.reduceBEq, Nat.reduceLT, Nat.reduceAdd, Nat.reduceMul, Nat.reduceSub, Nat.reduceLeDiff, Nat.reduceEqDiff, Int.reduceToNat, Int.reduceLT, Int.reduceLE, Int.reduceAdd, Int.reduceSub, Int.reduceEq, reduceIte, Nat.reduceBNe, Int.reducePow, Nat.reducePow, Int.reduceMul, Int.reduceNeg, isB_i, isB_b, isB_y, isBv_i, isBv_b, eqCells_t, TT]
      refine call_is Pk.rings ?_
      rintro _ M2 ⟨rfl, hM⟩
      rw [hM]
      clear hM
      rw [(layK_tx k s.t q.1).1]
      simp (maxSteps := 4000000) only [Try.results36, nm, lmn, XX, Nat.reduceBEq, Nat.reduceLT, Nat.reduceAdd, Nat.reduceMul, Nat.reduceSub, Nat.reduceLeDiff, Nat.reduceEqDiff, Int.reduceToNat, Int.reduceLT, Int.reduceLE, Int.reduceAdd, Int.reduceSub, Int.reduceEq, reduceIte, Nat.reduceBNe, Int.reducePow, Nat.reducePow, Int.reduceMul, Int.reduceNeg, isB_i, isB_b, isB_y, isBv_i, isBv_b, eqCells_t, TT]
      refine call_pureF [.c (i64 s.t), .c (i64 k.tx.length)] nxt ⟨.inl ⟨rfl, rfl⟩, .inl ⟨rfl, rfl⟩, trivial⟩ ?_
      rintro _ rfl
      simp (maxSteps := 4000000) only [Try.results36, nm, lmn, XX, Nat.reduceBEq, Nat.reduceLT, Nat.reduceAdd, Nat.reduceMul, Nat.reduceSub, Nat.reduceLeDiff, Nat.reduceEqDiff, Int.reduceToNat, Int.reduceLT, Int.reduceLE, Int.reduceAdd, Int.reduceSub, Int.reduceEq, reduceIte, Nat.reduceBNe, Int.reducePow, Nat.reducePow, Int.reduceMul, Int.reduceNeg, isB_i, isB_b, isB_y, isBv_i, isBv_b, eqCells_t, TT]
      have off : ∀ {i : Nat} (y : SB), i ≠ n → (M.set n y)[i]? = M[i]? := fun y hi => by rw [List.getElem?_set_ne (Ne.symm hi)]
      refine ⟨_, rfl, .inr ⟨b + 1, z, true, rfl, by omega, ?_, fun _ => rfl⟩, Pk.mono (off _ n1.symm) (off _ n2.symm) (off _ n3.symm), by rw [List.getElem?_set_self lmn], by rw [List.length_set]; omega, fun i hi hx => ?_⟩
      · rw [off _ (by omega)]; exact wm
      · rw [off _ (fun e => hx (.inr (.inr (.inr e))))]
        exact kk i (by omega) hx
  · have dz : decide (q.2 = 0) = false := by simpa using hz
    simp (maxSteps := 4000000) only [Try.results36, dz, XX, Nat.reduceBEq, Nat.reduceLT, Nat.reduceAdd, Nat.reduceMul, Nat.reduceSub, Nat.reduceLeDiff, Nat.reduceEqDiff, Int.reduceToNat, Int.reduceLT, Int.reduceLE, Int.reduceAdd, Int.reduceSub, Int.reduceEq, reduceIte, Nat.reduceBNe, Int.reducePow, Nat.reducePow, Int.reduceMul, Int.reduceNeg, isB_i, isB_b, isB_y, isBv_i, isBv_b, eqCells_t, TT]
    have e1 : sendE k s q = q.2 := by unfold sendE; rw [if_neg hz]
    refine ⟨_, by rw [e1], .inl ⟨rfl, ?_⟩, ?_, ?_, ?_⟩
    · unfold sendD; rw [e1, if_neg hz]
    · unfold sendK; rw [e1, if_neg hz]; exact PG.app _
    · unfold layN; rw [e1, if_neg hz, List.getElem?_append_left lgn]; exact gn
    · refine ⟨by rw [List.length_append]; omega, fun i hi _ => ?_⟩
      rw [List.getElem?_append_left (by omega)]; exact kG i (by omega)
end Go.Proofs.Ythbojoiogjdbeaa.Sx
namespace Go.Proofs.Ythbojoiogjdbeaa.Sx
open Go
set_option linter.unusedSimpArgs false
set_option linter.unusedVariables false
set_option maxRecDepth 10000
set_option maxHeartbeats 4000000
theorem Out.mono {H H0 h h' : List SB} {x : SC} {D : List UInt8} (h1 : Out H h x D) (hl : H0.length ≤ H.length) (hk : ∀ (i : Nat) (b : SB), h[i]? = some b → b.ty = 5 → h'[i]? = some b) : Out H0 h' x D := by
  rcases h1 with h1 | ⟨w, z, o, rfl, h2, h3, h4⟩
  · exact .inl h1
  · exact .inr ⟨w, z, o, rfl, by omega, hk _ _ h3 rfl, h4⟩
theorem set_keep {H : List SB} {n : Nat} {a y : SB} (hn : H[n]? = some a) (ht : a.ty ≠ 5) : ∀ (i : Nat) (b : SB), H[i]? = some b → b.ty = 5 → (H.set n y)[i]? = some b := fun i b hi hb => by
  rw [List.getElem?_set_ne (ty_ne hn hi (by rw [hb]; exact ht))]; exact hi
theorem PC.setn {H : List SB} {c w1 w2 n : Nat} {k : CK} {y : SB} (P : PC H c w1 w2 k) (n1 : n ≠ c) (n2 : n ≠ w1) (n3 : n ≠ w2) : PC (H.set n y) c w1 w2 k :=
  P.mono (List.getElem?_set_ne n1) (List.getElem?_set_ne n2) (List.getElem?_set_ne n3)
theorem nic_ty : (80 : Nat) ≠ 5 := by decide
theorem send5_spec {H : List SB} {n c w1 w2 : Nat} {k : CK} {s : NS} (P : PC H c w1 w2 k) (ok : k.ok) (hn : H[n]? = some (nicB s c)) (os : s.ok k) (d : M6) (kd : Int) {x : SC} {l sp : List UInt8} {cc : Nat} (hx : Rd H x l sp cc) :
    Spec cx.P 16 [.c (.ptr n 0), .agg (macC d ++ [i64 kd, x])] H fun t h' => ∃ x, t = .tup [(false, [x]), (false, [i64 (sendE k s (sealR d s.mac kd l))])] ∧ Out H h' x (sendD k s (sealR d s.mac kd l)) ∧ PC h' c w1 w2 (sendK k s (sealR d s.mac kd l)) ∧ h'[n]? = some (nicB (sendN k s (sealR d s.mac kd l)) c) ∧ But H h' (XN5 c w1 w2 n) := by
  have ln := lt_of hn
  have n1 : n ≠ c := ty_ne hn P.hc (by show (80 : Nat) ≠ 73; decide)
  have n2 : n ≠ w1 := ty_ne hn P.h1 (by show (80 : Nat) ≠ 76; decide)
  have n3 : n ≠ w2 := ty_ne hn P.h2 (by show (80 : Nat) ≠ 76; decide)
  refine spec_of_X cx_ok Try.func16 rfl (by kernel_rfl) (by kernel_rfl) (Nat.le_of_ble_eq_true rfl) 400 8 ?_
  simp (maxSteps := 4000000) only [Try.results16, XX, Nat.reduceBEq, Nat.reduceLT, Nat.reduceAdd, Nat.reduceMul, Nat.reduceSub, Nat.reduceLeDiff, Nat.reduceEqDiff, Int.reduceToNat, Int.reduceLT, Int.reduceLE, Int.reduceAdd, Int.reduceSub, Int.reduceEq, reduceIte, Nat.reduceBNe, Int.reducePow, Nat.reducePow, Int.reduceMul, Int.reduceNeg, isB_i, isB_b, isB_y, isBv_i, isBv_b, eqCells_t, TT]
  simp (maxSteps := 4000000) only [Try.results16, app_self, List.length_append, List.length_cons, List.length_nil, XX, Nat.reduceBEq, Nat.reduceLT, Nat.reduceAdd, Nat.reduceMul, Nat.reduceSub, Nat.reduceLeDiff, Nat.reduceEqDiff, Int.reduceToNat, Int.reduceLT, Int.reduceLE, Int.reduceAdd, Int.reduceSub, Int.reduceEq, reduceIte, Nat.reduceBNe, Int.reducePow, Nat.reducePow, Int.reduceMul, Int.reduceNeg, isB_i, isB_b, isB_y, isBv_i, isBv_b, eqCells_t, TT]
  obtain ⟨B, hB⟩ : ∃ B : List SB, B = [({ own := true, ty := 35, cells := [byteC d.a, byteC d.b, byteC d.c, byteC d.d, byteC d.e, byteC d.f, i64 kd, x] } : SB)] := ⟨_, rfl⟩
  rw [← hB]
  refine call_is (lay5_spec (P.app B) ok ((List.getElem?_append_left ln).trans hn) os d kd (hx.mono fun i b hi _ => (List.getElem?_append_left (lt_of hi)).trans hi)) ?_
  rintro _ M ⟨x', rfl, hO, PM, hM, bM⟩
  have lm := lt_of hM
  have lB : H.length ≤ (H ++ B).length := by rw [List.length_append]; omega
  have bM' : But H M (XN5 c w1 w2 n) := ⟨by have := bM.1; omega, fun i hi hx => (bM.2 i (by omega) hx).trans (List.getElem?_append_left hi)⟩
  generalize sealR d s.mac kd l = q at *
  by_cases hz : sendE k s q = 0
  · have dz : decide (sendE k s q = 0) = true := by simpa using hz
    have e1 : layN k s q = { s with t := (s.t + 1) % k.tx.length } := by unfold layN; rw [if_pos hz]
    have e2 : sendN k s q = { s with t := (s.t + 1) % k.tx.length, se := incW s.se } := by unfold sendN; rw [if_pos hz]
    rw [e1] at hM
    rw [e2]
    simp (maxSteps := 4000000) only [Try.results16, dz, hM, lm, gset, XX, Nat.reduceBEq, Nat.reduceLT, Nat.reduceAdd, Nat.reduceMul, Nat.reduceSub, Nat.reduceLeDiff, Nat.reduceEqDiff, Int.reduceToNat, Int.reduceLT, Int.reduceLE, Int.reduceAdd, Int.reduceSub, Int.reduceEq, reduceIte, Nat.reduceBNe, Int.reducePow, Nat.reducePow, Int.reduceMul, Int.reduceNeg, isB_i, isB_b, isB_y, isBv_i, isBv_b, eqCells_t, TT]
    exact ⟨_, by rw [hz], hO.mono lB (set_keep hM nic_ty), PM.setn n1 n2 n3, rfl, bM'.set (.inr (.inr (.inr rfl))) _⟩
  · have dz : decide (sendE k s q = 0) = false := by simpa using hz
    have e1 : layN k s q = s := by unfold layN; rw [if_neg hz]
    have e2 : sendN k s q = { s with rf := incW s.rf } := by unfold sendN; rw [if_neg hz]
    have e3 : sendD k s q = [] := by unfold sendD; rw [if_neg hz]
    rw [e1] at hM
    rw [e2]
    simp (maxSteps := 4000000) only [Try.results16, dz, hM, lm, gset, XX, Nat.reduceBEq, Nat.reduceLT, Nat.reduceAdd, Nat.reduceMul, Nat.reduceSub, Nat.reduceLeDiff, Nat.reduceEqDiff, Int.reduceToNat, Int.reduceLT, Int.reduceLE, Int.reduceAdd, Int.reduceSub, Int.reduceEq, reduceIte, Nat.reduceBNe, Int.reducePow, Nat.reducePow, Int.reduceMul, Int.reduceNeg, isB_i, isB_b, isB_y, isBv_i, isBv_b, eqCells_t, TT]
    exact ⟨_, rfl, .inl ⟨rfl, e3⟩, PM.setn n1 n2 n3, rfl, bM'.set (.inr (.inr (.inr rfl))) _⟩
end Go.Proofs.Ythbojoiogjdbeaa.Sx
namespace Go.Proofs.Ythbojoiogjdbeaa.Sx
open Go
set_option linter.unusedSimpArgs false
set_option linter.unusedVariables false
set_option maxRecDepth 10000
set_option maxHeartbeats 4000000
section
variable {H : List SB} {c r t : Nat} {lr lt : List (Bool × SC)} {nr nt cr ct ar at' : Nat} {c1 c2 c3 : Int}
end
theorem RSx.but {S : Nat → Prop} {H h' : List SB} {rc rr rt : Nat} {k : CK} (R : RSx S H rc rr rt k) {p : Nat → Prop} (K : But H h' p) (hp : ∀ (i : Nat) (b : SB), H[i]? = some b → p i → b.ty ≠ 83 ∧ b.ty ≠ 85 ∧ b.ty ≠ 5) : RSx S h' rc rr rt k :=
  R.keep fun i b hi ht => by
    rw [K.2 i (lt_of hi) fun h => ?_]; exact hi
    obtain ⟨a1, a2, a3⟩ := hp i b hi h
    rcases ht with h | h | h
    · exact a1 h
    · exact a2 h
    · exact a3 h
theorem unL_but {L : List Nat} {F h : List SB} {p : Nat → Prop} (K : But (maskL L 0 F) h p) (hp : ∀ i, p i → L.contains i = false) : But F (unL L 0 F h) p := by
  have hl := K.1
  rw [maskL_len] at hl
  refine ⟨by rw [unL_len]; exact hl, fun i hi hn => ?_⟩
  rw [unL_get, Nat.zero_add, List.getElem?_eq_getElem hi, List.getElem?_eq_getElem (show i < h.length by omega)]
  cases hc : L.contains i with
  | true => rfl
  | false =>
    have := K.2 i (by rw [maskL_len]; exact hi) hn
    rw [mask_off hc, List.getElem?_eq_getElem hi, List.getElem?_eq_getElem (show i < h.length by omega)] at this
    exact this
theorem But.wk' {H h' : List SB} {p q : Nat → Prop} (K : But H h' p) (hp : ∀ i, p i → q i) : But H h' q := ⟨K.1, fun i hi hn => K.2 i hi fun h => hn (hp i h)⟩
theorem But.trans {a b c : List SB} {p : Nat → Prop} (h1 : But a b p) (h2 : But b c p) : But a c p := ⟨Nat.le_trans h1.1 h2.1, fun i hi hn => (h2.2 i (Nat.lt_of_lt_of_le hi h1.1) hn).trans (h1.2 i hi hn)⟩
theorem But.setN {H h' : List SB} {p : Nat → Prop} (K : But H h' p) {j : Nat} (hj : H.length ≤ j) (y : SB) : But H (h'.set j y) p := ⟨by rw [List.length_set]; exact K.1, fun i hi hn => (List.getElem?_set_ne (by omega)).trans (K.2 i hi hn)⟩
abbrev deB (b : Bool) (y : SC) : SB := ⟨true, 85, [bC b, y]⟩
end Go.Proofs.Ythbojoiogjdbeaa.Sx
namespace Go.Proofs.Ythbojoiogjdbeaa.Sx
open Go
set_option linter.unusedSimpArgs false
set_option linter.unusedVariables false
set_option maxRecDepth 10000
set_option maxHeartbeats 4000000
/-- A frame that came out, where its bytes stand. -/
structure FE where
  f : FR
  w : Nat
  z : List UInt8
  o : Bool
abbrev FE.c (e : FE) : List SC := fraC e.f.d e.f.s e.f.k (slB e.w e.f.l e.z)
abbrev zeroFr : List SC := fraC .nul .nul 0 noC
theorem fe_len {es : List FE} : ∀ c ∈ es.map FE.c, c.length = 14 := by
  intro c hc
  obtain ⟨e, _, rfl⟩ := List.mem_map.1 hc
  rfl
structure FrL (H : List SB) (lo : Nat) (sc : SC) (es : List FE) : Prop where
  row : (es = [] ∧ sc = noC) ∨ ∃ iF o r, sc = .sl iF 0 es.length (es.length + r) ∧ lo ≤ iF ∧ RowG H 40 zeroFr iF o (es.map FE.c) r
  at_ : ∀ e ∈ es, lo ≤ e.w ∧ H[e.w]? = some (wB e.o (e.f.l ++ e.z)) ∧ (0 < e.f.l.length + e.z.length → e.o = true)
  ne : es.Pairwise fun a b => a.w ≠ b.w
theorem FrL.nil (H : List SB) (lo : Nat) : FrL H lo noC [] := ⟨.inl ⟨rfl, rfl⟩, (fun _ h => nomatch h), List.Pairwise.nil⟩
theorem FrL.keep {H H' : List SB} {lo : Nat} {sc : SC} {es : List FE} (F : FrL H lo sc es) (K : ∀ (i : Nat) (b : SB), H[i]? = some b → (b.ty = 40 ∨ b.ty = 5) → H'[i]? = some b) : FrL H' lo sc es := by
  refine ⟨?_, fun e he => ?_, F.ne⟩
  · rcases F.row with h | ⟨iF, o, r, h1, h2, R⟩
    · exact .inl h
    · exact .inr ⟨iF, o, r, h1, h2, K _ _ R.row (.inl rfl), R.own⟩
  · obtain ⟨h1, h2, h3⟩ := F.at_ e he
    exact ⟨h1, K _ _ h2 (.inr rfl), h3⟩
theorem FrL.lt {H : List SB} {lo : Nat} {sc : SC} {es : List FE} (F : FrL H lo sc es) {e : FE} (he : e ∈ es) : e.w < H.length := lt_of (F.at_ e he).2.1
/-- All windows of some types stay. -/
def KT (p : TypeId → Prop) (H H' : List SB) : Prop := ∀ (i : Nat) (b : SB), H[i]? = some b → p b.ty → H'[i]? = some b
theorem KT.trans {p : TypeId → Prop} {a b c : List SB} (h1 : KT p a b) (h2 : KT p b c) : KT p a c := fun i x hi hx => h2 i x (h1 i x hi hx) hx
theorem KT.ofBut {p : TypeId → Prop} {q : Nat → Prop} {H H' : List SB} (K : But H H' q) (h : ∀ (i : Nat) (b : SB), H[i]? = some b → q i → ¬ p b.ty) : KT p H H' := fun i b hi hp => by
  rw [K.2 i (lt_of hi) fun hq => h i b hi hq hp]; exact hi
theorem KT.set {p : TypeId → Prop} {H : List SB} {n : Nat} {a y : SB} (hn : H[n]? = some a) (ha : ¬ p a.ty) : KT p H (H.set n y) := fun i b hi hp => by
  rw [List.getElem?_set_ne (fun e => by subst e; rw [hn] at hi; cases hi; exact ha hp)]; exact hi
abbrev tyF (t : TypeId) : Prop := t = 40 ∨ t = 5
theorem KT.setC {p : TypeId → Prop} {H : List SB} {c w1 w2 : Nat} {k k' : CK} (P : PC H c w1 w2 k) (h1 : ¬ p 73) (h2 : ¬ p 76) : KT p H (setC H c w1 w2 k') := fun i b hi hp => by
  rw [setC_off (fun e => by subst e; rw [P.hc] at hi; cases hi; exact h1 hp) (fun e => by subst e; rw [P.h1] at hi; cases hi; exact h2 hp) (fun e => by subst e; rw [P.h2] at hi; cases hi; exact h2 hp)]; exact hi
def minQ (k : CK) (s : NS) : Bool := decide ((openR (seeD k.rx s.r)).e = 0) && mineB s.mac (openR (seeD k.rx s.r)).d (openR (seeD k.rx s.r)).s
def pollS (k : CK) (s : NS) : NS := { s with r := (s.r + 1) % k.rx.length, tk := if minQ k s then incW s.tk else s.tk, th := if minQ k s then s.th else incW s.th }
def pollO (k : CK) (s : NS) : List FR := if minQ k s then [openR (seeD k.rx s.r)] else []
def pollN : Nat → CK → NS → CK × NS × List FR
  | 0, k, s => (k, s, [])
  | n + 1, k, s => if seeS k.rx s.r then (k, s, []) else ((pollN n (givK k s.r) (pollS k s)).1, (pollN n (givK k s.r) (pollS k s)).2.1, pollO k s ++ (pollN n (givK k s.r) (pollS k s)).2.2)
theorem givK_len (k : CK) (i : Int) : (givK k i).rx.length = k.rx.length ∧ (givK k i).tx.length = k.tx.length := by
  unfold givK
  split
  · split
    · exact ⟨rfl, rfl⟩
    · exact ⟨List.length_set, rfl⟩
  · exact ⟨rfl, rfl⟩
theorem pollS_ok {k : CK} {s : NS} (ok : k.ok) (os : s.ok k) : (pollS k s).ok (givK k s.r) := by
  obtain ⟨h1, h2⟩ := givK_len k s.r
  have := ok.rx0
  exact ⟨by rw [h1]; exact Nat.mod_lt _ this, by rw [h2]; exact os.t⟩
/-- So far, and what is left. -/
def PollI (N : Nat) (k : CK) (s : NS) (n : Nat) (k1 : CK) (s1 : NS) (done : List FR) : Prop := pollN N k s = ((pollN n k1 s1).1, (pollN n k1 s1).2.1, done ++ (pollN n k1 s1).2.2)
theorem PollI.start (N : Nat) (k : CK) (s : NS) : PollI N k s N k s [] := rfl
theorem PollI.next {N n : Nat} {k k1 : CK} {s s1 : NS} {done : List FR} (h : PollI N k s (n + 1) k1 s1 done) (hs : seeS k1.rx s1.r = false) : PollI N k s n (givK k1 s1.r) (pollS k1 s1) (done ++ pollO k1 s1) := by
  unfold PollI at h ⊢
  rw [h, pollN, hs, if_neg (by decide), List.append_assoc]
theorem PollI.stop {N n : Nat} {k k1 : CK} {s s1 : NS} {done : List FR} (h : PollI N k s n k1 s1 done) (hs : n = 0 ∨ seeS k1.rx s1.r = true) : pollN N k s = (k1, s1, done) := by
  unfold PollI at h
  rw [h]
  rcases hs with rfl | hs
  · simp [pollN]
  · cases n with
    | zero => simp [pollN]
    | succ n => simp [pollN, hs]
/-- Slots that the card does not own. -/
def frN (l : List Sl) : Nat := l.countP fun s => !s.own
theorem frN_le (l : List Sl) : frN l ≤ l.length := List.countP_le_length
theorem frN_give {k : CK} {i : Nat} (hi : i < k.rx.length) (hs : seeS k.rx i = false) : frN (givK k i).rx + 1 = frN k.rx := by
  have h0 : 0 ≤ (i : Int) ∧ (i : Int) < (k.rx.length : Int) := ⟨by omega, by omega⟩
  unfold seeS at hs
  rw [if_pos h0] at hs
  unfold givK
  rw [if_pos h0, hs, if_neg (by decide)]
  rw [Int.toNat_natCast] at hs ⊢
  have e1 : k.rx = k.rx.take i ++ (k.rx.getD i noSl :: k.rx.drop (i + 1)) := by
    have h2 : k.rx.getD i noSl = k.rx[i] := by rw [List.getD_eq_getElem?_getD, List.getElem?_eq_getElem hi]; rfl
    rw [h2, ← List.drop_eq_getElem_cons hi, List.take_append_drop]
  dsimp only
  unfold frN
  rw [List.set_eq_take_append_cons_drop, if_pos hi]
  conv => rhs; rw [e1]
  rw [List.countP_append, List.countP_append, List.countP_cons, List.countP_cons, hs]
  simp
  omega
theorem FrL.push {xn : XN} {dst : Option Tmp} {k : List KI} {nm : NB} {tm : List (Nat × SV)} {Q : XE → St → Prop} {H : List SB} {lo iF g m : Nat} {o : Bool} {es : List FE} {r : Nat} {e : FE} {b : SB}
    (F : FrL H lo (.sl iF 0 es.length (es.length + r)) es) (R : RowG H 40 zeroFr iF o (es.map FE.c) r) (hlo : lo ≤ iF) (hm : es.length = m) (hg : g = H.length + 1) (hloH : lo ≤ H.length)
    (hw : H[e.w]? = some (wB e.o (e.f.l ++ e.z))) (ho : 0 < e.f.l.length + e.z.length → e.o = true) (hl : lo ≤ e.w) (hne : ∀ a ∈ es, a.w ≠ e.w)
    (hk : ∀ H' sc, FrL H' lo sc (es ++ [e]) → But H H' (fun i => i = iF) → xn k ⟨nm, put dst (.c sc) tm, H'⟩ Q) :
    XApp xn (m + 1) (m + r) dst k nm tm (.c (.sl iF 0 (m + 1) (m + r)), H.set iF ⟨o, 40, (rowG zeroFr (es.map FE.c) r).take (m * 14) ++ (e.c ++ (rowG zeroFr (es.map FE.c) r).drop (m * 14 + 14))⟩ ++ [b])
      (fun c' => (.c (.sl g 0 (m + 1) c'), H ++ [b, ⟨true, 40, (rowG zeroFr (es.map FE.c) r).take (m * 14) ++ (e.c ++ (List.replicate (c' - (m + 1)) zeroFr).flatten)⟩])) Q := by
  refine rowg_push e.c R fe_len rfl (by rw [List.length_map]; exact hm) hg ?_
  intro H' iO' r' R' hl' hkp hi'
  have hfe : ∀ a ∈ es ++ [e], lo ≤ a.w ∧ H'[a.w]? = some (wB a.o (a.f.l ++ a.z)) ∧ (0 < a.f.l.length + a.z.length → a.o = true) := by
    have old : ∀ (w : Nat) (u : List UInt8) (oo : Bool), H[w]? = some (wB oo u) → H'[w]? = some (wB oo u) := fun w u oo h => by
      rw [hkp w (lt_of h) (ty_ne h R.row (by show (5 : Nat) ≠ 40; decide))]; exact h
    intro a ha
    rcases List.mem_append.1 ha with ha | ha
    · obtain ⟨h1, h2, h3⟩ := F.at_ a ha
      exact ⟨h1, old _ _ _ h2, h3⟩
    · obtain rfl := List.mem_singleton.1 ha
      exact ⟨hl, old _ _ _ hw, ho⟩
  refine hk H' (.sl iO' 0 (m + 1) (m + 1 + r')) ⟨.inr ⟨iO', true, r', ?_, by omega, ?_⟩, hfe, ?_⟩ ⟨hl', fun i hi hn => hkp i hi hn⟩
  · rw [List.length_append, List.length_singleton, hm]
  · rw [List.map_append]; exact R'
  · exact List.pairwise_append.2 ⟨F.ne, List.pairwise_singleton _ _, fun a ha b hb => by obtain rfl := List.mem_singleton.1 hb; exact hne a ha⟩
theorem FrL.first {xn : XN} {dst : Option Tmp} {k : List KI} {nm : NB} {tm : List (Nat × SV)} {Q : XE → St → Prop} {H : List SB} {lo g : Nat} {e : FE} {b : SB} {room : SV × List SB} (hg : g = H.length + 1) (hloH : lo ≤ H.length)
    (hw : H[e.w]? = some (wB e.o (e.f.l ++ e.z))) (ho : 0 < e.f.l.length + e.z.length → e.o = true) (hl : lo ≤ e.w)
    (hk : ∀ H' sc, FrL H' lo sc [e] → But H H' (fun _ => False) → xn k ⟨nm, put dst (.c sc) tm, H'⟩ Q) :
    XApp xn 1 0 dst k nm tm room (fun c' => (.c (.sl g 0 1 c'), H ++ [b, ⟨true, 40, e.c ++ (List.replicate (c' - 1) zeroFr).flatten⟩])) Q := by
  refine rowg_first e.c hg ?_
  intro H' iO' r' R' hl' hkp hi'
  refine hk H' (.sl iO' 0 1 (1 + r')) ⟨.inr ⟨iO', true, r', rfl, by omega, R'⟩, fun a ha => ?_, List.pairwise_singleton _ _⟩ ⟨hl', fun i hi _ => hkp i hi⟩
  obtain rfl := List.mem_singleton.1 ha
  exact ⟨hl, (hkp _ (lt_of hw)).trans hw, ho⟩
end Go.Proofs.Ythbojoiogjdbeaa.Sx
namespace Go.Proofs.Ythbojoiogjdbeaa.Sx
open Go
set_option linter.unusedSimpArgs false
set_option linter.unusedVariables false
set_option maxRecDepth 10000
set_option maxHeartbeats 8000000
theorem nic_tys {s : NS} {c : Nat} : (nicB s c).ty ≠ 40 ∧ (nicB s c).ty ≠ 85 ∧ (nicB s c).ty ≠ 5 := ⟨by show (80 : Nat) ≠ _; decide, by show (80 : Nat) ≠ _; decide, by show (80 : Nat) ≠ _; decide⟩
theorem set_two {h : List SB} {a b y : SB} : (h ++ [a, b]).set (h.length + 1) y = h ++ [a, y] := by rw [List.set_append_right _ _ (by omega), Nat.add_sub_cancel_left]; rfl
theorem PC.but {H h' : List SB} {c w1 w2 : Nat} {k : CK} {p : Nat → Prop} (P : PC H c w1 w2 k) (K : But H h' p) (hp : ¬ p c ∧ ¬ p w1 ∧ ¬ p w2) : PC h' c w1 w2 k :=
  P.mono (K.2 c (lt_of P.hc) hp.1) (K.2 w1 (lt_of P.h1) hp.2.1) (K.2 w2 (lt_of P.h2) hp.2.2)
theorem poll_spec {H : List SB} {n c w1 w2 : Nat} {k : CK} {s : NS} (P : PC H c w1 w2 k) (ok : k.ok) (hn : H[n]? = some (nicB s c)) (os : s.ok k) (N : Int) (hN : -9223372036854775808 ≤ N ∧ N < 9223372036854775808) :
    Spec cx.P 14 [.c (.ptr n 0), .c (i64 N)] H fun t h' => ∃ sc es, t = .c sc ∧ FrL h' H.length sc es ∧ es.map FE.f = (pollN N.toNat k s).2.2 ∧ PC h' c w1 w2 (pollN N.toNat k s).1 ∧ h'[n]? = some (nicB (pollN N.toNat k s).2.1 c) ∧ But H h' (XN5 c w1 w2 n) := by
  have ln := lt_of hn
  have n1 : n ≠ c := ty_ne hn P.hc (by show (80 : Nat) ≠ 73; decide)
  have n2 : n ≠ w1 := ty_ne hn P.h1 (by show (80 : Nat) ≠ 76; decide)
  have n3 : n ≠ w2 := ty_ne hn P.h2 (by show (80 : Nat) ≠ 76; decide)
  refine spec_of_X cx_ok Try.func14 rfl (by kernel_rfl) (by kernel_rfl) (Nat.le_of_ble_eq_true rfl) 400 11 ?_
  simp (maxSteps := 4000000) only [Try.results14, XX, Nat.reduceBEq, Nat.reduceLT, Nat.reduceAdd, Nat.reduceMul, Nat.reduceSub, Nat.reduceLeDiff, Nat.reduceEqDiff, Int.reduceToNat, Int.reduceLT, Int.reduceLE, Int.reduceAdd, Int.reduceSub, Int.reduceEq, reduceIte, Nat.reduceBNe, Int.reducePow, Nat.reducePow, Int.reduceMul, Int.reduceNeg, isB_i, isB_b, isB_y, isBv_i, isBv_b, eqCells_t, TT]
  simp (maxSteps := 4000000) only [Try.results14, hn, ln, XX, Nat.reduceBEq, Nat.reduceLT, Nat.reduceAdd, Nat.reduceMul, Nat.reduceSub, Nat.reduceLeDiff, Nat.reduceEqDiff, Int.reduceToNat, Int.reduceLT, Int.reduceLE, Int.reduceAdd, Int.reduceSub, Int.reduceEq, reduceIte, Nat.reduceBNe, Int.reducePow, Nat.reducePow, Int.reduceMul, Int.reduceNeg, isB_i, isB_b, isB_y, isBv_i, isBv_b, eqCells_t, TT]
  refine call_is P.rings ?_
  rintro _ M2 ⟨rfl, hM⟩
  rw [hM]
  clear hM M2
  simp (maxSteps := 4000000) only [Try.results14, XX, Nat.reduceBEq, Nat.reduceLT, Nat.reduceAdd, Nat.reduceMul, Nat.reduceSub, Nat.reduceLeDiff, Nat.reduceEqDiff, Int.reduceToNat, Int.reduceLT, Int.reduceLE, Int.reduceAdd, Int.reduceSub, Int.reduceEq, reduceIte, Nat.reduceBNe, Int.reducePow, Nat.reducePow, Int.reduceMul, Int.reduceNeg, isB_i, isB_b, isB_y, isBv_i, isBv_b, eqCells_t, TT]
  refine loop_any cx_ok 400 (fun μ σ => ∃ (b : Int) (F : List SB) (k1 : CK) (s1 : NS) (sc : SC) (es : List FE) (done : List FR), μ = b.toNat ∧ -9223372036854775808 ≤ b ∧ b < 9223372036854775808 ∧ PollI N.toNat k s b.toNat k1 s1 done ∧ es.map FE.f = done ∧ FrL F H.length sc es ∧ PC F c w1 w2 k1 ∧ k1.ok ∧ s1.ok k1 ∧ k1.rx.length = k.rx.length ∧ es.length + frN k1.rx ≤ 64 ∧ F[n]? = some (nicB s1 c) ∧ But H F (XN5 c w1 w2 n) ∧
      σ = ⟨⟨11, H.length⟩, [(0, .c (.ptr n 0)), (1, .c (i64 b)), (5, .c sc), (6, .c (i64 k.rx.length))], F⟩) N.toNat
    ⟨⟨11, H.length⟩, [(0, .c (.ptr n 0)), (1, .c (i64 N)), (5, .c noC), (6, .c (i64 k.rx.length))], H⟩ ⟨N, H, k, s, noC, [], [], rfl, hN.1, hN.2, PollI.start _ _ _, rfl, FrL.nil _ _, P, ok, os, rfl, by have := frN_le k.rx; have := ok.rx1; show 0 + frN k.rx ≤ 64; omega, hn, But.rfl' _ _, rfl⟩ (.inl ⟨rfl, rfl, rfl, rfl, rfl, rfl, trivial⟩) ?_
  rintro μ σ ⟨b, F, k1, s1, sc, es, done, rfl, hb1, hb2, hI, hdn, hF, PF, ok1, os1, hrx, hfr, hn1, bF, rfl⟩
  by_cases hpos : 0 < b
  · have d1 : decide (0 < b) = true := by simpa using hpos
    simp (maxSteps := 4000000) only [Try.results14, d1, XX, Nat.reduceBEq, Nat.reduceLT, Nat.reduceAdd, Nat.reduceMul, Nat.reduceSub, Nat.reduceLeDiff, Nat.reduceEqDiff, Int.reduceToNat, Int.reduceLT, Int.reduceLE, Int.reduceAdd, Int.reduceSub, Int.reduceEq, reduceIte, Nat.reduceBNe, Int.reducePow, Nat.reducePow, Int.reduceMul, Int.reduceNeg, isB_i, isB_b, isB_y, isBv_i, isBv_b, eqCells_t, TT]
    have lfn := lt_of hn1
    obtain ⟨ox, mx⟩ : ∃ o, (maskL [n] 0 F)[n]? = some ⟨o, 80, (nicB s1 c).cells⟩ := maskL_at hn1
    have hok := kept_cons hn1 rfl kept_nil
    have lx := lt_of mx
    have lM : (maskL [n] 0 F).length = F.length := maskL_len _ _ _
    have Pm := PF.mask (not1 n1) (not1 n2) (not1 n3)
    have lHF := bF.1
    have seE : seeE k1.rx s1.r = 0 := by unfold seeE; rw [if_pos ⟨by omega, by have := os1.r; omega⟩]
    refine draw_cut cx_ok 400 (fun τ => ∃ (F3 : List SB) (dd w : Nat) (o : Bool), But F F3 (fun _ => False) ∧ F.length ≤ dd ∧ F.length ≤ w ∧ F3[dd]? = some (deB (seeS k1.rx s1.r) (.sl w 0 (seeD k1.rx s1.r).length (seeD k1.rx s1.r).length)) ∧ F3[w]? = some (wB o (seeD k1.rx s1.r)) ∧ (0 < (seeD k1.rx s1.r).length → o = true) ∧
        τ = ⟨⟨11, H.length⟩, [(0, .c (.ptr n 0)), (1, .c (i64 b)), (5, .c sc), (6, .c (i64 k.rx.length)), (8, .c (.ptr dd 0)), (9, .c (i64 0))], F3⟩) ?_ ?_
    · refine draw2_of cx_ok (by kernel_rfl) 400 [n] (.pair [(0, true), (1, true), (2, true), (3, true), (4, true), (5, true), (6, true), (7, true)] 8 12 (.done [(9, true), (10, true), (11, true), (12, false), (13, false), (14, true)]) (.done [(8, false), (9, true), (10, true), (11, true), (13, false), (14, true)])) (by kernel_rfl) (by first | exact hok | simp [*]) ?_
      simp (maxSteps := 4000000) only [Try.results14, PXT_done, PXT_pair, hn1, mx, lx, lfn, XX, Nat.reduceBEq, Nat.reduceLT, Nat.reduceAdd, Nat.reduceMul, Nat.reduceSub, Nat.reduceLeDiff, Nat.reduceEqDiff, Int.reduceToNat, Int.reduceLT, Int.reduceLE, Int.reduceAdd, Int.reduceSub, Int.reduceEq, reduceIte, Nat.reduceBNe, Int.reducePow, Nat.reducePow, Int.reduceMul, Int.reduceNeg, isB_i, isB_b, isB_y, isBv_i, isBv_b, eqCells_t, TT]
      refine ⟨?_, ?_⟩
      · refine call_is (Pm.rx ok1 s1.r) ?_
        rintro _ h3 ⟨o, rfl, hh, ho⟩
        have l3 : h3.length = F.length + 1 := by rw [hh, List.length_append, lM]; rfl
        have gw : h3[F.length]? = some (wB o (seeD k1.rx s1.r)) := by rw [hh, ← lM]; exact append_at _
        have B3 : But (maskL [n] 0 F) h3 (fun _ => False) := by rw [hh]; exact (But.rfl' _ _).app _
        rw [seE, lM]
        simp (maxSteps := 4000000) only [Try.results14, PXT_done, append_at, append_set, append_len1, Nat.lt_add_one, XX, Nat.reduceBEq, Nat.reduceLT, Nat.reduceAdd, Nat.reduceMul, Nat.reduceSub, Nat.reduceLeDiff, Nat.reduceEqDiff, Int.reduceToNat, Int.reduceLT, Int.reduceLE, Int.reduceAdd, Int.reduceSub, Int.reduceEq, reduceIte, Nat.reduceBNe, Int.reducePow, Nat.reducePow, Int.reduceMul, Int.reduceNeg, isB_i, isB_b, isB_y, isBv_i, isBv_b, eqCells_t, TT]
        refine ⟨_, ⟨_, h3.length, F.length, o, unL_but (B3.app _) fun _ h => h.elim, by omega, Nat.le_refl _, by rw [unL_ge (by omega)]; exact append_at _, by rw [unL_ge (Nat.le_refl _), List.getElem?_append_left (by omega)]; exact gw, ho, rfl⟩, .inl ⟨rfl, rfl, rfl, rfl, rfl, rfl, rfl, rfl, trivial⟩⟩
      · refine call_is ((Pm.app _).rx ok1 s1.r) ?_
        rintro _ h3 ⟨o, rfl, hh, ho⟩
        have l3 : h3.length = F.length + 2 := by rw [hh, List.length_append, List.length_append, lM]; rfl
        have gw : h3[F.length + 1]? = some (wB o (seeD k1.rx s1.r)) := by rw [hh, ← lM, ← append_len1]; exact append_at _
        have hd : h3[F.length]? = some (deB false noC) := by rw [hh, ← lM, List.getElem?_append_left (by rw [append_len1]; omega)]; exact append_at _
        have B3 : But (maskL [n] 0 F) h3 (fun _ => False) := by rw [hh]; exact ((But.rfl' _ _).app _).app _
        have lh := lt_of hd
        rw [seE, append_len1, lM]
        simp (maxSteps := 4000000) only [Try.results14, PXT_done, hd, lh, XX, Nat.reduceBEq, Nat.reduceLT, Nat.reduceAdd, Nat.reduceMul, Nat.reduceSub, Nat.reduceLeDiff, Nat.reduceEqDiff, Int.reduceToNat, Int.reduceLT, Int.reduceLE, Int.reduceAdd, Int.reduceSub, Int.reduceEq, reduceIte, Nat.reduceBNe, Int.reducePow, Nat.reducePow, Int.reduceMul, Int.reduceNeg, isB_i, isB_b, isB_y, isBv_i, isBv_b, eqCells_t, TT]
        refine ⟨_, ⟨_, F.length, F.length + 1, o, unL_but (B3.setN (by rw [lM]; exact Nat.le_refl _) _) fun _ h => h.elim, Nat.le_refl _, by omega, by rw [unL_ge (Nat.le_refl _), List.getElem?_set_self (by omega)], by rw [unL_ge (by omega), List.getElem?_set_ne (by omega)]; exact gw, ho, rfl⟩, .inl ⟨rfl, rfl, rfl, rfl, rfl, rfl, rfl, rfl, trivial⟩⟩
    clear hok mx lx lM Pm
    rintro τ ⟨F3, dd, w, o, B3, ld, lw, hd, hw, ho, rfl⟩
    have hn3 := (B3.2 n lfn (fun h => h)).trans hn1
    have P3 := PF.but B3 ⟨fun h => h, fun h => h, fun h => h⟩
    have F3l := hF.keep (KT.ofBut (p := tyF) B3 fun _ _ _ h => h.elim)
    have B03 : But H F3 (XN5 c w1 w2 n) := bF.trans (B3.wk' fun _ h => h.elim)
    have l3 := lt_of hd
    have l4 := lt_of hn3
    have l5 := lt_of hw
    have lF3 := B3.1
    clear PF hF bF
    by_cases hcard : seeS k1.rx s1.r = true
    · have hst := hI.stop (.inr hcard)
      rw [hcard] at hd
      simp (maxSteps := 4000000) only [Try.results14, hd, l3, XX, Nat.reduceBEq, Nat.reduceLT, Nat.reduceAdd, Nat.reduceMul, Nat.reduceSub, Nat.reduceLeDiff, Nat.reduceEqDiff, Int.reduceToNat, Int.reduceLT, Int.reduceLE, Int.reduceAdd, Int.reduceSub, Int.reduceEq, reduceIte, Nat.reduceBNe, Int.reducePow, Nat.reducePow, Int.reduceMul, Int.reduceNeg, isB_i, isB_b, isB_y, isBv_i, isBv_b, eqCells_t, TT]
      rw [hst]
      exact ⟨_, es, rfl, F3l, hdn, P3, hn3, B03⟩
    · have hcf : seeS k1.rx s1.r = false := by simpa using hcard
      rw [hcf] at hd
      have hI2 : PollI N.toNat k s (b.toNat - 1) (givK k1 s1.r) (pollS k1 s1) (done ++ pollO k1 s1) := PollI.next (by rw [show b.toNat - 1 + 1 = b.toNat by omega]; exact hI) hcf
      have op := fopenA_spec (seeD k1.rx s1.r) [] (seeD k1.rx s1.r).length (Nat.le_refl _)
      simp (maxSteps := 4000000) only [Try.results14, hd, l3, XX, Nat.reduceBEq, Nat.reduceLT, Nat.reduceAdd, Nat.reduceMul, Nat.reduceSub, Nat.reduceLeDiff, Nat.reduceEqDiff, Int.reduceToNat, Int.reduceLT, Int.reduceLE, Int.reduceAdd, Int.reduceSub, Int.reduceEq, reduceIte, Nat.reduceBNe, Int.reducePow, Nat.reducePow, Int.reduceMul, Int.reduceNeg, isB_i, isB_b, isB_y, isBv_i, isBv_b, eqCells_t, TT]
      refine call_fz [.c (roB (seeD k1.rx s1.r) [] (seeD k1.rx s1.r).length)] op (fun t h' h => resF_noRo h) ⟨fz_c (fz_any (by rw [List.append_nil]; exact hw) ho), trivial⟩ ?_
      rintro _ _ ⟨z, o2, rfl, rfl, ho2⟩
      obtain ⟨q, hq⟩ : ∃ q, q = openR (seeD k1.rx s1.r) := ⟨_, rfl⟩
      have hmq : minQ k1 s1 = (decide (q.e = 0) && mineB s1.mac q.d q.s) := by rw [hq]; rfl
      have hpo : pollO k1 s1 = if minQ k1 s1 then [q] else [] := by rw [hq]; rfl
      rw [← hq] at ho2 ⊢
      clear hq op
      simp (maxSteps := 4000000) only [Try.results14, set_two, ids_bsC, ren_bsC, noRo_bsC, plain_bsC, lt_bsC, ids_byte, ren_byte, noRo_byte, plain_byte, lt_byte, List.append_assoc, List.getElem?_append_left, List.getElem?_append_right, List.length_append, List.length_set, List.set_append_left, gset, List.getElem?_set_ne, Nat.add_sub_cancel_left, Nat.sub_self, Nat.le_refl, Nat.le_add_right, List.replicate_one, List.flatten_cons, List.flatten_nil, rep_flat, XX, Nat.reduceBEq, Nat.reduceLT, Nat.reduceAdd, Nat.reduceMul, Nat.reduceSub, Nat.reduceLeDiff, Nat.reduceEqDiff, Int.reduceToNat, Int.reduceLT, Int.reduceLE, Int.reduceAdd, Int.reduceSub, Int.reduceEq, reduceIte, Nat.reduceBNe, Int.reducePow, Nat.reducePow, Int.reduceMul, Int.reduceNeg, isB_i, isB_b, isB_y, isBv_i, isBv_b, eqCells_t, TT]
      obtain ⟨wq, hwq⟩ : ∃ wq, wq = F3.length := ⟨_, rfl⟩
      rw [← hwq]
      refine gen_draw (fun F4 => F4[n]? = some (nicB s1 c) ∧ PC F4 c w1 w2 k1 ∧ FrL F4 H.length sc es ∧ But H F4 (XN5 c w1 w2 n) ∧ F4[wq]? = some (wB o2 (q.l ++ z)) ∧ F4[wq + 1]? = some ⟨true, 40, fraC q.d q.s q.k (slB wq q.l z)⟩ ∧ ∀ e ∈ es, e.w < wq) ⟨(List.getElem?_append_left l4).trans hn3, P3.app _, F3l.keep fun i b hi _ => (List.getElem?_append_left (lt_of hi)).trans hi, B03.app _, by rw [hwq, List.getElem?_append_right (Nat.le_refl _), Nat.sub_self]; rfl, by rw [hwq]; exact app_two, fun e he => by rw [hwq]; exact F3l.lt he⟩ ?_
      have lHw : H.length ≤ wq := by omega
      clear hd hw ho hn3 P3 F3l B03 l3 l4 l5 lF3 B3 hwq ld lw
      rintro F4 ⟨hn4, P4, FL, B4, hq4, hb4, hew⟩
      have l4 := lt_of hn4
      have l5 := lt_of hb4
      have nb : n ≠ wq + 1 := ty_ne hn4 hb4 (by show (80 : Nat) ≠ 40; decide)
      obtain ⟨ox, mx⟩ : ∃ o, (maskL [n, wq + 1] 0 F4)[n]? = some ⟨o, 80, (nicB s1 c).cells⟩ := maskL_at hn4
      obtain ⟨oy, my⟩ : ∃ o, (maskL [n, wq + 1] 0 F4)[wq + 1]? = some ⟨o, 40, fraC q.d q.s q.k (slB wq q.l z)⟩ := maskL_at hb4
      have hok := kept_cons hn4 rfl (kept_cons hb4 rfl kept_nil)
      have lx := lt_of mx
      have ly := lt_of my
      have mi := fmine_spec s1.mac q.d q.s q.k (roB q.l z (q.l.length + z.length))
      have nq : n ≠ wq := ty_ne hn4 hq4 nic_ty
      have hqm : (maskL [n, wq + 1] 0 F4)[wq]? = some (wB o2 (q.l ++ z)) := (mask_off (not2 nq (by omega))).trans hq4
      by_cases he : q.e = 0
      · have de : decide (q.e = 0) = true := by simpa using he
        refine draw_of cx_ok (by kernel_rfl) 400 [n, wq + 1] [(0, true), (1, true), (2, true), (3, true), (4, true), (5, true), (6, true), (7, true), (8, false), (9, true)] (by kernel_rfl) (by first | exact hok | simp [*]) ?_
        simp (maxSteps := 4000000) only [Try.results14, hn4, hb4, mx, my, lx, ly, l4, l5, de, XX, Nat.reduceBEq, Nat.reduceLT, Nat.reduceAdd, Nat.reduceMul, Nat.reduceSub, Nat.reduceLeDiff, Nat.reduceEqDiff, Int.reduceToNat, Int.reduceLT, Int.reduceLE, Int.reduceAdd, Int.reduceSub, Int.reduceEq, reduceIte, Nat.reduceBNe, Int.reducePow, Nat.reducePow, Int.reduceMul, Int.reduceNeg, isB_i, isB_b, isB_y, isBv_i, isBv_b, eqCells_t, TT]
        refine call_pureF [.agg (bsC s1.mac.l), .agg (fraC q.d q.s q.k (roB q.l z (q.l.length + z.length)))] mi ⟨.inl ⟨rfl, rfl⟩, fra_fz (fz_any hqm ho2), trivial⟩ ?_
        rintro _ rfl
        by_cases hm : mineB s1.mac q.d q.s = true
        · rw [hm] at hmq ⊢
          rw [de] at hmq
          replace hmq : minQ k1 s1 = true := hmq
          rw [hmq, if_pos rfl] at hpo
          simp (maxSteps := 4000000) only [Try.results14, unL_maskL, hn4, hb4, l4, l5, XX, Nat.reduceBEq, Nat.reduceLT, Nat.reduceAdd, Nat.reduceMul, Nat.reduceSub, Nat.reduceLeDiff, Nat.reduceEqDiff, Int.reduceToNat, Int.reduceLT, Int.reduceLE, Int.reduceAdd, Int.reduceSub, Int.reduceEq, reduceIte, Nat.reduceBNe, Int.reducePow, Nat.reducePow, Int.reduceMul, Int.reduceNeg, isB_i, isB_b, isB_y, isBv_i, isBv_b, eqCells_t, TT]
          rcases FL.row with ⟨rfl, rfl⟩ | ⟨iF, oF, rF, rfl, hiF, RF⟩
          · simp (maxSteps := 4000000) only [Try.results14, List.append_assoc, List.getElem?_append_left, List.getElem?_append_right, List.length_append, List.length_set, List.set_append_left, gset, List.getElem?_set_ne, Nat.add_sub_cancel_left, Nat.sub_self, Nat.le_refl, Nat.le_add_right, List.replicate_one, List.flatten_cons, List.flatten_nil, rep_flat, XX, Nat.reduceBEq, Nat.reduceLT, Nat.reduceAdd, Nat.reduceMul, Nat.reduceSub, Nat.reduceLeDiff, Nat.reduceEqDiff, Int.reduceToNat, Int.reduceLT, Int.reduceLE, Int.reduceAdd, Int.reduceSub, Int.reduceEq, reduceIte, Nat.reduceBNe, Int.reducePow, Nat.reducePow, Int.reduceMul, Int.reduceNeg, isB_i, isB_b, isB_y, isBv_i, isBv_b, eqCells_t, TT]
            refine ⟨by decide, ?_⟩
            refine FrL.first (e := ⟨q, wq, z, o2⟩) rfl B4.1 hq4 ho2 lHw ?_
            intro F5 sc2 FL2 B45
            have hn5 := (B45.2 n l4 (fun h => h)).trans hn4
            have P5 := P4.but B45 ⟨fun h => h, fun h => h, fun h => h⟩
            have B5 : But H F5 (XN5 c w1 w2 n) := B4.trans (B45.wk' fun _ h => h.elim)
            have l6 := lt_of hn5
            obtain ⟨es2, hes2⟩ : ∃ es2 : List FE, es2 = [⟨q, wq, z, o2⟩] := ⟨_, rfl⟩
            have hdn2 : es2.map FE.f = done ++ pollO k1 s1 := by rw [hes2, hpo, ← hdn]; rfl
            have hfr2 : es2.length ≤ ([] : List FE).length + 1 := by rw [hes2]; simp
            rw [← hes2] at FL2
            simp (maxSteps := 4000000) only [Try.results14, hn5, l6, XX, Nat.reduceBEq, Nat.reduceLT, Nat.reduceAdd, Nat.reduceMul, Nat.reduceSub, Nat.reduceLeDiff, Nat.reduceEqDiff, Int.reduceToNat, Int.reduceLT, Int.reduceLE, Int.reduceAdd, Int.reduceSub, Int.reduceEq, reduceIte, Nat.reduceBNe, Int.reducePow, Nat.reducePow, Int.reduceMul, Int.reduceNeg, isB_i, isB_b, isB_y, isBv_i, isBv_b, eqCells_t, TT]
            obtain ⟨s2, hs2⟩ : ∃ s2 : NS, s2 = { s1 with tk := incW s1.tk } := ⟨_, rfl⟩
            have hps : pollS k1 s1 = { s2 with r := (s1.r + 1) % k1.rx.length } := by rw [hs2]; unfold pollS; rw [hmq]; rfl
            have tS : ¬ tyF (nicB s1 c).ty := fun h => h.elim nic_tys.1 nic_tys.2.2
            refine gen_draw (fun F6 => F6[n]? = some (nicB s2 c) ∧ PC F6 c w1 w2 k1 ∧ FrL F6 H.length sc2 es2 ∧ But H F6 (XN5 c w1 w2 n)) ⟨by rw [hs2]; exact List.getElem?_set_self l6, P5.setn n1 n2 n3, FL2.keep (KT.set hn5 tS), B5.set (.inr (.inr (.inr rfl))) _⟩ ?_
            have r2 : s2.r = s1.r := by rw [hs2]
            clear hs2 hn5 P5 FL2 B5 l6 FL hn4 P4 B4 hq4 hb4 mx my hok lx ly mi hqm
            rintro F6 ⟨hn6, P6, FL6, B6⟩
            have l6 := lt_of hn6
            obtain ⟨ox, mx⟩ : ∃ o, (maskL [n] 0 F6)[n]? = some ⟨o, 80, (nicB s2 c).cells⟩ := maskL_at hn6
            have hok := kept_cons hn6 rfl kept_nil
            have lx := lt_of mx
            refine draw_of cx_ok (by kernel_rfl) 400 [n] [(0, true), (1, true), (2, true), (3, true), (4, true), (5, true), (6, true), (7, true), (8, false)] (by kernel_rfl) (by first | exact hok | simp [*]) ?_
            simp (maxSteps := 4000000) only [Try.results14, hn6, mx, l6, lx, XX, Nat.reduceBEq, Nat.reduceLT, Nat.reduceAdd, Nat.reduceMul, Nat.reduceSub, Nat.reduceLeDiff, Nat.reduceEqDiff, Int.reduceToNat, Int.reduceLT, Int.reduceLE, Int.reduceAdd, Int.reduceSub, Int.reduceEq, reduceIte, Nat.reduceBNe, Int.reducePow, Nat.reducePow, Int.reduceMul, Int.reduceNeg, isB_i, isB_b, isB_y, isBv_i, isBv_b, eqCells_t, TT]
            rw [r2]
            refine call_is ((P6.mask (not1 n1) (not1 n2) (not1 n3)).give ok1 s1.r) ?_
            rintro _ _ ⟨rfl, rfl⟩
            simp (maxSteps := 4000000) only [Try.results14, unL_setC0 (not1 n1) (not1 n2) (not1 n3), XX, Nat.reduceBEq, Nat.reduceLT, Nat.reduceAdd, Nat.reduceMul, Nat.reduceSub, Nat.reduceLeDiff, Nat.reduceEqDiff, Int.reduceToNat, Int.reduceLT, Int.reduceLE, Int.reduceAdd, Int.reduceSub, Int.reduceEq, reduceIte, Nat.reduceBNe, Int.reducePow, Nat.reducePow, Int.reduceMul, Int.reduceNeg, isB_i, isB_b, isB_y, isBv_i, isBv_b, eqCells_t, TT]
            have Pg := P6.set (givK k1 s1.r)
            have hg : (setC F6 c w1 w2 (givK k1 s1.r))[n]? = some (nicB s2 c) := by rw [setC_off n1 n2 n3]; exact hn6
            have FLg := FL6.keep (KT.setC (p := tyF) (k' := givK k1 s1.r) P6 (by decide) (by decide))
            have Bg : But H (setC F6 c w1 w2 (givK k1 s1.r)) (XN5 c w1 w2 n) := B6.trans (setC_but _ _ _ _ _ (.inl rfl) (.inr (.inl rfl)) (.inr (.inr (.inl rfl))))
            generalize setC F6 c w1 w2 (givK k1 s1.r) = F7 at *
            have l7 := lt_of hg
            have nx := next_spec s1.r k.rx.length (by rw [← hrx]; exact os1.r) ok.rx1
            simp (maxSteps := 4000000) only [Try.results14, hg, l7, XX, Nat.reduceBEq, Nat.reduceLT, Nat.reduceAdd, Nat.reduceMul, Nat.reduceSub, Nat.reduceLeDiff, Nat.reduceEqDiff, Int.reduceToNat, Int.reduceLT, Int.reduceLE, Int.reduceAdd, Int.reduceSub, Int.reduceEq, reduceIte, Nat.reduceBNe, Int.reducePow, Nat.reducePow, Int.reduceMul, Int.reduceNeg, isB_i, isB_b, isB_y, isBv_i, isBv_b, eqCells_t, TT]
            rw [r2]
            refine call_pureF [.c (i64 s1.r), .c (i64 k.rx.length)] nx ⟨.inl ⟨rfl, rfl⟩, .inl ⟨rfl, rfl⟩, trivial⟩ ?_
            rintro _ rfl
            have eb : IntKind.i64.wrap (b - 1) = b - 1 := by rw [w64] <;> omega
            simp (maxSteps := 4000000) only [Try.results14, hg, l7, eb, XX, Nat.reduceBEq, Nat.reduceLT, Nat.reduceAdd, Nat.reduceMul, Nat.reduceSub, Nat.reduceLeDiff, Nat.reduceEqDiff, Int.reduceToNat, Int.reduceLT, Int.reduceLE, Int.reduceAdd, Int.reduceSub, Int.reduceEq, reduceIte, Nat.reduceBNe, Int.reducePow, Nat.reducePow, Int.reduceMul, Int.reduceNeg, isB_i, isB_b, isB_y, isBv_i, isBv_b, eqCells_t, TT]
            have hgv := frN_give os1.r hcf
            obtain ⟨q1, q2⟩ := givK_len k1 s1.r
            have tS2 : ¬ tyF (nicB s2 c).ty := fun h => h.elim nic_tys.1 nic_tys.2.2
            refine ⟨(b - 1).toNat, by omega, _, ⟨b - 1, _, givK k1 s1.r, pollS k1 s1, sc2, es2, done ++ pollO k1 s1, rfl, by omega, by omega, by rw [show (b - 1).toNat = b.toNat - 1 by omega]; exact hI2, hdn2, FLg.keep (KT.set hg tS2), Pg.setn n1 n2 n3, givK_ok k1 ok1 _, pollS_ok ok1 os1, by rw [q1]; exact hrx, by omega, ?_, Bg.set (.inr (.inr (.inr rfl))) _, rfl⟩, .inl ⟨rfl, rfl, rfl, rfl, rfl, rfl, trivial⟩⟩
            rw [List.getElem?_set_self l7, hps, hrx]
          · have hRF := RF.row
            have lRF := lt_of hRF
            simp (maxSteps := 4000000) only [Try.results14, hb4, l5, hRF, lRF, List.append_assoc, List.getElem?_append_left, List.getElem?_append_right, List.length_append, List.length_set, List.set_append_left, gset, List.getElem?_set_ne, Nat.add_sub_cancel_left, Nat.sub_self, Nat.le_refl, Nat.le_add_right, List.replicate_one, List.flatten_cons, List.flatten_nil, rep_flat, XX, Nat.reduceBEq, Nat.reduceLT, Nat.reduceAdd, Nat.reduceMul, Nat.reduceSub, Nat.reduceLeDiff, Nat.reduceEqDiff, Int.reduceToNat, Int.reduceLT, Int.reduceLE, Int.reduceAdd, Int.reduceSub, Int.reduceEq, reduceIte, Nat.reduceBNe, Int.reducePow, Nat.reducePow, Int.reduceMul, Int.reduceNeg, isB_i, isB_b, isB_y, isBv_i, isBv_b, eqCells_t, TT]
            have fl := flatG_len (fe_len (es := es))
            have rl := repG_len (z := zeroFr) (sz := 14) rfl rF
            rw [List.length_map] at fl
            refine ⟨⟨by omega, by unfold maxLen; omega, by rw [fl, rl]; omega, fun hh => ⟨RF.own (by rw [List.length_map]; omega), by rw [fl, rl]; omega⟩⟩, ?_⟩
            refine FrL.push (e := ⟨q, wq, z, o2⟩) FL RF hiF rfl rfl B4.1 hq4 ho2 lHw (fun a ha => by have := hew a ha; show a.w ≠ wq; omega) ?_
            intro F5 sc2 FL2 B45
            have tf : (nicB s1 c).ty ≠ 40 := nic_tys.1
            have hn5 := (B45.2 n l4 (ty_ne hn4 hRF tf)).trans hn4
            have P5 := P4.but B45 ⟨ty_ne P4.hc hRF (by show (73 : Nat) ≠ 40; decide), ty_ne P4.h1 hRF (by show (76 : Nat) ≠ 40; decide), ty_ne P4.h2 hRF (by show (76 : Nat) ≠ 40; decide)⟩
            have B5 : But H F5 (XN5 c w1 w2 n) := ⟨Nat.le_trans B4.1 B45.1, fun i hi hx => (B45.2 i (by have := B4.1; omega) (by omega)).trans (B4.2 i hi hx)⟩
            have l6 := lt_of hn5
            obtain ⟨es2, hes2⟩ : ∃ es2 : List FE, es2 = es ++ [⟨q, wq, z, o2⟩] := ⟨_, rfl⟩
            have hdn2 : es2.map FE.f = done ++ pollO k1 s1 := by rw [hes2, hpo, List.map_append, hdn]; rfl
            have hfr2 : es2.length ≤ es.length + 1 := by rw [hes2]; simp
            rw [← hes2] at FL2
            simp (maxSteps := 4000000) only [Try.results14, hn5, l6, XX, Nat.reduceBEq, Nat.reduceLT, Nat.reduceAdd, Nat.reduceMul, Nat.reduceSub, Nat.reduceLeDiff, Nat.reduceEqDiff, Int.reduceToNat, Int.reduceLT, Int.reduceLE, Int.reduceAdd, Int.reduceSub, Int.reduceEq, reduceIte, Nat.reduceBNe, Int.reducePow, Nat.reducePow, Int.reduceMul, Int.reduceNeg, isB_i, isB_b, isB_y, isBv_i, isBv_b, eqCells_t, TT]
            obtain ⟨s2, hs2⟩ : ∃ s2 : NS, s2 = { s1 with tk := incW s1.tk } := ⟨_, rfl⟩
            have hps : pollS k1 s1 = { s2 with r := (s1.r + 1) % k1.rx.length } := by rw [hs2]; unfold pollS; rw [hmq]; rfl
            have tS : ¬ tyF (nicB s1 c).ty := fun h => h.elim nic_tys.1 nic_tys.2.2
            refine gen_draw (fun F6 => F6[n]? = some (nicB s2 c) ∧ PC F6 c w1 w2 k1 ∧ FrL F6 H.length sc2 es2 ∧ But H F6 (XN5 c w1 w2 n)) ⟨by rw [hs2]; exact List.getElem?_set_self l6, P5.setn n1 n2 n3, FL2.keep (KT.set hn5 tS), B5.set (.inr (.inr (.inr rfl))) _⟩ ?_
            have r2 : s2.r = s1.r := by rw [hs2]
            clear hs2 hn5 P5 FL2 B5 l6 FL hn4 P4 B4 hq4 hb4 mx my hok lx ly mi hqm
            rintro F6 ⟨hn6, P6, FL6, B6⟩
            have l6 := lt_of hn6
            obtain ⟨ox, mx⟩ : ∃ o, (maskL [n] 0 F6)[n]? = some ⟨o, 80, (nicB s2 c).cells⟩ := maskL_at hn6
            have hok := kept_cons hn6 rfl kept_nil
            have lx := lt_of mx
            refine draw_of cx_ok (by kernel_rfl) 400 [n] [(0, true), (1, true), (2, true), (3, true), (4, true), (5, true), (6, true), (7, true), (8, false)] (by kernel_rfl) (by first | exact hok | simp [*]) ?_
            simp (maxSteps := 4000000) only [Try.results14, hn6, mx, l6, lx, XX, Nat.reduceBEq, Nat.reduceLT, Nat.reduceAdd, Nat.reduceMul, Nat.reduceSub, Nat.reduceLeDiff, Nat.reduceEqDiff, Int.reduceToNat, Int.reduceLT, Int.reduceLE, Int.reduceAdd, Int.reduceSub, Int.reduceEq, reduceIte, Nat.reduceBNe, Int.reducePow, Nat.reducePow, Int.reduceMul, Int.reduceNeg, isB_i, isB_b, isB_y, isBv_i, isBv_b, eqCells_t, TT]
            rw [r2]
            refine call_is ((P6.mask (not1 n1) (not1 n2) (not1 n3)).give ok1 s1.r) ?_
            rintro _ _ ⟨rfl, rfl⟩
            simp (maxSteps := 4000000) only [Try.results14, unL_setC0 (not1 n1) (not1 n2) (not1 n3), XX, Nat.reduceBEq, Nat.reduceLT, Nat.reduceAdd, Nat.reduceMul, Nat.reduceSub, Nat.reduceLeDiff, Nat.reduceEqDiff, Int.reduceToNat, Int.reduceLT, Int.reduceLE, Int.reduceAdd, Int.reduceSub, Int.reduceEq, reduceIte, Nat.reduceBNe, Int.reducePow, Nat.reducePow, Int.reduceMul, Int.reduceNeg, isB_i, isB_b, isB_y, isBv_i, isBv_b, eqCells_t, TT]
            have Pg := P6.set (givK k1 s1.r)
            have hg : (setC F6 c w1 w2 (givK k1 s1.r))[n]? = some (nicB s2 c) := by rw [setC_off n1 n2 n3]; exact hn6
            have FLg := FL6.keep (KT.setC (p := tyF) (k' := givK k1 s1.r) P6 (by decide) (by decide))
            have Bg : But H (setC F6 c w1 w2 (givK k1 s1.r)) (XN5 c w1 w2 n) := B6.trans (setC_but _ _ _ _ _ (.inl rfl) (.inr (.inl rfl)) (.inr (.inr (.inl rfl))))
            generalize setC F6 c w1 w2 (givK k1 s1.r) = F7 at *
            have l7 := lt_of hg
            have nx := next_spec s1.r k.rx.length (by rw [← hrx]; exact os1.r) ok.rx1
            simp (maxSteps := 4000000) only [Try.results14, hg, l7, XX, Nat.reduceBEq, Nat.reduceLT, Nat.reduceAdd, Nat.reduceMul, Nat.reduceSub, Nat.reduceLeDiff, Nat.reduceEqDiff, Int.reduceToNat, Int.reduceLT, Int.reduceLE, Int.reduceAdd, Int.reduceSub, Int.reduceEq, reduceIte, Nat.reduceBNe, Int.reducePow, Nat.reducePow, Int.reduceMul, Int.reduceNeg, isB_i, isB_b, isB_y, isBv_i, isBv_b, eqCells_t, TT]
            rw [r2]
            refine call_pureF [.c (i64 s1.r), .c (i64 k.rx.length)] nx ⟨.inl ⟨rfl, rfl⟩, .inl ⟨rfl, rfl⟩, trivial⟩ ?_
            rintro _ rfl
            have eb : IntKind.i64.wrap (b - 1) = b - 1 := by rw [w64] <;> omega
            simp (maxSteps := 4000000) only [Try.results14, hg, l7, eb, XX, Nat.reduceBEq, Nat.reduceLT, Nat.reduceAdd, Nat.reduceMul, Nat.reduceSub, Nat.reduceLeDiff, Nat.reduceEqDiff, Int.reduceToNat, Int.reduceLT, Int.reduceLE, Int.reduceAdd, Int.reduceSub, Int.reduceEq, reduceIte, Nat.reduceBNe, Int.reducePow, Nat.reducePow, Int.reduceMul, Int.reduceNeg, isB_i, isB_b, isB_y, isBv_i, isBv_b, eqCells_t, TT]
            have hgv := frN_give os1.r hcf
            obtain ⟨q1, q2⟩ := givK_len k1 s1.r
            have tS2 : ¬ tyF (nicB s2 c).ty := fun h => h.elim nic_tys.1 nic_tys.2.2
            refine ⟨(b - 1).toNat, by omega, _, ⟨b - 1, _, givK k1 s1.r, pollS k1 s1, sc2, es2, done ++ pollO k1 s1, rfl, by omega, by omega, by rw [show (b - 1).toNat = b.toNat - 1 by omega]; exact hI2, hdn2, FLg.keep (KT.set hg tS2), Pg.setn n1 n2 n3, givK_ok k1 ok1 _, pollS_ok ok1 os1, by rw [q1]; exact hrx, by omega, ?_, Bg.set (.inr (.inr (.inr rfl))) _, rfl⟩, .inl ⟨rfl, rfl, rfl, rfl, rfl, rfl, trivial⟩⟩
            rw [List.getElem?_set_self l7, hps, hrx]
        · have hmf : mineB s1.mac q.d q.s = false := by simpa using hm
          rw [hmf] at hmq ⊢
          rw [de] at hmq
          simp (maxSteps := 4000000) only [Try.results14, unL_maskL, hn4, l4, XX, Nat.reduceBEq, Nat.reduceLT, Nat.reduceAdd, Nat.reduceMul, Nat.reduceSub, Nat.reduceLeDiff, Nat.reduceEqDiff, Int.reduceToNat, Int.reduceLT, Int.reduceLE, Int.reduceAdd, Int.reduceSub, Int.reduceEq, reduceIte, Nat.reduceBNe, Int.reducePow, Nat.reducePow, Int.reduceMul, Int.reduceNeg, isB_i, isB_b, isB_y, isBv_i, isBv_b, eqCells_t, TT]
          replace hmq : minQ k1 s1 = false := hmq
          obtain ⟨s2, hs2⟩ : ∃ s2 : NS, s2 = { s1 with th := incW s1.th } := ⟨_, rfl⟩
          have hps : pollS k1 s1 = { s2 with r := (s1.r + 1) % k1.rx.length } := by rw [hs2]; unfold pollS; rw [hmq]; rfl
          have hn5 := hn4
          have P5 := P4
          have B5 := B4
          have l6 := l4
          have FL2 := FL
          have hdn2 : es.map FE.f = done ++ pollO k1 s1 := by rw [hdn, hpo, hmq, if_neg (by decide), List.append_nil]
          obtain ⟨es2, hes2⟩ : ∃ es2, es2 = es := ⟨_, rfl⟩
          obtain ⟨sc2, hsc2⟩ : ∃ sc2, sc2 = sc := ⟨_, rfl⟩
          rw [← hes2, ← hsc2] at FL2
          rw [← hes2] at hdn2
          rw [← hsc2]
          have hfr2 : es2.length ≤ es.length + 1 := by rw [hes2]; omega
          have tS : ¬ tyF (nicB s1 c).ty := fun h => h.elim nic_tys.1 nic_tys.2.2
          refine gen_draw (fun F6 => F6[n]? = some (nicB s2 c) ∧ PC F6 c w1 w2 k1 ∧ FrL F6 H.length sc2 es2 ∧ But H F6 (XN5 c w1 w2 n)) ⟨by rw [hs2]; exact List.getElem?_set_self l6, P5.setn n1 n2 n3, FL2.keep (KT.set hn5 tS), B5.set (.inr (.inr (.inr rfl))) _⟩ ?_
          have r2 : s2.r = s1.r := by rw [hs2]
          clear hs2 hn5 P5 FL2 B5 l6 FL hn4 P4 B4 hq4 hb4 mx my hok lx ly mi hqm
          rintro F6 ⟨hn6, P6, FL6, B6⟩
          have l6 := lt_of hn6
          obtain ⟨ox, mx⟩ : ∃ o, (maskL [n] 0 F6)[n]? = some ⟨o, 80, (nicB s2 c).cells⟩ := maskL_at hn6
          have hok := kept_cons hn6 rfl kept_nil
          have lx := lt_of mx
          refine draw_of cx_ok (by kernel_rfl) 400 [n] [(0, true), (1, true), (2, true), (3, true), (4, true), (5, true), (6, true), (7, true), (8, false)] (by kernel_rfl) (by first | exact hok | simp [*]) ?_
          simp (maxSteps := 4000000) only [Try.results14, hn6, mx, l6, lx, XX, Nat.reduceBEq, Nat.reduceLT, Nat.reduceAdd, Nat.reduceMul, Nat.reduceSub, Nat.reduceLeDiff, Nat.reduceEqDiff, Int.reduceToNat, Int.reduceLT, Int.reduceLE, Int.reduceAdd, Int.reduceSub, Int.reduceEq, reduceIte, Nat.reduceBNe, Int.reducePow, Nat.reducePow, Int.reduceMul, Int.reduceNeg, isB_i, isB_b, isB_y, isBv_i, isBv_b, eqCells_t, TT]
          rw [r2]
          refine call_is ((P6.mask (not1 n1) (not1 n2) (not1 n3)).give ok1 s1.r) ?_
          rintro _ _ ⟨rfl, rfl⟩
          simp (maxSteps := 4000000) only [Try.results14, unL_setC0 (not1 n1) (not1 n2) (not1 n3), XX, Nat.reduceBEq, Nat.reduceLT, Nat.reduceAdd, Nat.reduceMul, Nat.reduceSub, Nat.reduceLeDiff, Nat.reduceEqDiff, Int.reduceToNat, Int.reduceLT, Int.reduceLE, Int.reduceAdd, Int.reduceSub, Int.reduceEq, reduceIte, Nat.reduceBNe, Int.reducePow, Nat.reducePow, Int.reduceMul, Int.reduceNeg, isB_i, isB_b, isB_y, isBv_i, isBv_b, eqCells_t, TT]
          have Pg := P6.set (givK k1 s1.r)
          have hg : (setC F6 c w1 w2 (givK k1 s1.r))[n]? = some (nicB s2 c) := by rw [setC_off n1 n2 n3]; exact hn6
          have FLg := FL6.keep (KT.setC (p := tyF) (k' := givK k1 s1.r) P6 (by decide) (by decide))
          have Bg : But H (setC F6 c w1 w2 (givK k1 s1.r)) (XN5 c w1 w2 n) := B6.trans (setC_but _ _ _ _ _ (.inl rfl) (.inr (.inl rfl)) (.inr (.inr (.inl rfl))))
          generalize setC F6 c w1 w2 (givK k1 s1.r) = F7 at *
          have l7 := lt_of hg
          have nx := next_spec s1.r k.rx.length (by rw [← hrx]; exact os1.r) ok.rx1
          simp (maxSteps := 4000000) only [Try.results14, hg, l7, XX, Nat.reduceBEq, Nat.reduceLT, Nat.reduceAdd, Nat.reduceMul, Nat.reduceSub, Nat.reduceLeDiff, Nat.reduceEqDiff, Int.reduceToNat, Int.reduceLT, Int.reduceLE, Int.reduceAdd, Int.reduceSub, Int.reduceEq, reduceIte, Nat.reduceBNe, Int.reducePow, Nat.reducePow, Int.reduceMul, Int.reduceNeg, isB_i, isB_b, isB_y, isBv_i, isBv_b, eqCells_t, TT]
          rw [r2]
          refine call_pureF [.c (i64 s1.r), .c (i64 k.rx.length)] nx ⟨.inl ⟨rfl, rfl⟩, .inl ⟨rfl, rfl⟩, trivial⟩ ?_
          rintro _ rfl
          have eb : IntKind.i64.wrap (b - 1) = b - 1 := by rw [w64] <;> omega
          simp (maxSteps := 4000000) only [Try.results14, hg, l7, eb, XX, Nat.reduceBEq, Nat.reduceLT, Nat.reduceAdd, Nat.reduceMul, Nat.reduceSub, Nat.reduceLeDiff, Nat.reduceEqDiff, Int.reduceToNat, Int.reduceLT, Int.reduceLE, Int.reduceAdd, Int.reduceSub, Int.reduceEq, reduceIte, Nat.reduceBNe, Int.reducePow, Nat.reducePow, Int.reduceMul, Int.reduceNeg, isB_i, isB_b, isB_y, isBv_i, isBv_b, eqCells_t, TT]
          have hgv := frN_give os1.r hcf
          obtain ⟨q1, q2⟩ := givK_len k1 s1.r
          have tS2 : ¬ tyF (nicB s2 c).ty := fun h => h.elim nic_tys.1 nic_tys.2.2
          refine ⟨(b - 1).toNat, by omega, _, ⟨b - 1, _, givK k1 s1.r, pollS k1 s1, sc2, es2, done ++ pollO k1 s1, rfl, by omega, by omega, by rw [show (b - 1).toNat = b.toNat - 1 by omega]; exact hI2, hdn2, FLg.keep (KT.set hg tS2), Pg.setn n1 n2 n3, givK_ok k1 ok1 _, pollS_ok ok1 os1, by rw [q1]; exact hrx, by omega, ?_, Bg.set (.inr (.inr (.inr rfl))) _, rfl⟩, .inl ⟨rfl, rfl, rfl, rfl, rfl, rfl, trivial⟩⟩
          rw [List.getElem?_set_self l7, hps, hrx]
      · have de : decide (q.e = 0) = false := by simpa using he
        refine draw_of cx_ok (by kernel_rfl) 400 [n, wq + 1] [(0, true), (1, true), (2, true), (3, true), (4, true), (5, true), (6, true), (7, true), (8, false), (9, true)] (by kernel_rfl) (by first | exact hok | simp [*]) ?_
        simp (maxSteps := 4000000) only [Try.results14, hn4, hb4, mx, my, lx, ly, l4, l5, de, XX, Nat.reduceBEq, Nat.reduceLT, Nat.reduceAdd, Nat.reduceMul, Nat.reduceSub, Nat.reduceLeDiff, Nat.reduceEqDiff, Int.reduceToNat, Int.reduceLT, Int.reduceLE, Int.reduceAdd, Int.reduceSub, Int.reduceEq, reduceIte, Nat.reduceBNe, Int.reducePow, Nat.reducePow, Int.reduceMul, Int.reduceNeg, isB_i, isB_b, isB_y, isBv_i, isBv_b, eqCells_t, TT]
        rw [de] at hmq
        simp (maxSteps := 4000000) only [Try.results14, unL_maskL, hn4, l4, XX, Nat.reduceBEq, Nat.reduceLT, Nat.reduceAdd, Nat.reduceMul, Nat.reduceSub, Nat.reduceLeDiff, Nat.reduceEqDiff, Int.reduceToNat, Int.reduceLT, Int.reduceLE, Int.reduceAdd, Int.reduceSub, Int.reduceEq, reduceIte, Nat.reduceBNe, Int.reducePow, Nat.reducePow, Int.reduceMul, Int.reduceNeg, isB_i, isB_b, isB_y, isBv_i, isBv_b, eqCells_t, TT]
        replace hmq : minQ k1 s1 = false := hmq
        obtain ⟨s2, hs2⟩ : ∃ s2 : NS, s2 = { s1 with th := incW s1.th } := ⟨_, rfl⟩
        have hps : pollS k1 s1 = { s2 with r := (s1.r + 1) % k1.rx.length } := by rw [hs2]; unfold pollS; rw [hmq]; rfl
        have hn5 := hn4
        have P5 := P4
        have B5 := B4
        have l6 := l4
        have FL2 := FL
        have hdn2 : es.map FE.f = done ++ pollO k1 s1 := by rw [hdn, hpo, hmq, if_neg (by decide), List.append_nil]
        obtain ⟨es2, hes2⟩ : ∃ es2, es2 = es := ⟨_, rfl⟩
        obtain ⟨sc2, hsc2⟩ : ∃ sc2, sc2 = sc := ⟨_, rfl⟩
        rw [← hes2, ← hsc2] at FL2
        rw [← hes2] at hdn2
        rw [← hsc2]
        have hfr2 : es2.length ≤ es.length + 1 := by rw [hes2]; omega
        have tS : ¬ tyF (nicB s1 c).ty := fun h => h.elim nic_tys.1 nic_tys.2.2
        refine gen_draw (fun F6 => F6[n]? = some (nicB s2 c) ∧ PC F6 c w1 w2 k1 ∧ FrL F6 H.length sc2 es2 ∧ But H F6 (XN5 c w1 w2 n)) ⟨by rw [hs2]; exact List.getElem?_set_self l6, P5.setn n1 n2 n3, FL2.keep (KT.set hn5 tS), B5.set (.inr (.inr (.inr rfl))) _⟩ ?_
        have r2 : s2.r = s1.r := by rw [hs2]
        clear hs2 hn5 P5 FL2 B5 l6 FL hn4 P4 B4 hq4 hb4 mx my hok lx ly mi hqm
        rintro F6 ⟨hn6, P6, FL6, B6⟩
        have l6 := lt_of hn6
        obtain ⟨ox, mx⟩ : ∃ o, (maskL [n] 0 F6)[n]? = some ⟨o, 80, (nicB s2 c).cells⟩ := maskL_at hn6
        have hok := kept_cons hn6 rfl kept_nil
        have lx := lt_of mx
        refine draw_of cx_ok (by kernel_rfl) 400 [n] [(0, true), (1, true), (2, true), (3, true), (4, true), (5, true), (6, true), (7, true), (8, false)] (by kernel_rfl) (by first | exact hok | simp [*]) ?_
        simp (maxSteps := 4000000) only [Try.results14, hn6, mx, l6, lx, XX, Nat.reduceBEq, Nat.reduceLT, Nat.reduceAdd, Nat.reduceMul, Nat.reduceSub, Nat.reduceLeDiff, Nat.reduceEqDiff, Int.reduceToNat, Int.reduceLT, Int.reduceLE, Int.reduceAdd, Int.reduceSub, Int.reduceEq, reduceIte, Nat.reduceBNe, Int.reducePow, Nat.reducePow, Int.reduceMul, Int.reduceNeg, isB_i, isB_b, isB_y, isBv_i, isBv_b, eqCells_t, TT]
        rw [r2]
        refine call_is ((P6.mask (not1 n1) (not1 n2) (not1 n3)).give ok1 s1.r) ?_
        rintro _ _ ⟨rfl, rfl⟩
        simp (maxSteps := 4000000) only [Try.results14, unL_setC0 (not1 n1) (not1 n2) (not1 n3), XX, Nat.reduceBEq, Nat.reduceLT, Nat.reduceAdd, Nat.reduceMul, Nat.reduceSub, Nat.reduceLeDiff, Nat.reduceEqDiff, Int.reduceToNat, Int.reduceLT, Int.reduceLE, Int.reduceAdd, Int.reduceSub, Int.reduceEq, reduceIte, Nat.reduceBNe, Int.reducePow, Nat.reducePow, Int.reduceMul, Int.reduceNeg, isB_i, isB_b, isB_y, isBv_i, isBv_b, eqCells_t, TT]
        have Pg := P6.set (givK k1 s1.r)
        have hg : (setC F6 c w1 w2 (givK k1 s1.r))[n]? = some (nicB s2 c) := by rw [setC_off n1 n2 n3]; exact hn6
        have FLg := FL6.keep (KT.setC (p := tyF) (k' := givK k1 s1.r) P6 (by decide) (by decide))
        have Bg : But H (setC F6 c w1 w2 (givK k1 s1.r)) (XN5 c w1 w2 n) := B6.trans (setC_but _ _ _ _ _ (.inl rfl) (.inr (.inl rfl)) (.inr (.inr (.inl rfl))))
        generalize setC F6 c w1 w2 (givK k1 s1.r) = F7 at *
        have l7 := lt_of hg
        have nx := next_spec s1.r k.rx.length (by rw [← hrx]; exact os1.r) ok.rx1
        simp (maxSteps := 4000000) only [Try.results14, hg, l7, XX, Nat.reduceBEq, Nat.reduceLT, Nat.reduceAdd, Nat.reduceMul, Nat.reduceSub, Nat.reduceLeDiff, Nat.reduceEqDiff, Int.reduceToNat, Int.reduceLT, Int.reduceLE, Int.reduceAdd, Int.reduceSub, Int.reduceEq, reduceIte, Nat.reduceBNe, Int.reducePow, Nat.reducePow, Int.reduceMul, Int.reduceNeg, isB_i, isB_b, isB_y, isBv_i, isBv_b, eqCells_t, TT]
        rw [r2]
        refine call_pureF [.c (i64 s1.r), .c (i64 k.rx.length)] nx ⟨.inl ⟨rfl, rfl⟩, .inl ⟨rfl, rfl⟩, trivial⟩ ?_
        rintro _ rfl
        have eb : IntKind.i64.wrap (b - 1) = b - 1 := by rw [w64] <;> omega
        simp (maxSteps := 4000000) only [Try.results14, hg, l7, eb, XX, Nat.reduceBEq, Nat.reduceLT, Nat.reduceAdd, Nat.reduceMul, Nat.reduceSub, Nat.reduceLeDiff, Nat.reduceEqDiff, Int.reduceToNat, Int.reduceLT, Int.reduceLE, Int.reduceAdd, Int.reduceSub, Int.reduceEq, reduceIte, Nat.reduceBNe, Int.reducePow, Nat.reducePow, Int.reduceMul, Int.reduceNeg, isB_i, isB_b, isB_y, isBv_i, isBv_b, eqCells_t, TT]
        have hgv := frN_give os1.r hcf
        obtain ⟨q1, q2⟩ := givK_len k1 s1.r
        have tS2 : ¬ tyF (nicB s2 c).ty := fun h => h.elim nic_tys.1 nic_tys.2.2
        refine ⟨(b - 1).toNat, by omega, _, ⟨b - 1, _, givK k1 s1.r, pollS k1 s1, sc2, es2, done ++ pollO k1 s1, rfl, by omega, by omega, by rw [show (b - 1).toNat = b.toNat - 1 by omega]; exact hI2, hdn2, FLg.keep (KT.set hg tS2), Pg.setn n1 n2 n3, givK_ok k1 ok1 _, pollS_ok ok1 os1, by rw [q1]; exact hrx, by omega, ?_, Bg.set (.inr (.inr (.inr rfl))) _, rfl⟩, .inl ⟨rfl, rfl, rfl, rfl, rfl, rfl, trivial⟩⟩
        rw [List.getElem?_set_self l7, hps, hrx]
  · have d1 : decide (0 < b) = false := by simpa using hpos
    have hst := hI.stop (.inl (by omega))
    simp (maxSteps := 4000000) only [Try.results14, d1, XX, Nat.reduceBEq, Nat.reduceLT, Nat.reduceAdd, Nat.reduceMul, Nat.reduceSub, Nat.reduceLeDiff, Nat.reduceEqDiff, Int.reduceToNat, Int.reduceLT, Int.reduceLE, Int.reduceAdd, Int.reduceSub, Int.reduceEq, reduceIte, Nat.reduceBNe, Int.reducePow, Nat.reducePow, Int.reduceMul, Int.reduceNeg, isB_i, isB_b, isB_y, isBv_i, isBv_b, eqCells_t, TT]
    rw [hst]
    exact ⟨_, es, rfl, hF, hdn, PF, hn1, bF⟩
end Go.Proofs.Ythbojoiogjdbeaa.Sx
namespace Go.Proofs.Ythbojoiogjdbeaa.Sx
open Go
set_option linter.unusedSimpArgs false
set_option linter.unusedVariables false
theorem Spec.void {P : Program} {f : FuncId} {args : List SV} {h : List SB} {K K' : SV → List SB → Prop} (s : Spec P f args h K) (ty : TypeId)
    (hk : ∀ t h', K t h' → K' t h' ∨ ∃ t3, (∀ ρ y, t.rel ρ y → t3.rel ρ y) ∧ K' t3 (h' ++ [⟨false, ty, []⟩])) : Spec P f args h K' := by
  refine ⟨s.1, fun ρ w vs M hl hr => (s.2 ρ w vs M hl hr).mono ?_⟩
  rintro e w' ⟨y, t, h', ρ', rfl, st, hrel, hK⟩
  rcases hk t h' hK with h1 | ⟨t3, h1, h2⟩
  · exact ⟨y, t, h', ρ', rfl, st, hrel, h1⟩
  have n' := st.models.n
  have ln := st.le.h1
  let ρ2 : Rho := { ρ' with n := ρ'.n + 1, f := fun i => if i = ρ'.n then (w'.heap.size, 0) else ρ'.f i }
  have fe : ∀ i, i < ρ'.n → ρ2.f i = ρ'.f i := fun i hi => if_neg (by omega)
  have le2 : ρ'.le ρ2 := ⟨Nat.le_succ _, fe, rfl, rfl⟩
  have old : ∀ (i : Nat) (b : SB), (h' ++ [(⟨false, ty, []⟩ : SB)])[i]? = some b → (i < ρ'.n ∧ h'[i]? = some b) ∨ (i = ρ'.n ∧ b = ⟨false, ty, []⟩) := fun i b hb => by
    rcases Nat.lt_or_ge i h'.length with hi | hi
    · rw [List.getElem?_append_left hi] at hb
      exact .inl ⟨by omega, hb⟩
    · rw [List.getElem?_append_right hi] at hb
      have : i - h'.length = 0 := by have := (List.getElem?_eq_some_iff.1 hb).1; simpa using this
      rw [this] at hb
      cases hb
      exact .inr ⟨by omega, rfl⟩
  have m := st.models
  have sz : w.heap.size ≤ w'.heap.size := st.ext.size
  have mo : Models (h' ++ [⟨false, ty, []⟩]) ρ2 w' := by
    refine ⟨by show ρ'.n + 1 = _; rw [List.length_append, n']; rfl, fun i b hb ho => ?_, fun i b hb j c hc => ?_, fun i j bi bj hij hi hj ho hv => ?_, fun i b hb hv => ?_, m.zone, fun k i b hz hb ho => ?_⟩
    · rcases old i b hb with ⟨hi, hb'⟩ | ⟨_, rfl⟩
      · obtain ⟨g1, cs, g2, g3⟩ := m.own i b hb' ho
        rw [fe i hi]
        exact ⟨g1, cs, g2, g3.1, fun j c y hc hy => SC.rel_le le2 (g3.2 j c y hc hy)⟩
      · cases ho
    · rcases old i b hb with ⟨hi, hb'⟩ | ⟨_, rfl⟩
      · obtain ⟨y, g1, g2⟩ := m.ro i b hb' j c hc
        exact ⟨y, by unfold Rho.at at g1 ⊢; rw [fe i hi]; exact g1, SC.rel_le le2 g2⟩
      · simp at hc
    · rcases old i bi hi with ⟨hi1, hi2⟩ | ⟨_, rfl⟩
      · rcases old j bj hj with ⟨hj1, hj2⟩ | ⟨_, rfl⟩
        · rw [fe i hi1, fe j hj1]
          exact m.sep i j bi bj hij hi2 hj2 ho hv
        · cases hv
      · cases ho
    · rcases old i b hb with ⟨hi, hb'⟩ | ⟨_, rfl⟩
      · rw [fe i hi]; exact m.lt i b hb' hv
      · cases hv
    · rcases old i b hb with ⟨hi, hb'⟩ | ⟨_, rfl⟩
      · rw [fe i hi]; exact m.zsep k i b hz hb' ho
      · cases ho
  refine ⟨y, t3, _, ρ2, rfl, ⟨⟨by have := st.le.h1; show _ ≤ ρ'.n + 1; omega, fun i hi => (fe i (by omega)).trans (st.le.h2 i hi), st.le.h3, st.le.h4⟩, mo, fun i hi1 hi2 => ?_, st.ext, fun i b hi hb ho => ?_, fun i b hi hb hv => ?_⟩, h1 _ _ (SV.rel_le le2 hrel), h2⟩
  · by_cases hi : i = ρ'.n
    · show w.heap.size ≤ (if i = ρ'.n then (w'.heap.size, 0) else ρ'.f i).1
      rw [if_pos hi]; exact sz
    · rw [fe i (by have : i < ρ'.n + 1 := hi2; omega)]
      exact st.fresh i hi1 (by have : i < ρ'.n + 1 := hi2; omega)
  · rcases old i b hb with ⟨_, hb'⟩ | ⟨_, rfl⟩
    · exact st.flags i b hi hb' ho
    · cases ho
  · rcases old i b hb with ⟨_, hb'⟩ | ⟨_, rfl⟩
    · exact st.nonv i b hi hb' hv
    · cases hv
theorem nil_rel {i o : Nat} {e : Int} {k : IntKind} : ∀ (ρ : Rho) (y : Value), (SV.tup [(false, [.v (.slice none 0 0)]), (false, [.v (.int k e)])]).rel ρ y → (SV.tup [(false, [.sl i o 0 0]), (false, [.v (.int k e)])]).rel ρ y := by
  rintro ρ y ⟨ys, rfl, hl, hr⟩
  refine ⟨ys, rfl, hl, fun j c z hc hz => ?_⟩
  match j, hc with
  | 0, hc =>
    cases hc
    obtain ⟨h1, _⟩ := hr 0 _ z rfl hz
    exact .inl ⟨rfl, rfl, none, h1⟩
  | 1, hc =>
    cases hc
    exact hr 1 _ z rfl hz
end Go.Proofs.Ythbojoiogjdbeaa.Sx
namespace Go.Proofs.Ythbojoiogjdbeaa.Sx
open Go
set_option linter.unusedSimpArgs false
set_option linter.unusedVariables false
set_option maxRecDepth 10000
set_option maxHeartbeats 8000000
theorem gen_hp {xn : XN} {k : List KI} {nm : NB} {tm : List (Nat × SV)} {hp : List SB} {Q : XE → St → Prop} (p : List SB → Prop) (h0 : p hp) (h : ∀ H, p H → xn k ⟨nm, tm, H⟩ Q) : xn k ⟨nm, tm, hp⟩ Q := h hp h0
theorem gen_call {P : Program} {xn : XN} {f : FuncId} {args : List SV} {dst : Option Tmp} {k : List KI} {nm : NB} {tm : List (Nat × SV)} {hp : List SB} {Q : XE → St → Prop} (p : List SB → Prop) (h0 : p hp) (h : ∀ H, p H → CallGoal P xn f args dst k ⟨nm, tm, H⟩ Q) : CallGoal P xn f args dst k ⟨nm, tm, hp⟩ Q := h hp h0
theorem DX.but {S : Nat → Prop} {H H' : List SB} {x : SC} {d : List UInt8} (D : DX S H x d) (K : But H H' (fun _ => False)) : DX S H' x d := D.keep fun i b hi _ => by rw [K.2 i (lt_of hi) fun h => h]; exact hi
theorem But.get {H H' : List SB} {p : Nat → Prop} (K : But H H' p) {i : Nat} {b : SB} (hi : H[i]? = some b) (hp : ¬ p i) : H'[i]? = some b := by rw [K.2 i (lt_of hi) hp]; exact hi
abbrev Nop : Nat → Prop := fun _ => False
theorem But.new {H : List SB} (Y : List SB) : But H (H ++ Y) Nop := (But.rfl' _ _).app _
theorem RSx.new {S : Nat → Prop} {H H' : List SB} {rc rr rt : Nat} {k : CK} (R : RSx S H rc rr rt k) (K : But H H' Nop) : RSx S H' rc rr rt k := R.but K fun _ _ _ h => h.elim
theorem PC.new {H H' : List SB} {c w1 w2 : Nat} {k : CK} (P : PC H c w1 w2 k) (K : But H H' Nop) : PC H' c w1 w2 k := P.but K ⟨fun h => h, fun h => h, fun h => h⟩
end Go.Proofs.Ythbojoiogjdbeaa.Sx
namespace Go.Proofs.Ythbojoiogjdbeaa.Sx
open Go
set_option linter.unusedSimpArgs false
set_option linter.unusedVariables false
set_option maxRecDepth 10000
set_option maxHeartbeats 8000000
structure Q5 (S : Nat → Prop) (G : List SB) (c w1 w2 n rc rr rt m bk : Nat) (k kr : CK) (s sr : NS) (es : List OE) : Prop where
  J : J4 S G c w1 w2 rc rr rt bk k kr es
  hn : G[n]? = some (nicB s c)
  hm : G[m]? = some (rnicB sr rc)
def tyQ (t : TypeId) : Prop := tyP t ∨ t = 80 ∨ t = 100
section
variable {S : Nat → Prop} {G h' : List SB} {c w1 w2 n rc rr rt m bk : Nat} {k kr k' : CK} {s sr s' : NS} {es : List OE}
theorem Q5.keep {G' : List SB} (q : Q5 S G c w1 w2 n rc rr rt m bk k kr s sr es) (hl : G.length ≤ G'.length) (K : ∀ (i : Nat) (b : SB), G[i]? = some b → tyQ b.ty → G'[i]? = some b) : Q5 S G' c w1 w2 n rc rr rt m bk k kr s sr es :=
  ⟨q.J.keep hl fun i b hi ht => K i b hi (.inl ht), K _ _ q.hn (.inr (.inl rfl)), K _ _ q.hm (.inr (.inr rfl))⟩
theorem Q5.new (q : Q5 S G c w1 w2 n rc rr rt m bk k kr s sr es) (B : But G h' Nop) : Q5 S h' c w1 w2 n rc rr rt m bk k kr s sr es :=
  q.keep B.1 fun i b hi _ => B.get hi fun h => h
theorem Q5.mask {L : List Nat} (q : Q5 S G c w1 w2 n rc rr rt m bk k kr s sr es) (hL : ∀ i, L.contains i = true → ∃ b : SB, G[i]? = some b ∧ ¬ tyQ b.ty) : Q5 S (maskL L 0 G) c w1 w2 n rc rr rt m bk k kr s sr es :=
  q.keep (by rw [maskL_len]; exact Nat.le_refl _) fun i b hi ht => by
    cases hc : L.contains i with
    | false => rw [mask_off hc]; exact hi
    | true =>
      obtain ⟨b', h1, h2⟩ := hL i hc
      rw [hi] at h1
      cases h1
      exact absurd ht h2
theorem xn_ty (P : PC G c w1 w2 k) (hn : G[n]? = some (nicB s c)) {i : Nat} {b : SB} (hi : G[i]? = some b) (h : XN5 c w1 w2 n i) : b.ty = 73 ∨ b.ty = 76 ∨ b.ty = 80 := by
  rcases h with rfl | rfl | rfl | rfl
  · rw [P.hc] at hi; cases hi; exact .inl rfl
  · rw [P.h1] at hi; cases hi; exact .inr (.inl rfl)
  · rw [P.h2] at hi; cases hi; exact .inr (.inl rfl)
  · rw [hn] at hi; cases hi; exact .inr (.inr rfl)
/-- A call at the program's. -/
theorem Q5.prog (q : Q5 S G c w1 w2 n rc rr rt m bk k kr s sr es) (B : But G h' (XN5 c w1 w2 n)) (P' : PC h' c w1 w2 k') (hn' : h'[n]? = some (nicB s' c)) : Q5 (fun i => S i ∨ (G.length ≤ i ∧ i < h'.length)) h' c w1 w2 n rc rr rt m bk k' kr s' sr es := by
  have off : ∀ (i : Nat) (b : SB), G[i]? = some b → b.ty ≠ 73 → b.ty ≠ 76 → b.ty ≠ 80 → h'[i]? = some b := fun i b hi a1 a2 a3 => B.get hi fun h => by
    rcases xn_ty q.J.C q.hn hi h with e | e | e
    · exact a1 e
    · exact a2 e
    · exact a3 e
  have gr : RSx (fun i => S i ∨ (G.length ≤ i ∧ i < h'.length)) G rc rr rt kr := q.J.R.grow fun i hi => hi.elim .inl fun h => .inr h.1
  refine ⟨⟨P', gr.keep fun i b hi h => off i b hi ?_ ?_ ?_, q.J.B.keep fun i b hi h => off i b hi ?_ ?_ ?_, q.J.O.keep' fun i b hi h => off i b hi ?_ ?_ ?_, fun e he => .inl (q.J.sub e he), fun i hi => ?_⟩, hn', off _ _ q.hm ?_ ?_ ?_⟩
  · rcases h with h | h | h <;> rw [h] <;> decide
  · rcases h with h | h | h <;> rw [h] <;> decide
  · rcases h with h | h | h <;> rw [h] <;> decide
  · rcases h with h | h | h <;> rw [h] <;> decide
  · rcases h with h | h | h <;> rw [h] <;> decide
  · rcases h with h | h | h <;> rw [h] <;> decide
  · rw [h]; decide
  · rw [h]; decide
  · rw [h]; decide
  · rcases hi with h | h
    · have := q.J.hS i h; have := B.1; omega
    · exact h.2
  · show (100 : Nat) ≠ _; decide
  · show (100 : Nat) ≠ _; decide
  · show (100 : Nat) ≠ _; decide
/-- A list is taken. -/
theorem Q5.take (q : Q5 S G c w1 w2 n rc rr rt m bk k kr s sr es) (hl : es.length ≤ 4398046511104) (e : OE) (h1 : G[e.w]? = some (wB e.o (e.l ++ e.p))) (h2 : 0 < e.l.length + e.p.length → e.o = true) (h3 : e.l.length ≤ 1514) (h4 : ∀ f ∈ es, f.w ≠ e.w) (h5 : S e.w) :
    Spec cx.P 41 [.c (.ptr bk 0), .c (.sl e.w 0 e.l.length (e.l.length + e.p.length))] G fun t h' => t = .tup [] ∧ Q5 S h' c w1 w2 n rc rr rt m bk k kr s sr (es ++ [e]) ∧ KeepB G h' := by
  refine (takeA_spec q.J.B hl e.w e.l e.p e.o h1 h3).mono fun t h' ⟨g1, g2, g3⟩ => ⟨g1, ⟨q.J.take e h1 h2 (by omega) h4 h5 g2 g3, ?_, ?_⟩, g3⟩
  · exact g3.2 _ _ q.hn (by show (80 : Nat) ≠ _; decide) (by show (80 : Nat) ≠ _; decide) (by show (80 : Nat) ≠ _; decide)
  · exact g3.2 _ _ q.hm (by show (100 : Nat) ≠ _; decide) (by show (100 : Nat) ≠ _; decide) (by show (100 : Nat) ≠ _; decide)
end
end Go.Proofs.Ythbojoiogjdbeaa.Sx
namespace Go.Proofs.Ythbojoiogjdbeaa.Sx
open Go
set_option linter.unusedSimpArgs false
set_option linter.unusedVariables false
set_option maxRecDepth 10000
set_option maxHeartbeats 8000000
/-- One thing that is done. -/
structure OpS where
  k : Int
  i : Int
  l : List UInt8
  sp : List UInt8
  c : Nat
  d : M6
  sk : Int
  l2 : List UInt8
  sp2 : List UInt8
  c2 : Nat
abbrev opC5 (o : OpS) : List SC := [i64 o.k, i64 o.i, roB o.l o.sp o.c, byteC o.d.a, byteC o.d.b, byteC o.d.c, byteC o.d.d, byteC o.d.e, byteC o.d.f, i64 o.sk, roB o.l2 o.sp2 o.c2]
abbrev opB5 (o : OpS) : SB := ⟨true, 37, opC5 o⟩
structure OpS.ok (o : OpS) : Prop where
  k : -9223372036854775808 ≤ o.k ∧ o.k < 9223372036854775808
  i : -9223372036854775808 ≤ o.i ∧ o.i < 9223372036854775808
  c : o.l.length ≤ o.c
  m : o.l.length ≤ 140737488355328
  c2 : o.l2.length ≤ o.c2
  m2 : o.l2.length ≤ 140737488355328
theorem op_tyQ : ¬ tyQ 37 := by unfold tyQ tyP; decide
theorem arrK_fr {k : CK} (ok : k.ok) (b : List UInt8) : frN (arrK k b).rx ≤ frN k.rx + 1 ∧ (arrK k b).rx.length = k.rx.length ∧ (arrK k b).tx.length = k.tx.length := by
  unfold arrK
  split
  · exact ⟨by omega, rfl, rfl⟩
  · split
    · rename_i h1 h2
      refine ⟨?_, List.length_set, rfl⟩
      have hi := ok.rn
      have e1 : k.rx = k.rx.take k.rn ++ (k.rx.getD k.rn noSl :: k.rx.drop (k.rn + 1)) := by
        have h2 : k.rx.getD k.rn noSl = k.rx[k.rn] := by rw [List.getD_eq_getElem?_getD, List.getElem?_eq_getElem hi]; rfl
        rw [h2, ← List.drop_eq_getElem_cons hi, List.take_append_drop]
      dsimp only
      unfold frN
      rw [List.set_eq_take_append_cons_drop, if_pos hi]
      conv => rhs; rw [e1]
      rw [List.countP_append, List.countP_append, List.countP_cons, List.countP_cons]
      split <;> split <;> omega
    · exact ⟨by dsimp only; omega, rfl, rfl⟩
theorem depK_fr (k : CK) : (depK k).rx = k.rx ∧ (depK k).tx.length = k.tx.length := by
  unfold depK
  split
  · exact ⟨rfl, List.length_set⟩
  · exact ⟨rfl, rfl⟩
theorem tyQ_xn {t : TypeId} (h : t = 73 ∨ t = 76 ∨ t = 80) : tyQ t := by
  unfold tyQ tyP
  rcases h with rfl | rfl | rfl <;> decide
section
variable {S : Nat → Prop} {G h' : List SB} {p g c w1 w2 n rc rr rt m bk : Nat} {k kr : CK} {s sr : NS} {es : List OE} {a b : SB}
end
section
variable {S : Nat → Prop} {H : List SB} {p c w1 w2 n rc rr rt m bk : Nat} {k : CK} {s : NS} {es : List OE}
end
end Go.Proofs.Ythbojoiogjdbeaa.Sx
namespace Go.Proofs.Ythbojoiogjdbeaa.Sx
open Go
set_option linter.unusedSimpArgs false
set_option linter.unusedVariables false
set_option maxRecDepth 10000
set_option maxHeartbeats 8000000
section
variable {S : Nat → Prop} {H : List SB} {p c w1 w2 n rc rr rt m bk : Nat} {k : CK} {s : NS} {es : List OE}
/-- A Send whose bytes stand in a window, also where there are none. -/
theorem send5w_spec {H : List SB} {n c w1 w2 : Nat} {k : CK} {s : NS} (P : PC H c w1 w2 k) (ok : k.ok) (hn : H[n]? = some (nicB s c)) (os : s.ok k) (d : M6) (kd : Int) {x : SC} {l sp : List UInt8} {cc : Nat} (hx : Rd H x l sp cc) :
    Spec cx.P 16 [.c (.ptr n 0), .agg (macC d ++ [i64 kd, x])] H fun t h' => ∃ w z o, t = .tup [(false, [slB w (sendD k s (sealR d s.mac kd l)) z]), (false, [i64 (sendE k s (sealR d s.mac kd l))])] ∧ H.length ≤ w ∧ h'[w]? = some (wB o (sendD k s (sealR d s.mac kd l) ++ z)) ∧ (0 < (sendD k s (sealR d s.mac kd l)).length + z.length → o = true) ∧ PC h' c w1 w2 (sendK k s (sealR d s.mac kd l)) ∧ h'[n]? = some (nicB (sendN k s (sealR d s.mac kd l)) c) ∧ But H h' (XN5 c w1 w2 n) := by
  refine (send5_spec P ok hn os d kd hx).void 5 ?_
  rintro t h' ⟨x', rfl, hO, P', hn', B'⟩
  rcases hO with ⟨rfl, hD⟩ | ⟨w, z, o, rfl, h1, h2, h3⟩
  · rw [hD]
    refine .inr ⟨.tup [(false, [.sl h'.length 0 0 0]), (false, [i64 (sendE k s (sealR d s.mac kd l))])], nil_rel, h'.length, [], false, rfl, B'.1, app_self, fun h => absurd h (by simp), P'.app _, (List.getElem?_append_left (lt_of hn')).trans hn', B'.app _⟩
  · exact .inl ⟨w, z, o, rfl, h1, h2, h3, P', hn', B'⟩
end
end Go.Proofs.Ythbojoiogjdbeaa.Sx
namespace Go.Proofs.Ythbojoiogjdbeaa.Sx
open Go
set_option linter.unusedSimpArgs false
set_option linter.unusedVariables false
set_option maxRecDepth 10000
set_option maxHeartbeats 8000000
section
variable {S : Nat → Prop} {H : List SB} {p c w1 w2 n rc rr rt m bk : Nat} {k kr : CK} {s sr : NS} {es : List OE}
theorem Q5.set {g : Nat} {a y : SB} (q : Q5 S H c w1 w2 n rc rr rt m bk k kr s sr es) (hg : H[g]? = some a) (ha : ¬ tyQ a.ty) : Q5 S (H.set g y) c w1 w2 n rc rr rt m bk k kr s sr es :=
  q.keep (by rw [List.length_set]; exact Nat.le_refl _) fun i b hi ht => by
    rw [List.getElem?_set_ne (fun e => by subst e; rw [hg] at hi; cases hi; exact ha ht)]; exact hi
theorem layK_rx (k : CK) (i : Int) (b : List UInt8) : (layK k i b).rx = k.rx := by
  unfold layK
  split
  · split
    · rfl
    · split
      · rfl
      · split
        · rfl
        · rfl
  · rfl
theorem sendK_fr {k : CK} {s : NS} (ok : k.ok) (os : s.ok k) (q : List UInt8 × Int) : (sendK k s q).rx = k.rx ∧ (sendK k s q).ok ∧ (sendN k s q).ok (sendK k s q) := by
  unfold sendK sendN
  split
  · refine ⟨layK_rx _ _ _, layK_ok k ok _ _, ?_, ?_⟩
    · rw [layK_rx]; exact os.r
    · rw [(layK_tx k s.t q.1).1]; exact Nat.mod_lt _ ok.tx0
  · exact ⟨rfl, ok, os.r, os.t⟩
end
end Go.Proofs.Ythbojoiogjdbeaa.Sx
namespace Go.Proofs.Ythbojoiogjdbeaa.Sx
open Go
set_option linter.unusedSimpArgs false
set_option linter.unusedVariables false
set_option maxRecDepth 10000
set_option maxHeartbeats 8000000
abbrev aL : M6 := ⟨2, 0, 0, 0, 0, 10⟩
def kL0 : CK := newK 1 1
def sL0 : NS := ⟨aL, 0, 0, 0, 0, 0, 0⟩
def qA : List UInt8 × Int := sealR aL aL 2054 [120]
def qB : List UInt8 × Int := sealR aL aL 2054 []
def qC : List UInt8 × Int := sealR aL aL 1 []
def kL1 : CK := sendK kL0 sL0 qA
def sL1 : NS := sendN kL0 sL0 qA
def kL2 : CK := sendK kL1 sL1 qB
def sL2 : NS := sendN kL1 sL1 qB
def kL3 : CK := sendK kL2 sL2 qC
def sL3 : NS := sendN kL2 sL2 qC
def kL4 : CK := depK kL3
def bL : List UInt8 := sendD kL0 sL0 qA
def kL5 : CK := arrK kL4 bL
theorem live_plain : sendE kL0 sL0 qA = 0 ∧ bL.length = 60 ∧ sendE kL1 sL1 qB = 3 ∧ sendE kL2 sL2 qC = 30 ∧ depB kL3 = true ∧ depD kL3 = bL ∧ arrB kL4 bL = true ∧ (pollN 9 kL5 sL3).2.2.map FR.k = [2054] ∧
    ((pollN 9 kL5 sL3).2.1.tk = 1 ∧ (pollN 9 kL5 sL3).2.1.th = 0 ∧ (pollN 9 kL5 sL3).2.1.se = 1 ∧ (pollN 9 kL5 sL3).2.1.rf = 2) := by
  decide +kernel
theorem live_mac : sL0.mac = aL ∧ sL1.mac = aL ∧ sL2.mac = aL ∧ sL3.mac = aL := by
  refine ⟨rfl, ?_, ?_, ?_⟩ <;> (simp only [sL1, sL2, sL3, sendN]; repeat' split) <;> rfl
theorem live_ok : (kL0.ok ∧ sL0.ok kL0) ∧ (kL1.ok ∧ sL1.ok kL1) ∧ (kL2.ok ∧ sL2.ok kL2) ∧ (kL3.ok ∧ sL3.ok kL3) ∧ (kL4.ok ∧ sL3.ok kL4) ∧ (kL5.ok ∧ sL3.ok kL5) := by
  have o0 : kL0.ok := newK_ok (by omega) (by omega) (by omega) (by omega)
  have p0 : sL0.ok kL0 := ⟨by decide, by decide⟩
  obtain ⟨_, o1, p1⟩ := sendK_fr o0 p0 qA
  obtain ⟨_, o2, p2⟩ := sendK_fr (k := kL1) (s := sL1) o1 p1 qB
  obtain ⟨_, o3, p3⟩ := sendK_fr (k := kL2) (s := sL2) o2 p2 qC
  have o4 : kL4.ok := depK_ok _ o3
  have p4 : sL3.ok kL4 := ⟨by rw [show kL4.rx = kL3.rx from (depK_fr kL3).1]; exact p3.r, by rw [show kL4.tx.length = kL3.tx.length from (depK_fr kL3).2]; exact p3.t⟩
  obtain ⟨_, f2, f3⟩ := arrK_fr o4 bL
  exact ⟨⟨o0, p0⟩, ⟨o1, p1⟩, ⟨o2, p2⟩, ⟨o3, p3⟩, ⟨o4, p4⟩, arrK_ok _ o4 _, ⟨by rw [show kL5.rx.length = _ from f2]; exact p4.r, by rw [show kL5.tx.length = _ from f3]; exact p4.t⟩⟩
theorem live_spec : Spec cx.P 6 [] [] fun s _ => s.plain = true ∧ s = .c (bC true) := by
  have hN := new_spec 1 1 (by omega) (by omega) (by omega) (by omega)
  refine spec_of_X cx_ok Try.func6 rfl (by kernel_rfl) (by kernel_rfl) (Nat.le_of_ble_eq_true rfl) 400 17 ?_
  simp (maxSteps := 4000000) only [Try.results6, XX, Nat.reduceBEq, Nat.reduceLT, Nat.reduceAdd, Nat.reduceMul, Nat.reduceSub, Nat.reduceLeDiff, Nat.reduceEqDiff, Int.reduceToNat, Int.reduceLT, Int.reduceLE, Int.reduceAdd, Int.reduceSub, Int.reduceEq, reduceIte, Nat.reduceBNe, Int.reducePow, Nat.reducePow, Int.reduceMul, Int.reduceNeg, isB_i, isB_b, isB_y, isBv_i, isBv_b, eqCells_t, TT]
  refine call_frame hN [] rfl rfl trivial rfl rfl ?_
  rintro _ _ ⟨rfl, rfl⟩
  simp (maxSteps := 4000000) only [Try.results6, ids_bsC, ren_bsC, noRo_bsC, plain_bsC, lt_bsC, ids_byte, ren_byte, noRo_byte, plain_byte, lt_byte, slC_ren, XX, Nat.reduceBEq, Nat.reduceLT, Nat.reduceAdd, Nat.reduceMul, Nat.reduceSub, Nat.reduceLeDiff, Nat.reduceEqDiff, Int.reduceToNat, Int.reduceLT, Int.reduceLE, Int.reduceAdd, Int.reduceSub, Int.reduceEq, reduceIte, Nat.reduceBNe, Int.reducePow, Nat.reducePow, Int.reduceMul, Int.reduceNeg, isB_i, isB_b, isB_y, isBv_i, isBv_b, eqCells_t, TT]
  refine call_is (new5_spec aL) ?_
  rintro _ _ ⟨x0, rfl, rfl⟩
  refine gen_hp (fun H => PC H 1 2 3 kL0 ∧ H[5]? = some (nicB sL0 1) ∧ H[0]? = some ⟨true, 24, macC aL⟩) ⟨⟨rfl, rfl, rfl, by decide⟩, rfl, rfl⟩ ?_
  rintro H ⟨P, hn, hm⟩
  simp (maxSteps := 4000000) only [Try.results6, hm, List.append_assoc, List.getElem?_append_left, List.getElem?_append_right, List.length_append, List.length_set, List.set_append_left, gset, List.getElem?_set_ne, Nat.add_sub_cancel_left, Nat.sub_self, Nat.le_refl, Nat.le_add_right, List.replicate_one, List.flatten_cons, List.flatten_nil, rep_flat, XX, Nat.reduceBEq, Nat.reduceLT, Nat.reduceAdd, Nat.reduceMul, Nat.reduceSub, Nat.reduceLeDiff, Nat.reduceEqDiff, Int.reduceToNat, Int.reduceLT, Int.reduceLE, Int.reduceAdd, Int.reduceSub, Int.reduceEq, reduceIte, Nat.reduceBNe, Int.reducePow, Nat.reducePow, Int.reduceMul, Int.reduceNeg, isB_i, isB_b, isB_y, isBv_i, isBv_b, eqCells_t, TT]
  refine call_plain (new5N_spec aL) rfl ?_
  rintro _ rfl
  simp (maxSteps := 4000000) only [Try.results6, XX, Nat.reduceBEq, Nat.reduceLT, Nat.reduceAdd, Nat.reduceMul, Nat.reduceSub, Nat.reduceLeDiff, Nat.reduceEqDiff, Int.reduceToNat, Int.reduceLT, Int.reduceLE, Int.reduceAdd, Int.reduceSub, Int.reduceEq, reduceIte, Nat.reduceBNe, Int.reducePow, Nat.reducePow, Int.reduceMul, Int.reduceNeg, isB_i, isB_b, isB_y, isBv_i, isBv_b, eqCells_t, TT]
  refine call_is (own_spec hn) ?_
  rintro _ _ ⟨rfl, x1, rfl⟩
  refine gen_hp (fun H => PC H 1 2 3 kL0 ∧ H[5]? = some (nicB sL0 1) ∧ H[0]? = some ⟨true, 24, macC aL⟩) ⟨P.app _, (List.getElem?_append_left (lt_of hn)).trans hn, (List.getElem?_append_left (lt_of hm)).trans hm⟩ ?_
  clear P hn hm x1 x0 hN
  obtain ⟨⟨o0, p0⟩, ⟨o1, p1⟩, ⟨o2, p2⟩, ⟨o3, p3⟩, ⟨o4, p4⟩, ⟨o5, p5⟩⟩ := live_ok
  obtain ⟨e1, e2, e3, e4, e5, e6, e7, e8, e9⟩ := live_plain
  obtain ⟨m0, m1, m2, m3⟩ := live_mac
  rintro H ⟨P, hn, hm⟩
  have hm1 : ∀ x : SB, (H ++ [x])[0]? = some ⟨true, 24, macC aL⟩ := fun x => (List.getElem?_append_left (lt_of hm)).trans hm
  simp (maxSteps := 4000000) only [Try.results6, hm, hm1, set_end, set_two, m0, List.append_assoc, List.getElem?_append_left, List.getElem?_append_right, List.length_append, List.length_set, List.set_append_left, gset, List.getElem?_set_ne, Nat.add_sub_cancel_left, Nat.sub_self, Nat.le_refl, Nat.le_add_right, List.replicate_one, List.flatten_cons, List.flatten_nil, rep_flat, XX, Nat.reduceBEq, Nat.reduceLT, Nat.reduceAdd, Nat.reduceMul, Nat.reduceSub, Nat.reduceLeDiff, Nat.reduceEqDiff, Int.reduceToNat, Int.reduceLT, Int.reduceLE, Int.reduceAdd, Int.reduceSub, Int.reduceEq, reduceIte, Nat.reduceBNe, Int.reducePow, Nat.reducePow, Int.reduceMul, Int.reduceNeg, isB_i, isB_b, isB_y, isBv_i, isBv_b, eqCells_t, TT]
  obtain ⟨io, hio⟩ : ∃ io, io = H.length := ⟨_, rfl⟩
  have io5 : 5 < io := by rw [hio]; exact lt_of hn
  rw [← hio]
  refine gen_call (fun G => PC G 1 2 3 kL0 ∧ G[5]? = some (nicB sL0 1) ∧ G[0]? = some ⟨true, 24, macC aL⟩ ∧ G[io]? = some ⟨true, 24, macC aL⟩ ∧ G[io + 1]? = some ⟨false, 5, bsC [120]⟩) ⟨P.app _, (List.getElem?_append_left (lt_of hn)).trans hn, (List.getElem?_append_left (lt_of hm)).trans hm, by rw [hio, List.getElem?_append_right (Nat.le_refl _), Nat.sub_self]; rfl, by rw [hio]; exact app_two⟩ ?_
  clear P hn hm hm1 hio
  rintro G ⟨P, hn, hm, ho, hx⟩
  have q1 := send5w_spec P o0 hn p0 aL 2054 (l := [120]) (sp := []) (cc := 1) (.inr (.inl ⟨io + 1, _, rfl, hx, rfl, rfl, rfl⟩))
  rw [m0] at q1
  refine call_is q1 ?_
  clear q1
  rintro _ h1 ⟨w, z, o, rfl, lw, hw, how, P1, hn1, B1⟩
  replace e1 : sendE kL0 sL0 (sealR aL aL 2054 [120]) = 0 := e1
  have eb : sendD kL0 sL0 (sealR aL aL 2054 [120]) = bL := rfl
  rw [e1, eb]
  rw [eb] at hw how
  replace P1 : PC h1 1 2 3 kL1 := P1
  replace hn1 : h1[5]? = some (nicB sL1 1) := hn1
  have n0 : ¬ XN5 1 2 3 5 0 := by simp [XN5]
  have nio : ¬ XN5 1 2 3 5 io := by simp only [XN5]; omega
  have hm1 := B1.get hm n0
  have ho1 := B1.get ho nio
  obtain rfl : o = true := how (by omega)
  have l1 := Nat.lt_of_lt_of_le (lt_of ho) lw
  clear P hn hm ho hx how B1 n0 nio lw
  simp (maxSteps := 4000000) only [Try.results6, hm1, List.append_assoc, List.getElem?_append_left, List.getElem?_append_right, List.length_append, List.length_set, List.set_append_left, gset, List.getElem?_set_ne, Nat.add_sub_cancel_left, Nat.sub_self, Nat.le_refl, Nat.le_add_right, List.replicate_one, List.flatten_cons, List.flatten_nil, rep_flat, XX, Nat.reduceBEq, Nat.reduceLT, Nat.reduceAdd, Nat.reduceMul, Nat.reduceSub, Nat.reduceLeDiff, Nat.reduceEqDiff, Int.reduceToNat, Int.reduceLT, Int.reduceLE, Int.reduceAdd, Int.reduceSub, Int.reduceEq, reduceIte, Nat.reduceBNe, Int.reducePow, Nat.reducePow, Int.reduceMul, Int.reduceNeg, isB_i, isB_b, isB_y, isBv_i, isBv_b, eqCells_t, TT]
  have q2 := send5w_spec P1 o1 hn1 p1 aL 2054 (l := []) (sp := []) (cc := 0) (.inr (.inr ⟨rfl, rfl, rfl⟩))
  rw [m1] at q2
  refine call_is q2 ?_
  clear q2
  rintro _ h2 ⟨w2, z2, o2', rfl, lw2, _, _, P2, hn2, B2⟩
  replace e3 : sendE kL1 sL1 (sealR aL aL 2054 []) = 3 := e3
  rw [e3]
  replace P2 : PC h2 1 2 3 kL2 := P2
  replace hn2 : h2[5]? = some (nicB sL2 1) := hn2
  have n0 : ¬ XN5 1 2 3 5 0 := by simp [XN5]
  have nio : ¬ XN5 1 2 3 5 io := by simp only [XN5]; omega
  have nw : ¬ XN5 1 2 3 5 w := by simp only [XN5]; omega
  have hm2 := B2.get hm1 n0
  have ho2 := B2.get ho1 nio
  have hw2 := B2.get hw nw
  clear P1 hn1 hm1 ho1 hw B2 lw2
  simp (maxSteps := 4000000) only [Try.results6, hm2, List.append_assoc, List.getElem?_append_left, List.getElem?_append_right, List.length_append, List.length_set, List.set_append_left, gset, List.getElem?_set_ne, Nat.add_sub_cancel_left, Nat.sub_self, Nat.le_refl, Nat.le_add_right, List.replicate_one, List.flatten_cons, List.flatten_nil, rep_flat, XX, Nat.reduceBEq, Nat.reduceLT, Nat.reduceAdd, Nat.reduceMul, Nat.reduceSub, Nat.reduceLeDiff, Nat.reduceEqDiff, Int.reduceToNat, Int.reduceLT, Int.reduceLE, Int.reduceAdd, Int.reduceSub, Int.reduceEq, reduceIte, Nat.reduceBNe, Int.reducePow, Nat.reducePow, Int.reduceMul, Int.reduceNeg, isB_i, isB_b, isB_y, isBv_i, isBv_b, eqCells_t, TT]
  have q3 := send5w_spec P2 o2 hn2 p2 aL 1 (l := []) (sp := []) (cc := 0) (.inr (.inr ⟨rfl, rfl, rfl⟩))
  rw [m2] at q3
  refine call_is q3 ?_
  clear q3
  rintro _ h3 ⟨w3, z3, o3', rfl, lw3, _, _, P3, hn3, B3⟩
  replace e4 : sendE kL2 sL2 (sealR aL aL 1 []) = 30 := e4
  rw [e4]
  replace P3 : PC h3 1 2 3 kL3 := P3
  replace hn3 : h3[5]? = some (nicB sL3 1) := hn3
  have hm3 := B3.get hm2 n0
  have ho3 := B3.get ho2 nio
  have hw3 := B3.get hw2 nw
  clear P2 hn2 hm2 ho2 hw2 B3 lw3
  simp (maxSteps := 4000000) only [Try.results6, hm3, List.append_assoc, List.getElem?_append_left, List.getElem?_append_right, List.length_append, List.length_set, List.set_append_left, gset, List.getElem?_set_ne, Nat.add_sub_cancel_left, Nat.sub_self, Nat.le_refl, Nat.le_add_right, List.replicate_one, List.flatten_cons, List.flatten_nil, rep_flat, XX, Nat.reduceBEq, Nat.reduceLT, Nat.reduceAdd, Nat.reduceMul, Nat.reduceSub, Nat.reduceLeDiff, Nat.reduceEqDiff, Int.reduceToNat, Int.reduceLT, Int.reduceLE, Int.reduceAdd, Int.reduceSub, Int.reduceEq, reduceIte, Nat.reduceBNe, Int.reducePow, Nat.reducePow, Int.reduceMul, Int.reduceNeg, isB_i, isB_b, isB_y, isBv_i, isBv_b, eqCells_t, TT]
  refine call_is (P3.dep o3) ?_
  rintro _ _ ⟨od, rfl, rfl, hod⟩
  rw [e5, e6]
  rw [e6] at hod
  obtain rfl : od = true := hod (by omega)
  have lh3 : w < h3.length ∧ io < h3.length ∧ 5 < h3.length := ⟨lt_of hw3, lt_of ho3, lt_of hn3⟩
  obtain ⟨id, hid⟩ : ∃ id, id = h3.length := ⟨_, rfl⟩
  rw [← hid]
  refine gen_hp (fun G => PC G 1 2 3 kL4 ∧ G[5]? = some (nicB sL3 1) ∧ (G[io]? = some ⟨true, 24, macC aL⟩ ∧ G[0]? = some ⟨true, 24, macC aL⟩) ∧ G[w]? = some (wB true (bL ++ z)) ∧ G[id]? = some (wB true bL)) ⟨(P3.set _).app _, ?_, ⟨?_, ?_⟩, ?_, ?_⟩ ?_
  · rw [List.getElem?_append_left (by rw [setC_len]; omega), setC_off (by decide) (by decide) (by decide)]; exact hn3
  · rw [List.getElem?_append_left (by rw [setC_len]; omega), setC_off (by omega) (by omega) (by omega)]; exact ho3
  · rw [List.getElem?_append_left (by rw [setC_len]; omega), setC_off (by decide) (by decide) (by decide)]; exact hm3
  · rw [List.getElem?_append_left (by rw [setC_len]; omega), setC_off (by omega) (by omega) (by omega)]; exact hw3
  · rw [hid, List.getElem?_append_right (by rw [setC_len]; exact Nat.le_refl _), setC_len, Nat.sub_self]; rfl
  have lid : io < id ∧ w < id := by omega
  clear P3 hn3 hm3 ho3 hw3 hod lh3 hid
  rintro G ⟨P4, hn4, ⟨ho4, hm4⟩, hw4, hd4⟩
  simp (maxSteps := 4000000) only [Try.results6, List.append_assoc, List.getElem?_append_left, List.getElem?_append_right, List.length_append, List.length_set, List.set_append_left, gset, List.getElem?_set_ne, Nat.add_sub_cancel_left, Nat.sub_self, Nat.le_refl, Nat.le_add_right, List.replicate_one, List.flatten_cons, List.flatten_nil, rep_flat, XX, Nat.reduceBEq, Nat.reduceLT, Nat.reduceAdd, Nat.reduceMul, Nat.reduceSub, Nat.reduceLeDiff, Nat.reduceEqDiff, Int.reduceToNat, Int.reduceLT, Int.reduceLE, Int.reduceAdd, Int.reduceSub, Int.reduceEq, reduceIte, Nat.reduceBNe, Int.reducePow, Nat.reducePow, Int.reduceMul, Int.reduceNeg, isB_i, isB_b, isB_y, isBv_i, isBv_b, eqCells_t, TT]
  refine call_is (P4.arrive o4 (b := bL) (sp := z) (.inr (.inl ⟨w, _, rfl, hw4, rfl, rfl, rfl⟩))) ?_
  rintro _ _ ⟨rfl, rfl⟩
  rw [e7]
  refine gen_hp (fun G => PC G 1 2 3 kL5 ∧ G[5]? = some (nicB sL3 1) ∧ (G[io]? = some ⟨true, 24, macC aL⟩ ∧ G[0]? = some ⟨true, 24, macC aL⟩) ∧ G[w]? = some (wB true (bL ++ z)) ∧ G[id]? = some (wB true bL)) ⟨P4.set _, ?_, ⟨?_, ?_⟩, ?_, ?_⟩ ?_
  · rw [setC_off (by decide) (by decide) (by decide)]; exact hn4
  · rw [setC_off (by omega) (by omega) (by omega)]; exact ho4
  · rw [setC_off (by decide) (by decide) (by decide)]; exact hm4
  · rw [setC_off (by omega) (by omega) (by omega)]; exact hw4
  · rw [setC_off (by omega) (by omega) (by omega)]; exact hd4
  clear P4 hn4 ho4 hm4 hw4 hd4 G
  rintro G ⟨P4, hn4, ⟨ho4, hm4⟩, hw4, hd4⟩
  simp (maxSteps := 4000000) only [Try.results6, List.append_assoc, List.getElem?_append_left, List.getElem?_append_right, List.length_append, List.length_set, List.set_append_left, gset, List.getElem?_set_ne, Nat.add_sub_cancel_left, Nat.sub_self, Nat.le_refl, Nat.le_add_right, List.replicate_one, List.flatten_cons, List.flatten_nil, rep_flat, XX, Nat.reduceBEq, Nat.reduceLT, Nat.reduceAdd, Nat.reduceMul, Nat.reduceSub, Nat.reduceLeDiff, Nat.reduceEqDiff, Int.reduceToNat, Int.reduceLT, Int.reduceLE, Int.reduceAdd, Int.reduceSub, Int.reduceEq, reduceIte, Nat.reduceBNe, Int.reducePow, Nat.reducePow, Int.reduceMul, Int.reduceNeg, isB_i, isB_b, isB_y, isBv_i, isBv_b, eqCells_t, TT]
  refine call_is (poll_spec P4 o5 hn4 p5 9 (by omega)) ?_
  rintro _ h5 ⟨sc, es, rfl, FL, efs, _, hn5, B5⟩
  rw [show (9 : Int).toNat = 9 from rfl] at efs hn5
  have key : ∀ i, 5 < i → ¬ XN5 1 2 3 5 i := fun i hi => by simp only [XN5]; omega
  have ho5 := B5.get ho4 (key _ io5)
  have hm5 := B5.get hm4 (by simp [XN5])
  have hw5 := B5.get hw4 (key _ (by omega))
  have hd5 := B5.get hd4 (key _ (by omega))
  obtain ⟨t, ht⟩ : ∃ t, t = (pollN 9 kL5 sL3).2.1 := ⟨_, rfl⟩
  rw [← ht] at e9 hn5
  obtain ⟨u1, u2, u3, u4⟩ := e9
  obtain ⟨e, rfl, ek⟩ : ∃ e : FE, es = [e] ∧ e.f.k = 2054 := by
    rw [← efs, List.map_map] at e8
    obtain ⟨e, r, rfl, h1, h2⟩ := List.map_eq_cons_iff.1 e8
    obtain rfl := List.map_eq_nil_iff.1 h2
    exact ⟨e, rfl, h1⟩
  obtain ⟨iF, oF, rF, rfl, loF, RF⟩ : ∃ iF o r, sc = .sl iF 0 1 (1 + r) ∧ G.length ≤ iF ∧ RowG h5 40 zeroFr iF o [e.c] r := by
    rcases FL.row with ⟨h, _⟩ | h
    · simp at h
    · exact h
  simp (maxSteps := 4000000) only [Try.results6, List.append_assoc, List.getElem?_append_left, List.getElem?_append_right, List.length_append, List.length_set, List.set_append_left, gset, List.getElem?_set_ne, Nat.add_sub_cancel_left, Nat.sub_self, Nat.le_refl, Nat.le_add_right, List.replicate_one, List.flatten_cons, List.flatten_nil, rep_flat, XX, Nat.reduceBEq, Nat.reduceLT, Nat.reduceAdd, Nat.reduceMul, Nat.reduceSub, Nat.reduceLeDiff, Nat.reduceEqDiff, Int.reduceToNat, Int.reduceLT, Int.reduceLE, Int.reduceAdd, Int.reduceSub, Int.reduceEq, reduceIte, Nat.reduceBNe, Int.reducePow, Nat.reducePow, Int.reduceMul, Int.reduceNeg, isB_i, isB_b, isB_y, isBv_i, isBv_b, eqCells_t, TT]
  refine call_is (stats_spec hn5) ?_
  rintro _ _ ⟨rfl, x5, rfl⟩
  rw [u1, u2, u3, u4]
  refine gen_hp (fun F => F[io]? = some ⟨true, 24, macC aL⟩ ∧ F[0]? = some ⟨true, 24, macC aL⟩ ∧ F[w]? = some (wB true (bL ++ z)) ∧ F[id]? = some (wB true bL) ∧ F[iF]? = some ⟨oF, 40, rowG zeroFr [e.c] rF⟩) ⟨(List.getElem?_append_left (lt_of ho5)).trans ho5, (List.getElem?_append_left (lt_of hm5)).trans hm5, (List.getElem?_append_left (lt_of hw5)).trans hw5, (List.getElem?_append_left (lt_of hd5)).trans hd5, (List.getElem?_append_left (lt_of RF.row)).trans RF.row⟩ ?_
  obtain rfl : oF = true := RF.own (by simp; omega)
  obtain ⟨T1, hT1⟩ := rowG_at (z := zeroFr) (r := rF) (fe_len (es := [e])) (show ([e].map FE.c)[0]? = some e.c from rfl)
  have lnA := rowG_len (z := zeroFr) (r := rF) (fe_len (es := [e])) rfl
  rw [show [e].map FE.c = [e.c] from rfl] at hT1 lnA
  clear hn5 ho5 hm5 hw5 hd5 RF FL B5 x5 P4 hn4 ho4 hm4 hw4 hd4 u1 u2 u3 u4 ht e8 efs
  rintro F ⟨ho, hm, hw, hd, hF⟩
  have lo := lt_of ho
  have lw := lt_of hw
  have ld := lt_of hd
  have lF := lt_of hF
  obtain ⟨R, hR⟩ : ∃ R, R = rowG zeroFr [e.c] rF := ⟨_, rfl⟩
  rw [← hR] at hF hT1 lnA
  have tk : ∀ a b : List UInt8, (bsC (a ++ b)).take a.length = bsC a := fun a b => by rw [bs_take, List.take_left' rfl]
  have tk0 : ∀ a : List UInt8, (bsC a).take a.length = bsC a := fun a => by rw [bs_take, List.take_length]
  have tA : (R.drop 0).take 14 = e.c := by rw [show (0 : Nat) = 0 * 14 from rfl, hT1]; exact List.take_left' rfl
  clear e1 e3 e4 e5 e6 e7 o0 o1 o2 o3 o4 o5 p0 p1 p2 p3 p4 p5 m0 m1 m2 m3 eb
  generalize bL = B at *
  have ho' : ∀ x : SB, (F ++ [x])[io]? = some ⟨true, 24, macC aL⟩ := fun x => (List.getElem?_append_left lo).trans ho
  have hm' : ∀ x : SB, (F ++ [x])[0]? = some ⟨true, 24, macC aL⟩ := fun x => (List.getElem?_append_left (lt_of hm)).trans hm
  have hw' : ∀ x : SB, (F ++ [x])[w]? = some (wB true (B ++ z)) := fun x => (List.getElem?_append_left lw).trans hw
  have hd' : ∀ x : SB, (F ++ [x])[id]? = some (wB true B) := fun x => (List.getElem?_append_left ld).trans hd
  have hF' : ∀ x : SB, (F ++ [x])[iF]? = some ⟨true, 40, R⟩ := fun x => (List.getElem?_append_left lF).trans hF
  have hx' : ∀ x : SB, (F ++ [x])[F.length]? = some x := fun x => app_self
  have hR0 : R = e.c ++ T1 := by rw [← hT1]; rfl
  have hR12 : R[12]? = some (SC.v (.int .i64 2054)) := by
    rw [hR0, show e.c = fraC e.f.d e.f.s (2054 : Nat) (slB e.w e.f.l e.z) by rw [← ek]]; rfl
  have hRg : R.getD 12 .any = SC.v (.int .i64 2054) := by rw [List.getD_eq_getElem?_getD, hR12]; rfl
  have hRl : 12 < R.length := (List.getElem?_eq_some_iff.1 hR12).1
  have em : eqCells [byteC 2, byteC 0, byteC 0, byteC 0, byteC 0, byteC 10] [byteC 2, byteC 0, byteC 0, byteC 0, byteC 0, byteC 10] = some true := rfl
  have em2 : eqCells [i64 1, i64 0, i64 1, i64 2] [i64 1, i64 0, i64 1, i64 2] = some true := rfl
  have d6 : decide ((B.length : Int) = 60) = true := by rw [e2]; rfl
  have dB : decide (B = B) = true := by simp
  simp (maxSteps := 4000000) only [Try.results6, em, em2, d6, dB, set_end, ho', hm', hw', hd', hF', hx', lo, lw, ld, lF, tk, tk0, strOf_bsC, str_eq, hRg, hRl, List.append_assoc, List.getElem?_append_left, List.getElem?_append_right, List.length_append, List.length_set, List.set_append_left, gset, List.getElem?_set_ne, Nat.add_sub_cancel_left, Nat.sub_self, Nat.le_refl, Nat.le_add_right, List.replicate_one, List.flatten_cons, List.flatten_nil, rep_flat, XX, Nat.reduceBEq, Nat.reduceLT, Nat.reduceAdd, Nat.reduceMul, Nat.reduceSub, Nat.reduceLeDiff, Nat.reduceEqDiff, Int.reduceToNat, Int.reduceLT, Int.reduceLE, Int.reduceAdd, Int.reduceSub, Int.reduceEq, reduceIte, Nat.reduceBNe, Int.reducePow, Nat.reducePow, Int.reduceMul, Int.reduceNeg, isB_i, isB_b, isB_y, isBv_i, isBv_b, eqCells_t, TT]
  refine ⟨⟨by simp, isByte_bsC _⟩, ⟨by simp, isByte_bsC _⟩⟩
end Go.Proofs.Ythbojoiogjdbeaa.Sx
namespace Go.Proofs.Ythbojoiogjdbeaa.Sx
open Go
set_option linter.unusedSimpArgs false
set_option linter.unusedVariables false
set_option maxRecDepth 10000
set_option maxHeartbeats 8000000
/-- New cards stand alike. -/
theorem J4.start {H : List SB} {c w1 w2 rc rr rt bk n m j1 j2 : Nat} (n1 : 1 ≤ n) (n2 : n ≤ 64) (m1 : 1 ≤ m) (m2 : m ≤ 64) (hc : H[c]? = some (cardB w1 w2 n m (0 : Nat) (0 : Nat) 0 0 0)) (h1 : H[w1]? = some (stB (slC (List.replicate n (slT true))))) (h2 : H[w2]? = some (stB (slC (List.replicate m (slT false)))))
    (hrc : H[rc]? = some (rcB (.sl rr 0 n (n + j1)) (.sl rt 0 m (m + j2)) (0 : Nat) (0 : Nat) 0 0 0)) (hrr : H[rr]? = some (dB true (rowsN true n j1))) (hrt : H[rt]? = some (dB true (rowsN false m j2))) (hb : H[bk]? = some (bookB nilC nilC)) (ne : c ≠ w1 ∧ c ≠ w2 ∧ w1 ≠ w2) (ne' : rc ≠ rr ∧ rc ≠ rt ∧ rr ≠ rt) :
    J4 (fun _ => False) H c w1 w2 rc rr rt bk (newK n m) (newK n m) [] := by
  have rows : ∀ (b : Bool) (l j : Nat), rowsOf (fun _ => False) H (List.replicate l (slT b)) (rowsN b l j) := fun b l j i s hs => by
    obtain ⟨hi, rfl⟩ := List.getElem?_eq_some_iff.1 hs
    rw [List.length_replicate] at hi
    rw [List.getElem_replicate]
    exact ⟨.v (.slice none 0 0), by rw [List.getElem?_append_left (by simpa using hi), List.getElem?_replicate, if_pos hi], .inl ⟨rfl, rfl⟩⟩
  refine ⟨⟨by simpa [CK.B] using hc, h1, h2, ne⟩, ⟨rowsN true n j1, rowsN false m j2, n + j1, m + j2, ⟨by simpa using hrc, hrr, hrt, ne', by simp, by simp, by simp; omega, by simp; omega, by simp; omega, by simp; omega⟩, rows _ _ _, rows _ _ _⟩, .inl ⟨rfl, hb⟩, ⟨fun i e he => by simp at he, fun i e he => by simp at he, fun i e he => by simp at he, fun i j e f _ he => by simp at he⟩, fun e he => by simp at he, fun i hi => hi.elim⟩
theorem RTy_mac5 {B n : Nat} {x : List RC} (h : RTy T B (n + 2) 24 x) : ∃ m : M6, x = bsR m.l := by
  obtain ⟨parts, h1, rfl, h2⟩ := RTy_array T_24 h
  obtain ⟨ys, rfl, _⟩ := all_form (p := fun _ => True) (f := fun b : UInt8 => [byteR b]) fun x hx => by
    obtain ⟨b, rfl⟩ := RTy_byte (h2 x hx)
    exact ⟨b, rfl, trivial⟩
  rw [List.length_map] at h1
  match ys, h1 with
  | [a, b, c, d, e, f], _ => exact ⟨⟨a, b, c, d, e, f⟩, rfl⟩
abbrev OpS.rc (o : OpS) : List RC := [.v (.int .i64 o.k), .v (.int .i64 o.i), .sl (bsR (o.l ++ o.sp)) o.l.length o.c, byteR o.d.a, byteR o.d.b, byteR o.d.c, byteR o.d.d, byteR o.d.e, byteR o.d.f, .v (.int .i64 o.sk), .sl (bsR (o.l2 ++ o.sp2)) o.l2.length o.c2]
theorem OpS.form {n : Nat} {x : List RC} (h : RTy T reachBytes (n + 5) 37 x) : ∃ o : OpS, x = o.rc ∧ o.ok := by
  obtain ⟨parts, rfl, hp⟩ := RTy_struct T_37 h
  obtain ⟨p0, _, rfl, q0, hp⟩ := RTyL_cons hp
  obtain ⟨p1, _, rfl, q1, hp⟩ := RTyL_cons hp
  obtain ⟨p2, _, rfl, q2, hp⟩ := RTyL_cons hp
  obtain ⟨p3, _, rfl, q3, hp⟩ := RTyL_cons hp
  obtain rfl := RTyL_nil hp
  obtain ⟨parts2, rfl, hq⟩ := RTy_struct T_35 q3
  obtain ⟨s0, _, rfl, r0, hq⟩ := RTyL_cons hq
  obtain ⟨s1, _, rfl, r1, hq⟩ := RTyL_cons hq
  obtain ⟨s2, _, rfl, r2, hq⟩ := RTyL_cons hq
  obtain rfl := RTyL_nil hq
  obtain ⟨k, rfl, hk1, hk2⟩ := RTy_int T_3 q0
  obtain ⟨i, rfl, hi1, hi2⟩ := RTy_int T_3 q1
  obtain ⟨l, sp, c, rfl, hl1, hl2, hl3, hl4⟩ := RTy_bytes q2
  obtain ⟨d, rfl⟩ := RTy_mac5 r0
  obtain ⟨sk, rfl, _⟩ := RTy_int T_3 r1
  obtain ⟨l2, sp2, c2, rfl, hm1, hm2, hm3, hm4⟩ := RTy_bytes r2
  change (-9223372036854775808 : Int) ≤ k at hk1
  change k ≤ (9223372036854775807 : Int) at hk2
  change (-9223372036854775808 : Int) ≤ i at hi1
  change i ≤ (9223372036854775807 : Int) at hi2
  have bl : l.length ≤ 140737488355328 := by
    have : l.length ≤ 140737488351232 := Nat.le_trans hl1 hl4
    omega
  have bm : l2.length ≤ 140737488355328 := by
    have : l2.length ≤ 140737488351232 := Nat.le_trans hm1 hm4
    omega
  have bk : k < 9223372036854775808 := by omega
  have bi : i < 9223372036854775808 := by omega
  exact ⟨⟨k, i, l, sp, c, d, sk, l2, sp2, c2⟩, rfl, ⟨⟨hk1, bk⟩, ⟨hi1, bi⟩, hl1, bl, hm1, bm⟩⟩
theorem opsS_drop {ops : List OpS} {i : Nat} {o : OpS} (h : ops[i]? = some o) : ∃ R, (ops.map OpS.rc).flatten.drop (i * 11) = o.rc ++ R := by
  have hl : ∀ x ∈ ops.map OpS.rc, x.length = 11 := by
    intro x hx
    simp only [List.mem_map] at hx
    obtain ⟨o, _, rfl⟩ := hx
    rfl
  obtain ⟨h1, rfl⟩ := List.getElem?_eq_some_iff.1 h
  have := flat_at hl (i := i) (by simpa using h1)
  rw [List.getElem_map] at this
  refine ⟨((ops.map OpS.rc).flatten.drop (i * 11)).drop 11, ?_⟩
  rw [← this, List.take_append_drop]
section
variable {S : Nat → Prop} {H : List SB} {p c w1 w2 n rc rr rt m bk : Nat} {k : CK} {s : NS} {es : List OE}
end
end Go.Proofs.Ythbojoiogjdbeaa.Sx
namespace Go.Proofs.Ythbojoiogjdbeaa.Sx
open Go
set_option linter.unusedSimpArgs false
set_option linter.unusedVariables false
set_option maxRecDepth 10000
set_option maxHeartbeats 2000000
def minB (own : M6) (b : List UInt8) : Bool := decide ((openR b).e = 0) && mineB own (openR b).d (openR b).s
structure Ord (n m : Nat) (own : M6) (k : CK) (s : NS) (came laid : List (List UInt8)) (got gone : Nat) : Prop where
  ok : k.ok
  rx : Rg false n k.rx got came
  tx : Rg true m k.tx gone laid
  rn : k.rn = came.length % n
  tn : k.tn = gone % m
  r : s.r = got % n
  t : s.t = laid.length % m
  mac : s.mac = own
  n0 : 0 < n
  m0 : 0 < m
variable {n m : Nat} {own : M6} {k : CK} {s : NS} {came laid : List (List UInt8)} {got gone : Nat}
theorem Ord.os (o : Ord n m own k s came laid got gone) : s.ok k := ⟨by rw [o.rx.len, o.r]; exact Nat.mod_lt _ o.n0, by rw [o.tx.len, o.t]; exact Nat.mod_lt _ o.m0⟩
theorem getD_of {l : List Sl} {i : Nat} {s : Sl} (h : l[i]? = some s) : l.getD i noSl = s := by rw [List.getD_eq_getElem?_getD, h]; rfl
theorem Ord.arr (o : Ord n m own k s came laid got gone) (b : List UInt8) :
    Ord n m own (arrK k b) s (if arrB k b then came ++ [b] else came) laid got gone := by
  obtain ⟨sl, g1, g2, g3⟩ := o.rx.at_b o.n0
  have hok := arrK_ok k o.ok b
  have hd : k.rx.getD k.rn noSl = sl := by rw [o.rn]; exact getD_of g1
  by_cases h : b.length = 0 ∨ 1514 < b.length
  · have e1 : arrB k b = false := by unfold arrB; rw [if_pos h]
    have e2 : arrK k b = k := by unfold arrK; rw [if_pos h]
    rw [e1, e2]
    exact o
  · by_cases hr : came.length < got + n
    · have g4 : sl.own = true := g2 hr
      have e1 : arrB k b = true := by unfold arrB; rw [if_neg h, hd, g4]
      have e2 : arrK k b = { k with rx := k.rx.set k.rn ⟨false, b, (sl.d ++ sl.j).drop b.length⟩, rn := (k.rn + 1) % k.rx.length, cin := IntKind.i64.wrap (k.cin + 1) } := by unfold arrK; rw [if_neg h, hd, if_pos g4]
      rw [e2] at hok ⊢
      rw [e1]
      refine ⟨hok, ?_, o.tx, ?_, o.tn, o.r, o.t, o.mac, o.n0, o.m0⟩
      · show Rg false n (k.rx.set k.rn _) got (came ++ [b])
        rw [o.rn]
        exact o.rx.push hr _ _
      · show (k.rn + 1) % k.rx.length = (came ++ [b]).length % n
        rw [o.rn, o.rx.len, List.length_append, List.length_singleton, Nat.mod_add_mod]
    · have g4 : sl.own = false := g3 hr
      have e1 : arrB k b = false := by unfold arrB; rw [if_neg h, hd, g4]
      have e2 : arrK k b = { k with cdr := IntKind.i64.wrap (k.cdr + 1) } := by unfold arrK; rw [if_neg h, hd, g4, if_neg (by decide)]
      rw [e2] at hok ⊢
      rw [e1]
      exact ⟨hok, o.rx, o.tx, o.rn, o.tn, o.r, o.t, o.mac, o.n0, o.m0⟩
theorem Ord.dep (o : Ord n m own k s came laid got gone) :
    (depB k = true → gone < laid.length ∧ laid[gone]? = some (depD k) ∧ Ord n m own (depK k) s came laid got (gone + 1)) ∧ (depB k = false → laid.length = gone ∧ Ord n m own (depK k) s came laid got gone) := by
  obtain ⟨sl, g1, g2, g3⟩ := o.tx.at_a o.m0
  have hok := depK_ok k o.ok
  have hd : k.tx.getD k.tn noSl = sl := by rw [o.tn]; exact getD_of g1
  have hab := o.tx.ab
  by_cases hr : gone < laid.length
  · obtain ⟨g4, g5⟩ := g2 hr
    have e1 : depB k = true := by unfold depB; rw [hd, g4]
    have e2 : depD k = sl.d := by unfold depD; rw [hd, if_pos g4]
    have e3 : depK k = { k with tx := k.tx.set k.tn ⟨false, [], sl.d ++ sl.j⟩, tn := (k.tn + 1) % k.tx.length, cout := IntKind.i64.wrap (k.cout + 1) } := by unfold depK; rw [hd, if_pos g4]
    rw [e3] at hok
    rw [e1, e2, e3]
    refine ⟨fun _ => ⟨hr, g5, hok, o.rx, ?_, o.rn, ?_, o.r, o.t, o.mac, o.n0, o.m0⟩, fun h => by cases h⟩
    · show Rg true m (k.tx.set k.tn _) (gone + 1) laid
      rw [o.tn]
      exact o.tx.pop hr _ _
    · show (k.tn + 1) % k.tx.length = _
      rw [o.tn, o.tx.len, Nat.mod_add_mod]
  · have g4 : sl.own = false := g3 hr
    have e1 : depB k = false := by unfold depB; rw [hd, g4]
    have e3 : depK k = k := by unfold depK; rw [hd, g4, if_neg (by decide)]
    rw [e1, e3]
    exact ⟨fun h => (by cases h), fun _ => ⟨by omega, o⟩⟩
theorem Ord.see (o : Ord n m own k s came laid got gone) : (seeS k.tx s.t = true ↔ ¬ laid.length < gone + m) ∧ (seeS k.rx s.r = true ↔ came.length = got) ∧ (got < came.length → came[got]? = some (seeD k.rx s.r)) := by
  obtain ⟨sl, g1, g2, g3⟩ := o.tx.at_b o.m0
  obtain ⟨sr, h1, h2, h3⟩ := o.rx.at_a o.n0
  have os := o.os
  have e1 : seeS k.tx s.t = sl.own := by
    unfold seeS
    rw [if_pos ⟨by omega, by have := os.t; omega⟩, Int.toNat_natCast, o.t, getD_of g1]
  have e2 : seeS k.rx s.r = sr.own := by
    unfold seeS
    rw [if_pos ⟨by omega, by have := os.r; omega⟩, Int.toNat_natCast, o.r, getD_of h1]
  have e3 : seeD k.rx s.r = sr.d := by
    unfold seeD
    rw [if_pos ⟨by omega, by have := os.r; omega⟩, Int.toNat_natCast, o.r, getD_of h1]
  have hab := o.rx.ab
  rw [e1, e2, e3]
  refine ⟨?_, ?_, fun h => (h2 h).2⟩
  · by_cases hr : laid.length < gone + m
    · rw [g2 hr]; simp [hr]
    · rw [g3 hr]; simp [hr]
  · by_cases hr : got < came.length
    · rw [(h2 hr).1]; simp; omega
    · rw [h3 hr]; simp; omega
theorem Ord.send (o : Ord n m own k s came laid got gone) (q : List UInt8 × Int) (hq : q.2 = 0 → 60 ≤ q.1.length ∧ q.1.length ≤ 1514) :
    Ord n m own (sendK k s q) (sendN k s q) came (if sendE k s q = 0 then laid ++ [q.1] else laid) got gone := by
  have os := o.os
  have hs := o.see.1
  by_cases h : sendE k s q = 0
  · obtain ⟨f1, f2, f3⟩ := sendK_fr o.ok os q
    unfold sendK sendN at *
    rw [if_pos h] at *
    rw [if_pos h] at *
    rw [if_pos h] at *
    have hq0 : q.2 = 0 ∧ ¬ seeS k.tx s.t = true := by
      unfold sendE at h
      split at h
      · rename_i h0
        split at h
        · cases h
        · rename_i h1; exact ⟨h0, h1⟩
      · rename_i h0; exact absurd h h0
    obtain ⟨q1, q2⟩ := hq hq0.1
    have hr : laid.length < gone + m := Classical.byContradiction fun hh => hq0.2 (hs.2 hh)
    have h0 : 0 ≤ (s.t : Int) ∧ (s.t : Int) < (k.tx.length : Int) := ⟨by omega, by have := os.t; omega⟩
    have hsl : ¬ (k.tx.getD s.t noSl).own = true := by
      have := hq0.2
      unfold seeS at this
      rwa [if_pos h0, Int.toNat_natCast] at this
    have el : layK k s.t q.1 = { k with tx := k.tx.set s.t ⟨true, q.1, ((k.tx.getD s.t noSl).d ++ (k.tx.getD s.t noSl).j).drop q.1.length⟩ } := by
      unfold layK
      rw [if_pos h0, if_neg (by omega), if_neg (by omega), Int.toNat_natCast, if_neg hsl]
    refine ⟨f2, by rw [f1]; exact o.rx, ?_, ?_, ?_, o.r, ?_, o.mac, o.n0, o.m0⟩
    · rw [el]
      dsimp only
      rw [o.t]
      exact o.tx.push hr _ _
    · rw [el]; exact o.rn
    · rw [el]; exact o.tn
    · dsimp only
      rw [o.t, o.tx.len, List.length_append, List.length_singleton, Nat.mod_add_mod]
  · unfold sendK sendN
    rw [if_neg h, if_neg h, if_neg h]
    exact ⟨o.ok, o.rx, o.tx, o.rn, o.tn, o.r, o.t, o.mac, o.n0, o.m0⟩
theorem Ord.give (o : Ord n m own k s came laid got gone) (h : seeS k.rx s.r = false) : got < came.length ∧ Ord n m own (givK k s.r) (pollS k s) came laid (got + 1) gone := by
  have os := o.os
  have hab := o.rx.ab
  have hr : got < came.length := by
    have := o.see.2.1
    rw [h] at this
    have h2 : ¬ came.length = got := fun e => by have := this.2 e; cases this
    omega
  refine ⟨hr, ?_⟩
  have h0 : 0 ≤ (s.r : Int) ∧ (s.r : Int) < (k.rx.length : Int) := ⟨by omega, by have := os.r; omega⟩
  have hg : givK k s.r = { k with rx := k.rx.set s.r ⟨true, [], (k.rx.getD s.r noSl).d ++ (k.rx.getD s.r noSl).j⟩ } := by
    unfold seeS at h
    rw [if_pos h0, Int.toNat_natCast] at h
    unfold givK
    rw [if_pos h0, Int.toNat_natCast, h, if_neg (by decide)]
  have hk : (givK k s.r).ok := givK_ok k o.ok s.r
  rw [hg] at hk ⊢
  refine ⟨hk, ?_, o.tx, o.rn, o.tn, ?_, o.t, o.mac, o.n0, o.m0⟩
  · dsimp only
    rw [o.r]
    exact o.rx.pop hr _ _
  · show (s.r + 1) % k.rx.length = _
    rw [o.r, o.rx.len, Nat.mod_add_mod]
theorem Ord.poll : ∀ (N : Nat) {k : CK} {s : NS} {got : Nat}, Ord n m own k s came laid got gone → ∃ t, t ≤ N ∧ got + t ≤ came.length ∧ (t = N ∨ got + t = came.length) ∧ Ord n m own (pollN N k s).1 (pollN N k s).2.1 came laid (got + t) gone ∧ (pollN N k s).2.2 = (((came.drop got).take t).filter (minB own)).map openR
  | 0, k, s, got, o => ⟨0, Nat.le_refl _, o.rx.ab, .inl rfl, o, by simp [pollN]⟩
  | N + 1, k, s, got, o => by
    unfold pollN
    cases h : seeS k.rx s.r with
    | true =>
      rw [if_pos rfl]
      have := o.see.2.1.1 h
      exact ⟨0, Nat.zero_le _, o.rx.ab, .inr this.symm, o, by simp⟩
    | false =>
      rw [if_neg (by decide)]
      obtain ⟨hr, o1⟩ := o.give h
      obtain ⟨t, h1, h2, h3, h4, h5⟩ := Ord.poll N o1
      refine ⟨t + 1, by omega, by omega, by omega, by rw [show got + (t + 1) = got + 1 + t by omega]; exact h4, ?_⟩
      have hg := o.see.2.2 hr
      have hd : came.drop got = seeD k.rx s.r :: came.drop (got + 1) := by
        obtain ⟨h6, h7⟩ := List.getElem?_eq_some_iff.1 hg
        rw [← h7]; exact List.drop_eq_getElem_cons h6
      dsimp only
      rw [h5, hd, List.take_succ_cons]
      have hm : minQ k s = minB own (seeD k.rx s.r) := by unfold minQ minB; rw [o.mac]
      unfold pollO
      rw [hm, List.filter_cons]
      cases minB own (seeD k.rx s.r) <;> simp
/-- What is to come out of Polls. -/
def inq (own : M6) (came : List (List UInt8)) (got : Nat) : List (List UInt8) := (came.drop got).filter (minB own)
theorem inq_take {t : Nat} (h : got + t ≤ came.length) : inq own came got = ((came.drop got).take t).filter (minB own) ++ inq own came (got + t) := by
  unfold inq
  rw [← List.filter_append]
  congr 1
  rw [← List.drop_drop, List.take_append_drop]
theorem seal_open {b : List UInt8} (h : (openR b).e = 0) : sealR (openR b).d (openR b).s (openR b).k (openR b).l = (b, 0) := by
  unfold openR at h ⊢
  split
  · rename_i h1; rw [if_pos h1] at h; cases h
  · rename_i h1
    rw [if_neg h1] at h
    split
    · rename_i h2; rw [if_pos h2] at h; cases h
    · rename_i h2
      rw [if_neg h2] at h
      match b, h, h1, h2 with
      | a :: b :: c :: d :: e :: f :: a' :: b' :: c' :: d' :: e' :: f' :: k1 :: k0 :: t, h, h1, h2 =>
        dsimp only at h ⊢
        split
        · rename_i h3; rw [if_pos h3] at h; cases h
        · rename_i h3
          have b1 := k1.toNat_lt
          have b0 := k0.toNat_lt
          simp only [List.length_cons] at h1 h2
          show sealR ⟨a, b, c, d, e, f⟩ ⟨a', b', c', d', e', f'⟩ ((k1.toNat * 256 + k0.toNat : Nat) : Int) t = (a :: b :: c :: d :: e :: f :: a' :: b' :: c' :: d' :: e' :: f' :: k1 :: k0 :: t, 0)
          unfold sealR
          rw [if_neg (by omega), if_neg (by omega), Int.toNat_natCast]
          have e1 : UInt8.ofNat ((k1.toNat * 256 + k0.toNat) / 256) = k1 := by
            apply UInt8.toNat_inj.1
            rw [UInt8.toNat_ofNat']
            omega
          have e0 : UInt8.ofNat (k1.toNat * 256 + k0.toNat) = k0 := by
            apply UInt8.toNat_inj.1
            rw [UInt8.toNat_ofNat']
            omega
          unfold sealL be2
          rw [e1, e0, show 46 - t.length = 0 by omega]
          simp [M6.l]
end Go.Proofs.Ythbojoiogjdbeaa.Sx
namespace Go.Proofs.Ythbojoiogjdbeaa.Sx
open Go
set_option linter.unusedSimpArgs false
set_option linter.unusedVariables false
set_option maxRecDepth 10000
set_option maxHeartbeats 8000000
/-- A list of slices of bytes in the middle of a window. -/
structure RowO (H : List SB) (i off : Nat) (o : Bool) (cs : List SC) (r : Nat) : Prop where
  at_ : ∃ P R, P.length = off ∧ R = List.replicate r (SC.v (.slice none 0 0)) ∧ H[i]? = some ⟨o, 33, P ++ (cs ++ R)⟩
  own : 0 < cs.length + r → o = true
theorem RowO.mono {H H' : List SB} {i off r : Nat} {o : Bool} {cs : List SC} (R : RowO H i off o cs r) (h : H'[i]? = H[i]?) : RowO H' i off o cs r := by
  obtain ⟨⟨P, Q, h1, h2, h3⟩, h4⟩ := R
  exact ⟨⟨P, Q, h1, h2, h.trans h3⟩, h4⟩
theorem RowO.drop {H : List SB} {i off r t : Nat} {o : Bool} {cs : List SC} (R : RowO H i off o cs r) (ht : t ≤ cs.length) : RowO H i (off + t) o (cs.drop t) r := by
  obtain ⟨⟨P, Q, h1, h2, h3⟩, h4⟩ := R
  refine ⟨⟨P ++ cs.take t, Q, by simp; omega, h2, ?_⟩, fun h => h4 (by rw [List.length_drop] at h; omega)⟩
  rw [h3]
  congr 2
  conv => lhs; rw [← List.take_append_drop t cs]
  simp only [List.append_assoc]
theorem rep_flat1 (x : SC) (j : Nat) : (List.replicate j [x]).flatten = List.replicate j x := by
  induction j with
  | zero => rfl
  | succ j ih => rw [List.replicate_succ, List.flatten_cons, ih, List.replicate_succ]; rfl
structure OC where
  l : List UInt8
  sp : List UInt8
  c : Nat
abbrev OC.sc (e : OC) : SC := roB e.l e.sp e.c
theorem new5x_spec {H : List SB} {c : Nat} (m : M6) : Spec cx.P 8 [.c (.ptr c 0), .agg (macC m)] H fun t h' => t = .c (.ptr (H.length + 1) 0) ∧ h' = H ++ [⟨true, 24, macC m⟩, nicB ⟨m, 0, 0, 0, 0, 0, 0⟩ c] := by
  refine spec_of_X cx_ok Try.func8 rfl (by kernel_rfl) (by kernel_rfl) (Nat.le_of_ble_eq_true rfl) 400 5 ?_
  simp (maxSteps := 4000000) only [Try.results8, XX, Nat.reduceBEq, Nat.reduceLT, Nat.reduceAdd, Nat.reduceMul, Nat.reduceSub, Nat.reduceLeDiff, Nat.reduceEqDiff, Int.reduceToNat, Int.reduceLT, Int.reduceLE, Int.reduceAdd, Int.reduceSub, Int.reduceEq, reduceIte, Nat.reduceBNe, Int.reducePow, Nat.reducePow, Int.reduceMul, Int.reduceNeg, isB_i, isB_b, isB_y, isBv_i, isBv_b, eqCells_t, TT]
  simp (maxSteps := 4000000) only [Try.results8, List.append_assoc, List.getElem?_append_left, List.getElem?_append_right, List.length_append, List.length_set, List.set_append_left, gset, List.getElem?_set_ne, Nat.add_sub_cancel_left, Nat.sub_self, Nat.le_refl, Nat.le_add_right, List.replicate_one, List.flatten_cons, List.flatten_nil, rep_flat, XX, Nat.reduceBEq, Nat.reduceLT, Nat.reduceAdd, Nat.reduceMul, Nat.reduceSub, Nat.reduceLeDiff, Nat.reduceEqDiff, Int.reduceToNat, Int.reduceLT, Int.reduceLE, Int.reduceAdd, Int.reduceSub, Int.reduceEq, reduceIte, Nat.reduceBNe, Int.reducePow, Nat.reducePow, Int.reduceMul, Int.reduceNeg, isB_i, isB_b, isB_y, isBv_i, isBv_b, eqCells_t, TT]
  rfl
abbrev OSt (n m : Nat) (own : M6) (ops : List OpS) (N i : Nat) (ci co : SC) (H : List SB) : St := ⟨⟨78, 0⟩, [(0, .c (i64 (n : Nat))), (1, .c (i64 (m : Nat))), (2, .agg (macC own)), (3, .c (.ro (ops.map OpS.rc).flatten N (ops.map OpS.rc).length)), (6, .c (.ptr 0 0)), (8, .c (.v (.bool false))), (10, .c (.ptr 1 0)), (11, .c (.ptr 5 0)), (13, .c ci), (14, .c co), (15, .c (i64 i))], H⟩
theorem inq_app {own : M6} {came : List (List UInt8)} {got : Nat} (h : got ≤ came.length) (b : List UInt8) : inq own (came ++ [b]) got = inq own came got ++ (if minB own b then [b] else []) := by
  unfold inq
  rw [List.drop_append_of_le_length h, List.filter_append]
  congr 1
  cases h : minB own b <;> simp [List.filter, h]
structure OrdL (own : M6) (ci co : SC) (H : List SB) (eI : List OC) (eO : List OE) (iI iO fI fO rI rO : Nat) (oI oO : Bool) : Prop where
  h0 : H[0]? = some ⟨true, 24, macC own⟩
  I : RowO H iI fI oI (eI.map OC.sc) rI
  U : RowO H iO fO oO (eO.map OE.sc) rO
  aO : ∀ e ∈ eO, H[e.w]? = some (wB true (e.l ++ e.p))
  ne : iI ≠ iO
  ci : ci = .sl iI fI eI.length (eI.length + rI)
  co : co = .sl iO fO eO.length (eO.length + rO)
structure OrdH (n m : Nat) (own : M6) (N i : Nat) (ci co : SC) (H : List SB) (k : CK) (s : NS) (came laid : List (List UInt8)) (got gone : Nat) (eI : List OC) (eO : List OE) (iI iO fI fO rI rO : Nat) (oI oO : Bool) : Prop where
  P : PC H 1 2 3 k
  hn : H[5]? = some (nicB s 1)
  O : Ord n m own k s came laid got gone
  L : OrdL own ci co H eI eO iI iO fI fO rI rO oI oO
  qI : eI.map OC.l = inq own came got
  qO : eO.map OE.l = laid.drop gone
  l1 : came.length ≤ i
  l2 : laid.length ≤ i
  fin : N + 1 ≤ i → got = came.length
  l60 : ∀ b ∈ laid, 60 ≤ b.length
section
variable {n m : Nat} {own : M6} {N i : Nat} {ci co : SC} {H H' : List SB} {k : CK} {s : NS} {came laid : List (List UInt8)} {got gone : Nat} {eI : List OC} {eO : List OE} {iI iO fI fO rI rO : Nat} {oI oO : Bool}
theorem RowO.row {i off : Nat} {o : Bool} {cs : List SC} {r : Nat} (R : RowO H i off o cs r) : ∃ C, H[i]? = some ⟨o, 33, C⟩ := by
  obtain ⟨⟨P, Q, _, _, h⟩, _⟩ := R
  exact ⟨_, h⟩
theorem OrdL.keep (L : OrdL own ci co H eI eO iI iO fI fO rI rO oI oO) (K : ∀ (j : Nat) (b : SB), H[j]? = some b → (b.ty = 5 ∨ b.ty = 33 ∨ b.ty = 24) → H'[j]? = some b) : OrdL own ci co H' eI eO iI iO fI fO rI rO oI oO := by
  obtain ⟨C, hC⟩ := L.I.row
  obtain ⟨D, hD⟩ := L.U.row
  exact ⟨K _ _ L.h0 (.inr (.inr rfl)), L.I.mono ((K _ _ hC (.inr (.inl rfl))).trans hC.symm), L.U.mono ((K _ _ hD (.inr (.inl rfl))).trans hD.symm), fun e he => K _ _ (L.aO e he) (.inl rfl), L.ne, L.ci, L.co⟩
theorem OrdL.new (L : OrdL own ci co H eI eO iI iO fI fO rI rO oI oO) (B : But H H' Nop) : OrdL own ci co H' eI eO iI iO fI fO rI rO oI oO :=
  L.keep fun j b hj _ => B.get hj fun h => h
theorem OrdL.prog (L : OrdL own ci co H eI eO iI iO fI fO rI rO oI oO) (P : PC H 1 2 3 k) (hn : H[5]? = some (nicB s 1)) (B : But H H' (XN5 1 2 3 5)) : OrdL own ci co H' eI eO iI iO fI fO rI rO oI oO :=
  L.keep fun j b hj ht => B.get hj fun h => by
    rcases xn_ty P hn hj h with h | h | h <;> rw [h] at ht <;> revert ht <;> decide
theorem OrdH.new (E : OrdH n m own N i ci co H k s came laid got gone eI eO iI iO fI fO rI rO oI oO) (B : But H H' Nop) : OrdH n m own N i ci co H' k s came laid got gone eI eO iI iO fI fO rI rO oI oO :=
  ⟨E.P.new B, B.get E.hn (fun h => h), E.O, E.L.new B, E.qI, E.qO, E.l1, E.l2, E.fin, E.l60⟩
theorem OrdL.pushI (L : OrdL own ci co H eI eO iI iO fI fO rI rO oI oO) {i' f' r' : Nat} {e : OC} (R : RowO H' i' f' true ((eI ++ [e]).map OC.sc) r') (K : But H H' (fun j => j = iI)) (hi : i' = iI ∨ H.length ≤ i') : OrdL own (.sl i' f' (eI.length + 1) (eI.length + 1 + r')) co H' (eI ++ [e]) eO i' iO f' fO r' rO true oO := by
  obtain ⟨C, hC⟩ := L.I.row
  obtain ⟨D, hD⟩ := L.U.row
  have lD := lt_of hD
  exact ⟨K.get L.h0 (ty_ne L.h0 hC (by show (24 : Nat) ≠ 33; decide)), R, L.U.mono (K.2 iO lD (Ne.symm L.ne)), fun a ha => K.get (L.aO a ha) (ty_ne (L.aO a ha) hC (by show (5 : Nat) ≠ 33; decide)), by have := L.ne; omega, by rw [List.length_append]; rfl, L.co⟩
theorem OrdL.pushU (L : OrdL own ci co H eI eO iI iO fI fO rI rO oI oO) {i' f' r' : Nat} {e : OE} (R : RowO H' i' f' true ((eO ++ [e]).map OE.sc) r') (K : But H H' (fun j => j = iO)) (hi : i' = iO ∨ H.length ≤ i') (he : H[e.w]? = some (wB true (e.l ++ e.p))) : OrdL own ci (.sl i' f' (eO.length + 1) (eO.length + 1 + r')) H' eI (eO ++ [e]) iI i' fI f' rI r' oI true := by
  obtain ⟨C, hC⟩ := L.I.row
  obtain ⟨D, hD⟩ := L.U.row
  have lC := lt_of hC
  refine ⟨K.get L.h0 (ty_ne L.h0 hD (by show (24 : Nat) ≠ 33; decide)), L.I.mono (K.2 iI lC L.ne), R, fun a ha => ?_, by have := L.ne; omega, L.ci, by rw [List.length_append]; rfl⟩
  have hw : H[a.w]? = some (wB true (a.l ++ a.p)) := by
    rcases List.mem_append.1 ha with h | h
    · exact L.aO a h
    · obtain rfl := List.mem_singleton.1 h; exact he
  exact K.get hw (ty_ne hw hD (by show (5 : Nat) ≠ 33; decide))
theorem cut_app {P A Q : List SC} {f l : Nat} (hP : P.length = f) (hA : A.length = l) : (P ++ (A ++ Q)).take (f + l) = P ++ A ∧ (P ++ (A ++ Q)).drop (f + l + 1) = Q.drop 1 ∧ ((P ++ (A ++ Q)).drop f).take l = A ∧ (P ++ (A ++ Q)).length = f + l + Q.length := by
  subst hP hA
  refine ⟨?_, ?_, ?_, by simp; omega⟩
  · rw [← List.append_assoc, List.take_left' (by simp)]
  · rw [← List.append_assoc, ← List.drop_drop, List.drop_left' (by simp)]
  · rw [List.drop_left' rfl, List.take_left' rfl]
theorem pc_row (P : PC H 1 2 3 k) (hn : H[5]? = some (nicB s 1)) {j : Nat} {C : List SC} {o : Bool} (hj : H[j]? = some ⟨o, 33, C⟩) (K : But H H' (fun i => i = j)) : PC H' 1 2 3 k ∧ H'[5]? = some (nicB s 1) :=
  ⟨P.but K ⟨ty_ne P.hc hj (by show (73 : Nat) ≠ 33; decide), ty_ne P.h1 hj (by show (76 : Nat) ≠ 33; decide), ty_ne P.h2 hj (by show (76 : Nat) ≠ 33; decide)⟩, K.get hn (ty_ne hn hj (by show (80 : Nat) ≠ 33; decide))⟩
theorem op_xn {G : List SB} (P : PC G 1 2 3 k) (hn : G[5]? = some (nicB s 1)) {g : Nat} {b : SB} (hg : G[g]? = some b) (hb : ¬ tyQ b.ty) : ¬ XN5 1 2 3 5 g := fun h => hb (tyQ_xn (xn_ty P hn hg h))
end
theorem nicOrder_walk : ∀ css, RTyL (RTy T reachBytes DEPTH) [3, 3, 24, 25] css → Spec Try.prog 4 (svs T [3, 3, 24, 25] css) [] fun r _ => r = .c (.v (.bool true)) := by
  intro css h
  obtain ⟨x1, xs1, rfl, h1, g1⟩ := RTyL_cons h
  obtain ⟨x2, xs2, rfl, h2, g2⟩ := RTyL_cons g1
  obtain ⟨x3, xs3, rfl, h3, g3⟩ := RTyL_cons g2
  obtain ⟨x4, xs4, rfl, h4, g4⟩ := RTyL_cons g3
  obtain rfl := RTyL_nil g4
  obtain ⟨n, rfl, hn⟩ := RTy_int T_3 h1
  obtain ⟨m, rfl, hm⟩ := RTy_int T_3 h2
  obtain ⟨own, rfl⟩ := RTy_mac5 h3
  obtain ⟨items, N, rfl, hlen, hmax, hit⟩ := RTy_slice T_25 T_37 h4
  obtain ⟨ops, rfl, hops⟩ := all_form fun x hx => OpS.form (n := 2) (hit.2 x hx)
  simp only [List.length_map] at hlen hmax
  unfold maxLen at hmax
  have e1 : ∀ a : Int, svOf T 3 [.v (.int .i64 a)] = .c (i64 a) := fun _ => rfl
  have e2 : svOf T 24 (bsR own.l) = .agg (macC own) := rfl
  have e3 : svOf T 25 [.sl (ops.map OpS.rc).flatten N (ops.map OpS.rc).length] = .c (.ro (ops.map OpS.rc).flatten N (ops.map OpS.rc).length) := rfl
  simp only [svs, e1, e2, e3]
  have hsz := hit.1
  clear h1 h2 h3 h4 g1 g2 g3 g4 h e1 e2 e3
  by_cases hb : n < 1 ∨ 64 < n ∨ m < 1 ∨ 64 < m
  · refine spec_of_X cx_ok Try.func4 rfl (by kernel_rfl) (by kernel_rfl) (Nat.le_of_ble_eq_true rfl) 400 78 ?_
    simp (maxSteps := 4000000) only [Try.results4, XX, Nat.reduceBEq, Nat.reduceLT, Nat.reduceAdd, Nat.reduceMul, Nat.reduceSub, Nat.reduceLeDiff, Nat.reduceEqDiff, Int.reduceToNat, Int.reduceLT, Int.reduceLE, Int.reduceAdd, Int.reduceSub, Int.reduceEq, reduceIte, Nat.reduceBNe, Int.reducePow, Nat.reducePow, Int.reduceMul, Int.reduceNeg, isB_i, isB_b, isB_y, isBv_i, isBv_b, eqCells_t, TT]
    refine call_plain (live_spec) rfl ?_
    rintro _ rfl
    simp (maxSteps := 4000000) only [Try.results4, XX, Nat.reduceBEq, Nat.reduceLT, Nat.reduceAdd, Nat.reduceMul, Nat.reduceSub, Nat.reduceLeDiff, Nat.reduceEqDiff, Int.reduceToNat, Int.reduceLT, Int.reduceLE, Int.reduceAdd, Int.reduceSub, Int.reduceEq, reduceIte, Nat.reduceBNe, Int.reducePow, Nat.reducePow, Int.reduceMul, Int.reduceNeg, isB_i, isB_b, isB_y, isBv_i, isBv_b, eqCells_t, TT]
    refine call_plain (newN_spec n m hb) rfl ?_
    rintro _ rfl
    simp (maxSteps := 4000000) only [Try.results4, XX, Nat.reduceBEq, Nat.reduceLT, Nat.reduceAdd, Nat.reduceMul, Nat.reduceSub, Nat.reduceLeDiff, Nat.reduceEqDiff, Int.reduceToNat, Int.reduceLT, Int.reduceLE, Int.reduceAdd, Int.reduceSub, Int.reduceEq, reduceIte, Nat.reduceBNe, Int.reducePow, Nat.reducePow, Int.reduceMul, Int.reduceNeg, isB_i, isB_b, isB_y, isBv_i, isBv_b, eqCells_t, TT]
    refine call_plain (new5N_spec own) rfl ?_
    rintro _ rfl
    simp (maxSteps := 4000000) only [Try.results4, XX, Nat.reduceBEq, Nat.reduceLT, Nat.reduceAdd, Nat.reduceMul, Nat.reduceSub, Nat.reduceLeDiff, Nat.reduceEqDiff, Int.reduceToNat, Int.reduceLT, Int.reduceLE, Int.reduceAdd, Int.reduceSub, Int.reduceEq, reduceIte, Nat.reduceBNe, Int.reducePow, Nat.reducePow, Int.reduceMul, Int.reduceNeg, isB_i, isB_b, isB_y, isBv_i, isBv_b, eqCells_t, TT]
    refine call_plain (rnewN_spec n m hb) rfl ?_
    rintro _ rfl
    simp (maxSteps := 4000000) only [Try.results4, XX, Nat.reduceBEq, Nat.reduceLT, Nat.reduceAdd, Nat.reduceMul, Nat.reduceSub, Nat.reduceLeDiff, Nat.reduceEqDiff, Int.reduceToNat, Int.reduceLT, Int.reduceLE, Int.reduceAdd, Int.reduceSub, Int.reduceEq, reduceIte, Nat.reduceBNe, Int.reducePow, Nat.reducePow, Int.reduceMul, Int.reduceNeg, isB_i, isB_b, isB_y, isBv_i, isBv_b, eqCells_t, TT]
  · obtain ⟨n, rfl⟩ : ∃ k : Nat, n = k := ⟨n.toNat, by omega⟩
    obtain ⟨m, rfl⟩ : ∃ k : Nat, m = k := ⟨m.toNat, by omega⟩
    have hN := new_spec n m (by omega) (by omega) (by omega) (by omega)
    refine spec_of_X cx_ok Try.func4 rfl (by kernel_rfl) (by kernel_rfl) (Nat.le_of_ble_eq_true rfl) 400 78 ?_
    simp (maxSteps := 4000000) only [Try.results4, XX, Nat.reduceBEq, Nat.reduceLT, Nat.reduceAdd, Nat.reduceMul, Nat.reduceSub, Nat.reduceLeDiff, Nat.reduceEqDiff, Int.reduceToNat, Int.reduceLT, Int.reduceLE, Int.reduceAdd, Int.reduceSub, Int.reduceEq, reduceIte, Nat.reduceBNe, Int.reducePow, Nat.reducePow, Int.reduceMul, Int.reduceNeg, isB_i, isB_b, isB_y, isBv_i, isBv_b, eqCells_t, TT]
    refine call_plain (live_spec) rfl ?_
    rintro _ rfl
    simp (maxSteps := 4000000) only [Try.results4, XX, Nat.reduceBEq, Nat.reduceLT, Nat.reduceAdd, Nat.reduceMul, Nat.reduceSub, Nat.reduceLeDiff, Nat.reduceEqDiff, Int.reduceToNat, Int.reduceLT, Int.reduceLE, Int.reduceAdd, Int.reduceSub, Int.reduceEq, reduceIte, Nat.reduceBNe, Int.reducePow, Nat.reducePow, Int.reduceMul, Int.reduceNeg, isB_i, isB_b, isB_y, isBv_i, isBv_b, eqCells_t, TT]
    refine call_frame hN [] rfl rfl trivial rfl rfl ?_
    rintro _ _ ⟨rfl, rfl⟩
    simp (maxSteps := 4000000) only [Try.results4, ids_bsC, ren_bsC, noRo_bsC, plain_bsC, lt_bsC, ids_byte, ren_byte, noRo_byte, plain_byte, lt_byte, slC_ren, List.length_replicate, XX, Nat.reduceBEq, Nat.reduceLT, Nat.reduceAdd, Nat.reduceMul, Nat.reduceSub, Nat.reduceLeDiff, Nat.reduceEqDiff, Int.reduceToNat, Int.reduceLT, Int.reduceLE, Int.reduceAdd, Int.reduceSub, Int.reduceEq, reduceIte, Nat.reduceBNe, Int.reducePow, Nat.reducePow, Int.reduceMul, Int.reduceNeg, isB_i, isB_b, isB_y, isBv_i, isBv_b, eqCells_t, TT]
    refine call_is (new5x_spec own) ?_
    rintro _ _ ⟨rfl, rfl⟩
    simp (maxSteps := 4000000) only [Try.results4, XX, Nat.reduceBEq, Nat.reduceLT, Nat.reduceAdd, Nat.reduceMul, Nat.reduceSub, Nat.reduceLeDiff, Nat.reduceEqDiff, Int.reduceToNat, Int.reduceLT, Int.reduceLE, Int.reduceAdd, Int.reduceSub, Int.reduceEq, reduceIte, Nat.reduceBNe, Int.reducePow, Nat.reducePow, Int.reduceMul, Int.reduceNeg, isB_i, isB_b, isB_y, isBv_i, isBv_b, eqCells_t, TT]
    have hsz2 : ops.length * 80 ≤ 140737488351232 := by
      simp only [List.length_map] at hsz
      exact hsz
    have hE : ∀ (w : Nat), RowO ([⟨true, 24, macC own⟩, cardB 2 3 n m (0 : Nat) (0 : Nat) 0 0 0, stB (slC (List.replicate n (slT true))), stB (slC (List.replicate m (slT false))), ⟨true, 24, macC own⟩, nicB ⟨own, 0, 0, 0, 0, 0, 0⟩ 1, ⟨false, 33, []⟩, ⟨false, 33, []⟩] : List SB) (6 + w % 2) 0 false [] 0 := fun w => ⟨⟨[], [], rfl, rfl, by
      rcases (by omega : w % 2 = 0 ∨ w % 2 = 1) with h | h <;> rw [h] <;> rfl⟩, fun h => absurd h (by simp)⟩
    have O0 : Ord n m own (newK n m) ⟨own, 0, 0, 0, 0, 0, 0⟩ [] [] 0 0 := ⟨newK_ok (by omega) (by omega) (by omega) (by omega), Rg.new false n, Rg.new true m, (Nat.zero_mod n).symm, (Nat.zero_mod m).symm, (Nat.zero_mod n).symm, (Nat.zero_mod m).symm, rfl, by omega, by omega⟩
    refine loop_any cx_ok 400 (fun μ σ => ∃ (i : Nat) (ci co : SC) (H : List SB) (k : CK) (s : NS) (came laid : List (List UInt8)) (got gone : Nat) (eI : List OC) (eO : List OE) (iI iO fI fO rI rO : Nat) (oI oO : Bool), μ = N + 2 - i ∧ i ≤ N + 2 ∧ OrdH n m own N i ci co H k s came laid got gone eI eO iI iO fI fO rI rO oI oO ∧ σ = OSt n m own ops N i ci co H) (N + 2)
      (OSt n m own ops N 0 (.sl 6 0 0 0) (.sl 7 0 0 0) [⟨true, 24, macC own⟩, cardB 2 3 n m (0 : Nat) (0 : Nat) 0 0 0, stB (slC (List.replicate n (slT true))), stB (slC (List.replicate m (slT false))), ⟨true, 24, macC own⟩, nicB ⟨own, 0, 0, 0, 0, 0, 0⟩ 1, ⟨false, 33, []⟩, ⟨false, 33, []⟩])
      ⟨0, _, _, _, newK n m, _, [], [], 0, 0, [], [], 6, 7, 0, 0, 0, 0, false, false, rfl, Nat.zero_le _, ⟨⟨by simp, rfl, rfl, by decide⟩, rfl, O0, ⟨rfl, hE 0, hE 1, fun e he => by simp at he, by decide, rfl, rfl⟩, rfl, rfl, Nat.le_refl _, Nat.le_refl _, fun h => by omega, fun b hb => by simp at hb⟩, rfl⟩
      (.inr ⟨[some 0, some 1, some 2, some 3, some 4, some 5, none, none], rfl, rfl, ?_, ?_⟩) ?_
    · exact ⟨⟨.inl ⟨rfl, rfl⟩, fun _ => ⟨rfl, rfl⟩⟩, ⟨.inl ⟨rfl, rfl⟩, fun _ => ⟨rfl, rfl⟩⟩, ⟨.inl ⟨slC_ids _ _, (slC_ren _ _).symm⟩, fun _ => ⟨rfl, rfl⟩⟩, ⟨.inl ⟨slC_ids _ _, (slC_ren _ _).symm⟩, fun _ => ⟨rfl, rfl⟩⟩, ⟨.inl ⟨rfl, rfl⟩, fun _ => ⟨rfl, rfl⟩⟩, ⟨.inl ⟨rfl, rfl⟩, fun _ => ⟨rfl, rfl⟩⟩, ⟨rfl, rfl⟩, ⟨rfl, rfl⟩, trivial⟩
    · simp only [XX, Nat.reduceBEq, Nat.reduceLT, Nat.reduceAdd, Nat.reduceMul, Nat.reduceSub, Nat.reduceLeDiff, Nat.reduceEqDiff, Int.reduceToNat, Int.reduceLT, Int.reduceLE, Int.reduceAdd, Int.reduceSub, Int.reduceEq, reduceIte, Nat.reduceBNe, Int.reducePow, Nat.reducePow, Int.reduceMul, Int.reduceNeg, isB_i, isB_b, isB_y, isBv_i, isBv_b, eqCells_t, TT, ids_bsC, ren_bsC, noRo_bsC, plain_bsC, lt_bsC, ids_byte, ren_byte, noRo_byte, plain_byte, lt_byte]
      exact ⟨.inr (.inr (.inr ⟨6, 0, rfl, .inl rfl⟩)), .inr (.inr (.inr ⟨7, 0, rfl, .inl rfl⟩))⟩
    clear hN hE O0 hit hsz
    rintro μ σ ⟨i, ci, co, H, k, s, came, laid, got, gone, eI, eO, iI, iO, fI, fO, rI, rO, oI, oO, rfl, hi, E, rfl⟩
    by_cases hlt : i < N + 2
    · have di : decide ((i : Int) < ((N + 2 : Nat) : Int)) = true := by simp only [decide_eq_true_eq]; omega
      have ei : IntKind.i64.wrap ((i : Int) + 1) = ((i + 1 : Nat) : Int) := by rw [w64] <;> omega
      have e2 : IntKind.i64.wrap ((N : Int) + 2) = ((N + 2 : Nat) : Int) := by rw [w64] <;> omega
      by_cases hN : i < N
      · have dN : decide ((i : Int) < (N : Int)) = true := by simp only [decide_eq_true_eq]; omega
        obtain ⟨o, ho⟩ : ∃ o, ops[i]? = some o := ⟨_, List.getElem?_eq_getElem (by omega)⟩
        obtain ⟨R, hR⟩ := opsS_drop ho
        simp only [OpS.rc, List.cons_append, List.nil_append] at hR
        have oo := hops o (List.mem_of_getElem? ho)
        have eB : ∀ b : UInt8, (byteR b).toSC = byteC b := fun _ => rfl
        unfold OSt
        by_cases k1 : o.k = 1
        · obtain ⟨ok1, oi1, ol, osp, oc, od, osk, ol2, osp2, oc2⟩ := o
          dsimp only at k1
          subst k1
          simp (maxSteps := 4000000) only [Try.results4, e2, di, dN, hR, eB, set_end, app_self, List.append_assoc, List.getElem?_append_left, List.getElem?_append_right, List.length_append, List.length_set, List.set_append_left, gset, List.getElem?_set_ne, Nat.add_sub_cancel_left, Nat.sub_self, Nat.le_refl, Nat.le_add_right, List.replicate_one, List.flatten_cons, List.flatten_nil, rep_flat, XX, Nat.reduceBEq, Nat.reduceLT, Nat.reduceAdd, Nat.reduceMul, Nat.reduceSub, Nat.reduceLeDiff, Nat.reduceEqDiff, Int.reduceToNat, Int.reduceLT, Int.reduceLE, Int.reduceAdd, Int.reduceSub, Int.reduceEq, reduceIte, Nat.reduceBNe, Int.reducePow, Nat.reducePow, Int.reduceMul, Int.reduceNeg, isB_i, isB_b, isB_y, isBv_i, isBv_b, eqCells_t, TT]
          refine ⟨by omega, ?_⟩
          obtain ⟨g, hg⟩ : ∃ g, g = H.length := ⟨_, rfl⟩
          rw [← hg]
          refine gen_call (fun G => OrdH n m own N i ci co G k s came laid got gone eI eO iI iO fI fO rI rO oI oO ∧ G[g]? = some (opB5 ⟨1, oi1, ol, osp, oc, od, osk, ol2, osp2, oc2⟩)) ⟨E.new (But.new _), by rw [hg]; exact app_self⟩ ?_
          clear E hg
          rintro G ⟨E, gg⟩
          refine call_is (E.P.arrive E.O.ok (.inl rfl)) ?_
          rintro _ h1 ⟨rfl, hh1⟩
          have B1 : But G h1 (XN5 1 2 3 5) := by rw [hh1]; exact setC_but _ _ _ _ _ (.inl rfl) (.inr (.inl rfl)) (.inr (.inr (.inl rfl)))
          have P1 : PC h1 1 2 3 (arrK k ol) := by rw [hh1]; exact E.P.set _
          have hn1 : h1[5]? = some (nicB s 1) := by rw [hh1, setC_off (by decide) (by decide) (by decide)]; exact E.hn
          have gg1 := B1.get gg (op_xn E.P E.hn gg op_tyQ)
          have L1 := E.L.prog E.P E.hn B1
          have O1 := E.O.arr ol
          clear hh1 B1
          have lg1 := lt_of gg1
          simp (maxSteps := 4000000) only [Try.results4, gg1, lg1, XX, Nat.reduceBEq, Nat.reduceLT, Nat.reduceAdd, Nat.reduceMul, Nat.reduceSub, Nat.reduceLeDiff, Nat.reduceEqDiff, Int.reduceToNat, Int.reduceLT, Int.reduceLE, Int.reduceAdd, Int.reduceSub, Int.reduceEq, reduceIte, Nat.reduceBNe, Int.reducePow, Nat.reducePow, Int.reduceMul, Int.reduceNeg, isB_i, isB_b, isB_y, isBv_i, isBv_b, eqCells_t, TT]
          refine call_fz [.c (roB ol osp oc)] (ropenA_spec ol osp oc oo.c) (fun t h' h => resF_noRo h) ⟨.inl ⟨rfl, rfl⟩, trivial⟩ ?_
          rintro _ _ ⟨z, of, rfl, rfl, hof⟩
          obtain ⟨w, hw⟩ : ∃ w, w = h1.length := ⟨_, rfl⟩
          rw [← hw]
          refine gen_hp (fun F => PC F 1 2 3 (arrK k ol) ∧ F[5]? = some (nicB s 1) ∧ OrdL own ci co F eI eO iI iO fI fO rI rO oI oO ∧ F[g]? = some (opB5 ⟨1, oi1, ol, osp, oc, od, osk, ol2, osp2, oc2⟩) ∧ F[w]? = some (wB of ((openR ol).l ++ z))) ⟨P1.app _, (But.new _).get hn1 (fun h => h), L1.new (But.new _), (But.new _).get gg1 (fun h => h), by rw [hw, List.getElem?_append_right (Nat.le_refl _), Nat.sub_self]; show some (SB.mk _ _ (List.map _ (bsC _))) = _; rw [ren_bsC]⟩ ?_
          clear P1 hn1 L1 gg1 hw lg1
          rintro F ⟨P1, hn1, L1, gg1, hw⟩
          have h0 := L1.h0
          have l0 := lt_of h0
          have lg1 := lt_of gg1
          have h0' : ∀ x : SB, (F ++ [x])[0]? = some ⟨true, 24, macC own⟩ := fun x => (List.getElem?_append_left l0).trans h0
          simp (maxSteps := 4000000) only [Try.results4, app_self, set_end, h0', ids_bsC, ren_bsC, noRo_bsC, plain_bsC, lt_bsC, ids_byte, ren_byte, noRo_byte, plain_byte, lt_byte, List.append_assoc, List.getElem?_append_left, List.getElem?_append_right, List.length_append, List.length_set, List.set_append_left, gset, List.getElem?_set_ne, Nat.add_sub_cancel_left, Nat.sub_self, Nat.le_refl, Nat.le_add_right, List.replicate_one, List.flatten_cons, List.flatten_nil, rep_flat, XX, Nat.reduceBEq, Nat.reduceLT, Nat.reduceAdd, Nat.reduceMul, Nat.reduceSub, Nat.reduceLeDiff, Nat.reduceEqDiff, Int.reduceToNat, Int.reduceLT, Int.reduceLE, Int.reduceAdd, Int.reduceSub, Int.reduceEq, reduceIte, Nat.reduceBNe, Int.reducePow, Nat.reducePow, Int.reduceMul, Int.reduceNeg, isB_i, isB_b, isB_y, isBv_i, isBv_b, eqCells_t, TT]
          refine gen_call (fun K => PC K 1 2 3 (arrK k ol) ∧ K[5]? = some (nicB s 1) ∧ OrdL own ci co K eI eO iI iO fI fO rI rO oI oO ∧ K[g]? = some (opB5 ⟨1, oi1, ol, osp, oc, od, osk, ol2, osp2, oc2⟩) ∧ K[w]? = some (wB of ((openR ol).l ++ z))) ⟨P1.app _, (But.new _).get hn1 (fun h => h), L1.new (But.new _), (But.new _).get gg1 (fun h => h), (But.new _).get hw (fun h => h)⟩ ?_
          clear P1 hn1 L1 gg1 hw lg1 h0 h0' l0
          generalize F.length = fi
          clear F
          rintro F ⟨P1, hn1, L1, gg1, hw⟩
          have lg1 := lt_of gg1
          refine call_pureF [.agg (bsC own.l), .agg (fraC (openR ol).d (openR ol).s (openR ol).k (roB (openR ol).l z ((openR ol).l.length + z.length)))] (rmine_spec own (openR ol).d (openR ol).s (openR ol).k (roB (openR ol).l z ((openR ol).l.length + z.length))) ⟨.inl ⟨rfl, rfl⟩, fra_fz (fz_any hw hof), trivial⟩ ?_
          rintro _ rfl
          have inv : ∀ (b : List UInt8), minB own b = (decide ((openR b).e = 0) && mineB own (openR b).d (openR b).s) := fun _ => rfl
          cases ha : arrB k ol with
          | false =>
            rw [ha] at O1
            simp (maxSteps := 4000000) only [Try.results4, ei, XX, Nat.reduceBEq, Nat.reduceLT, Nat.reduceAdd, Nat.reduceMul, Nat.reduceSub, Nat.reduceLeDiff, Nat.reduceEqDiff, Int.reduceToNat, Int.reduceLT, Int.reduceLE, Int.reduceAdd, Int.reduceSub, Int.reduceEq, reduceIte, Nat.reduceBNe, Int.reducePow, Nat.reducePow, Int.reduceMul, Int.reduceNeg, isB_i, isB_b, isB_y, isBv_i, isBv_b, eqCells_t, TT]
            exact ⟨N + 2 - (i + 1), by omega, _, ⟨i + 1, ci, co, F, _, s, came, laid, got, gone, eI, eO, iI, iO, fI, fO, rI, rO, oI, oO, rfl, by omega, ⟨P1, hn1, by simpa using O1, L1, E.qI, E.qO, by have := E.l1; omega, by have := E.l2; omega, fun h => by omega, E.l60⟩, rfl⟩, .inl ⟨rfl, rfl, rfl, rfl, rfl, rfl, rfl, rfl, rfl, rfl, rfl, rfl, rfl, trivial⟩⟩
          | true =>
            rw [ha] at O1
            replace O1 : Ord n m own (arrK k ol) s (came ++ [ol]) laid got gone := by simpa using O1
            have qi := inq_app (own := own) E.O.rx.ab ol
            have lc : (came ++ [ol]).length ≤ i + 1 := by have := E.l1; simp; omega
            cases hmn : minB own ol with
            | false =>
              rw [hmn] at qi
              have hmn' := hmn
              rw [inv, Bool.and_eq_false_iff] at hmn'
              have key : OrdH n m own N (i + 1) ci co F (arrK k ol) s (came ++ [ol]) laid got gone eI eO iI iO fI fO rI rO oI oO := ⟨P1, hn1, O1, L1, by rw [qi, E.qI]; simp, E.qO, lc, by have := E.l2; omega, fun h => by omega, E.l60⟩
              cases hm1 : decide ((openR ol).e = 0) with
              | false =>
                simp (maxSteps := 4000000) only [Try.results4, ei, hm1, XX, Nat.reduceBEq, Nat.reduceLT, Nat.reduceAdd, Nat.reduceMul, Nat.reduceSub, Nat.reduceLeDiff, Nat.reduceEqDiff, Int.reduceToNat, Int.reduceLT, Int.reduceLE, Int.reduceAdd, Int.reduceSub, Int.reduceEq, reduceIte, Nat.reduceBNe, Int.reducePow, Nat.reducePow, Int.reduceMul, Int.reduceNeg, isB_i, isB_b, isB_y, isBv_i, isBv_b, eqCells_t, TT]
                exact ⟨N + 2 - (i + 1), by omega, _, ⟨i + 1, ci, co, F, _, s, _, laid, got, gone, eI, eO, iI, iO, fI, fO, rI, rO, oI, oO, rfl, by omega, key, rfl⟩, .inl ⟨rfl, rfl, rfl, rfl, rfl, rfl, rfl, rfl, rfl, rfl, rfl, rfl, rfl, trivial⟩⟩
              | true =>
                have hm2 : mineB own (openR ol).d (openR ol).s = false := by
                  rcases hmn' with h | h
                  · rw [hm1] at h; cases h
                  · exact h
                simp (maxSteps := 4000000) only [Try.results4, ei, hm1, hm2, XX, Nat.reduceBEq, Nat.reduceLT, Nat.reduceAdd, Nat.reduceMul, Nat.reduceSub, Nat.reduceLeDiff, Nat.reduceEqDiff, Int.reduceToNat, Int.reduceLT, Int.reduceLE, Int.reduceAdd, Int.reduceSub, Int.reduceEq, reduceIte, Nat.reduceBNe, Int.reducePow, Nat.reducePow, Int.reduceMul, Int.reduceNeg, isB_i, isB_b, isB_y, isBv_i, isBv_b, eqCells_t, TT]
                exact ⟨N + 2 - (i + 1), by omega, _, ⟨i + 1, ci, co, F, _, s, _, laid, got, gone, eI, eO, iI, iO, fI, fO, rI, rO, oI, oO, rfl, by omega, key, rfl⟩, .inl ⟨rfl, rfl, rfl, rfl, rfl, rfl, rfl, rfl, rfl, rfl, rfl, rfl, rfl, trivial⟩⟩
            | true =>
              rw [hmn] at qi
              have hmn' := hmn
              rw [inv, Bool.and_eq_true] at hmn'
              obtain ⟨hm1, hm2⟩ := hmn'
              have lI : eI.length ≤ i := by
                have h1 := congrArg List.length E.qI
                rw [List.length_map] at h1
                have h2 : (inq own came got).length ≤ came.length := by unfold inq; exact Nat.le_trans (List.length_filter_le _ _) (by simp)
                have := E.l1; omega
              obtain ⟨Pf, Qf, hp1, hp2, hIw⟩ := L1.I.at_
              have hq : Qf.length = rI := by rw [hp2]; simp
              have hIo := L1.I.own
              rw [List.length_map] at hIo
              have lIw := lt_of hIw
              obtain ⟨c1, c2, c3, c4⟩ := cut_app (Q := Qf) hp1 (show (eI.map OC.sc).length = eI.length by simp)
              have hI' : ∀ x : SB, (F ++ [x])[iI]? = some ⟨oI, 33, Pf ++ (eI.map OC.sc ++ Qf)⟩ := fun x => (List.getElem?_append_left lIw).trans hIw
              simp (maxSteps := 4000000) only [Try.results4, ei, hm1, hm2, gg1, lg1, L1.ci, app_self, hI', List.flatten_cons, List.flatten_nil, List.cons_append, List.nil_append, List.append_nil, List.replicate_succ, List.replicate_zero, List.drop_succ_cons, List.drop_zero, List.length_cons, List.length_nil, Nat.reduceAdd, Nat.reduceLeDiff, reduceIte, XX, Nat.reduceBEq, Nat.reduceLT, Nat.reduceAdd, Nat.reduceMul, Nat.reduceSub, Nat.reduceLeDiff, Nat.reduceEqDiff, Int.reduceToNat, Int.reduceLT, Int.reduceLE, Int.reduceAdd, Int.reduceSub, Int.reduceEq, reduceIte, Nat.reduceBNe, Int.reducePow, Nat.reducePow, Int.reduceMul, Int.reduceNeg, isB_i, isB_b, isB_y, isBv_i, isBv_b, eqCells_t, TT]
              simp only [c1, c2, c3, c4]
              refine ⟨⟨by omega, by unfold maxLen; omega, by omega, fun h => ⟨hIo (by omega), by omega⟩⟩, ?_⟩
              refine xapp_P (fun sv H' => ∃ i' f' r', sv = .c (.sl i' f' (eI.length + 1) (eI.length + 1 + r')) ∧ RowO H' i' f' true ((eI ++ [(⟨ol, osp, oc⟩ : OC)]).map OC.sc) r' ∧ But F H' (fun j => j = iI) ∧ (i' = iI ∨ F.length ≤ i')) (fun h => ?_) (fun h c' g1 g2 => ?_) ?_
              · refine ⟨iI, fI, rI - 1, by rw [show eI.length + 1 + (rI - 1) = eI.length + rI by omega], ⟨⟨Pf, Qf.drop 1, hp1, by rw [hp2, List.drop_replicate], ?_⟩, fun _ => rfl⟩, ⟨by simp, fun j hj hne => ?_⟩, .inl rfl⟩
                · dsimp only
                  rw [List.getElem?_set_self (by simp; omega), hIo (by omega)]
                  simp [List.append_assoc]
                · dsimp only
                  rw [List.getElem?_set_ne (Ne.symm hne), List.getElem?_append_left hj]
              · obtain ⟨j, rfl⟩ := Nat.exists_eq_add_of_le g1
                refine ⟨(F ++ [(⟨true, 33, [roB ol osp oc]⟩ : SB)]).length, 0, j, rfl, ⟨⟨[], List.replicate j (SC.v (.slice none 0 0)), rfl, rfl, ?_⟩, fun _ => rfl⟩, ⟨by simp, fun j hj hne => ?_⟩, .inr (by simp)⟩
                · dsimp only
                  rw [List.getElem?_append_right (Nat.le_refl _), Nat.sub_self, Nat.add_sub_cancel_left, rep_flat1]
                  simp [List.append_assoc]
                · dsimp only
                  rw [List.getElem?_append_left (by simp; omega), List.getElem?_append_left hj]
              rintro _ H' ⟨i', f', r', rfl, R', K', hi'⟩
              have L2 := L1.pushI R' K' hi'
              obtain ⟨P2, hn2⟩ := pc_row P1 hn1 hIw K'
              simp (maxSteps := 4000000) only [Try.results4, ei, XX, Nat.reduceBEq, Nat.reduceLT, Nat.reduceAdd, Nat.reduceMul, Nat.reduceSub, Nat.reduceLeDiff, Nat.reduceEqDiff, Int.reduceToNat, Int.reduceLT, Int.reduceLE, Int.reduceAdd, Int.reduceSub, Int.reduceEq, reduceIte, Nat.reduceBNe, Int.reducePow, Nat.reducePow, Int.reduceMul, Int.reduceNeg, isB_i, isB_b, isB_y, isBv_i, isBv_b, eqCells_t, TT]
              exact ⟨N + 2 - (i + 1), by omega, _, ⟨i + 1, _, co, H', _, s, _, laid, got, gone, _, eO, i', iO, f', fO, r', rO, true, oO, rfl, by omega, ⟨P2, hn2, O1, L2, by rw [qi, List.map_append, E.qI]; rfl, E.qO, lc, by have := E.l2; omega, fun h => by omega, E.l60⟩, rfl⟩, .inl ⟨rfl, rfl, rfl, rfl, rfl, rfl, rfl, rfl, rfl, rfl, rfl, rfl, rfl, trivial⟩⟩
        by_cases k2 : o.k = 2
        · obtain ⟨ok1, oi1, ol, osp, oc, od, osk, ol2, osp2, oc2⟩ := o
          dsimp only at k2
          subst k2
          simp (maxSteps := 4000000) only [Try.results4, e2, di, dN, hR, eB, set_end, app_self, List.append_assoc, List.getElem?_append_left, List.getElem?_append_right, List.length_append, List.length_set, List.set_append_left, gset, List.getElem?_set_ne, Nat.add_sub_cancel_left, Nat.sub_self, Nat.le_refl, Nat.le_add_right, List.replicate_one, List.flatten_cons, List.flatten_nil, rep_flat, XX, Nat.reduceBEq, Nat.reduceLT, Nat.reduceAdd, Nat.reduceMul, Nat.reduceSub, Nat.reduceLeDiff, Nat.reduceEqDiff, Int.reduceToNat, Int.reduceLT, Int.reduceLE, Int.reduceAdd, Int.reduceSub, Int.reduceEq, reduceIte, Nat.reduceBNe, Int.reducePow, Nat.reducePow, Int.reduceMul, Int.reduceNeg, isB_i, isB_b, isB_y, isBv_i, isBv_b, eqCells_t, TT]
          refine ⟨by omega, ?_⟩
          refine gen_call (fun G => OrdH n m own N i ci co G k s came laid got gone eI eO iI iO fI fO rI rO oI oO) (E.new (But.new _)) ?_
          clear E
          rintro G E
          refine call_is (E.P.dep E.O.ok) ?_
          rintro _ h1 ⟨ob, rfl, hh1, hob⟩
          have B1 : But G h1 (XN5 1 2 3 5) := by rw [hh1]; exact (setC_but _ _ _ _ _ (.inl rfl) (.inr (.inl rfl)) (.inr (.inr (.inl rfl)))).app _
          have P1 : PC h1 1 2 3 (depK k) := by rw [hh1]; exact (E.P.set _).app _
          have hn1 : h1[5]? = some (nicB s 1) := by rw [hh1, List.getElem?_append_left (by rw [setC_len]; exact lt_of E.hn), setC_off (by decide) (by decide) (by decide)]; exact E.hn
          have hb1 : h1[G.length]? = some (wB ob (depD k)) := by rw [hh1, List.getElem?_append_right (by rw [setC_len]; exact Nat.le_refl _), setC_len, Nat.sub_self]; rfl
          have L1 := E.L.prog E.P E.hn B1
          obtain ⟨O1, O2⟩ := E.O.dep
          clear hh1 B1
          have lb1 := lt_of hb1
          generalize G.length = gb at *
          have qO := E.qO
          cases hd : depB k with
          | false =>
            obtain ⟨h2, O3⟩ := O2 hd
            obtain rfl : eO = [] := by
              rw [List.drop_of_length_le (by omega)] at qO
              exact List.map_eq_nil_iff.1 qO
            have Lco := L1.co
            have hdd : depD k = [] := by
              unfold depB at hd
              unfold depD
              rw [hd, if_neg (by decide)]
            obtain ⟨Pf, Qf, hp1, hp2, hUw⟩ := L1.U.at_
            have hok := kept_nil (h := h1)
            have mu : (maskL [] 0 h1)[iO]? = some ⟨oO, 33, Pf ++ (([] : List OE).map OE.sc ++ Qf)⟩ := by rw [mask_off rfl]; exact hUw
            have hx : (Pf ++ (([] : List OE).map OE.sc ++ Qf)).getD fO .any = .any ∨ (Pf ++ (([] : List OE).map OE.sc ++ Qf)).getD fO .any = .v (.slice none 0 0) := by
              rw [List.getD_eq_getElem?_getD, ← hp1, List.getElem?_append_right (Nat.le_refl _), Nat.sub_self, hp2]
              cases rO with
              | zero => exact .inl rfl
              | succ r => exact .inr rfl
            generalize Pf ++ (([] : List OE).map OE.sc ++ Qf) = C at *
            simp (maxSteps := 4000000) only [Try.results4, Lco, hdd, List.length_nil, XX, Nat.reduceBEq, Nat.reduceLT, Nat.reduceAdd, Nat.reduceMul, Nat.reduceSub, Nat.reduceLeDiff, Nat.reduceEqDiff, Int.reduceToNat, Int.reduceLT, Int.reduceLE, Int.reduceAdd, Int.reduceSub, Int.reduceEq, reduceIte, Nat.reduceBNe, Int.reducePow, Nat.reducePow, Int.reduceMul, Int.reduceNeg, isB_i, isB_b, isB_y, isBv_i, isBv_b, eqCells_t, TT]
            have ca : ∀ h : List SB, opR T flat h (Op.convert 33 9 (Operand.tmp 125)) [SV.c SC.any] = OR.bad := fun _ => rfl
            have cb : ∀ s : ByteArray, binS TD.str [isBv (Value.string ByteArray.empty)] (flat 9) BinOp.neq (SV.c (SC.v (Value.string s))) (SV.c (SC.v (Value.bool false))) = OR.bad := fun _ => rfl
            rw [hdd] at hb1
            have mg : (maskL [] 0 h1)[gb]? = some ⟨ob, 5, []⟩ := by rw [mask_off rfl]; exact hb1
            rcases hx with hx | hx
            all_goals
              refine draw_of cx_ok (by kernel_rfl) 400 [] [(0, true), (1, true), (2, true), (3, true), (4, true), (5, true), (6, true), (7, true), (8, true), (9, true), (10, true), (11, true), (12, false), (13, false), (14, true), (15, true), (16, true)] (by kernel_rfl) (by first | exact hok | simp [*]) ?_
              simp (maxSteps := 4000000) only [Try.results4, ei, mu, hx, ca, cb, mg, unL_maskL, bsC, List.map_nil, List.length_nil, XX, Nat.reduceBEq, Nat.reduceLT, Nat.reduceAdd, Nat.reduceMul, Nat.reduceSub, Nat.reduceLeDiff, Nat.reduceEqDiff, Int.reduceToNat, Int.reduceLT, Int.reduceLE, Int.reduceAdd, Int.reduceSub, Int.reduceEq, reduceIte, Nat.reduceBNe, Int.reducePow, Nat.reducePow, Int.reduceMul, Int.reduceNeg, isB_i, isB_b, isB_y, isBv_i, isBv_b, eqCells_t, TT]
            all_goals exact ⟨N + 2 - (i + 1), by omega, _, ⟨i + 1, ci, (.sl iO fO 0 rO), h1, _, s, came, laid, got, gone, eI, [], iI, iO, fI, fO, rI, rO, oI, _, rfl, by omega, ⟨P1, hn1, O3, ⟨L1.h0, L1.I, L1.U, L1.aO, L1.ne, L1.ci, by simp⟩, E.qI, E.qO, by have := E.l1; omega, by have := E.l2; omega, fun h => by omega, E.l60⟩, rfl⟩, .inl ⟨rfl, rfl, rfl, rfl, rfl, rfl, rfl, rfl, rfl, rfl, rfl, rfl, rfl, trivial⟩⟩
          | true =>
            obtain ⟨h2, h3, O3⟩ := O1 hd
            obtain ⟨e, eO', rfl⟩ : ∃ e eO', eO = e :: eO' := by
              cases eO with
              | nil => rw [List.map_nil] at qO; have := congrArg List.length qO; rw [List.length_drop] at this; simp at this; omega
              | cons e r => exact ⟨e, r, rfl⟩
            rw [List.map_cons, List.drop_eq_getElem_cons h2] at qO
            obtain ⟨q1, q2⟩ := List.cons.inj qO
            have q3 : e.l = depD k := by rw [q1]; rw [List.getElem?_eq_getElem h2] at h3; exact Option.some.inj h3
            obtain rfl : oO = true := L1.U.own (by simp; omega)
            have Lco := L1.co
            have hwe := L1.aO e (List.mem_cons_self ..)
            obtain ⟨Pf, Qf, hp1, hp2, hUw⟩ := L1.U.at_
            have lwe := lt_of hwe
            have lUw := lt_of hUw
            have ld : decide (0 < (((e :: eO').length : Nat) : Int)) = true := by simp only [List.length_cons, decide_eq_true_eq]; omega
            have dlen : decide (0 < ((eO'.length + 1 : Nat) : Int)) = true := by simp only [decide_eq_true_eq]; omega
            have rd : (Pf ++ ((e :: eO').map OE.sc ++ Qf)).getD fO .any = slB e.w e.l e.p := by
              rw [← hp1, List.getD_eq_getElem?_getD, List.getElem?_append_right (Nat.le_refl _), Nat.sub_self]; rfl
            have rl : fO < (Pf ++ ((e :: eO').map OE.sc ++ Qf)).length := by simp; omega
            have L2 := L1
            have dlp : 0 < (depD k).length := by
              have h5 : (depD k) ∈ laid := List.mem_of_getElem? h3
              have := E.l60 _ h5
              omega
            obtain rfl : ob = true := hob dlp
            have hvo : (wB true (depD k)).void = false := rfl
            rw [q3] at rd hwe
            generalize hC : Pf ++ ((e :: eO').map OE.sc ++ Qf) = C at hUw rd rl
            have ngO : gb ≠ iO := ty_ne hb1 hUw (by show (5 : Nat) ≠ 33; decide)
            obtain ⟨ox, mx⟩ : ∃ o, (maskL [gb, iO, e.w] 0 h1)[gb]? = some ⟨o, 5, bsC (depD k)⟩ := maskL_at hb1
            obtain ⟨oy, my⟩ : ∃ o, (maskL [gb, iO, e.w] 0 h1)[iO]? = some ⟨o, 33, C⟩ := maskL_at hUw
            obtain ⟨oz, mz⟩ : ∃ o, (maskL [gb, iO, e.w] 0 h1)[e.w]? = some ⟨o, 5, bsC (depD k ++ e.p)⟩ := maskL_at hwe
            have hok := kept_cons hb1 rfl (kept_cons hUw rfl (kept_cons hwe rfl kept_nil))
            have lx := lt_of mx
            have ly := lt_of my
            have lz := lt_of mz
            have tk : ∀ a b : List UInt8, (bsC (a ++ b)).take a.length = bsC a := fun a b => by rw [bs_take, List.take_left' rfl]
            have tk0 : ∀ a : List UInt8, (bsC a).take a.length = bsC a := fun a => by rw [bs_take, List.take_length]
            have dself : decide (depD k = depD k) = true := by simp
            simp (maxSteps := 4000000) only [Try.results4, Lco, XX, Nat.reduceBEq, Nat.reduceLT, Nat.reduceAdd, Nat.reduceMul, Nat.reduceSub, Nat.reduceLeDiff, Nat.reduceEqDiff, Int.reduceToNat, Int.reduceLT, Int.reduceLE, Int.reduceAdd, Int.reduceSub, Int.reduceEq, reduceIte, Nat.reduceBNe, Int.reducePow, Nat.reducePow, Int.reduceMul, Int.reduceNeg, isB_i, isB_b, isB_y, isBv_i, isBv_b, eqCells_t, TT]
            refine draw_of cx_ok (by kernel_rfl) 400 [gb, iO, e.w] [(0, true), (1, true), (2, true), (3, true), (4, true), (5, true), (6, true), (7, true), (8, true), (9, true), (10, true), (11, true), (12, true), (13, true), (14, true), (15, true), (16, true)] (by kernel_rfl) (by first | exact hok | simp [*]) ?_
            simp (maxSteps := 4000000) only [Try.results4, hb1, hUw, hwe, mx, my, mz, lx, ly, lz, lb1, lUw, lwe, rd, rl, tk, tk0, strOf_bsC, str_eq, dself, ld, dlen, unL_maskL, ei, XX, Nat.reduceBEq, Nat.reduceLT, Nat.reduceAdd, Nat.reduceMul, Nat.reduceSub, Nat.reduceLeDiff, Nat.reduceEqDiff, Int.reduceToNat, Int.reduceLT, Int.reduceLE, Int.reduceAdd, Int.reduceSub, Int.reduceEq, reduceIte, Nat.reduceBNe, Int.reducePow, Nat.reducePow, Int.reduceMul, Int.reduceNeg, isB_i, isB_b, isB_y, isBv_i, isBv_b, eqCells_t, TT]
            refine ⟨⟨by simp, isByte_bsC _⟩, by omega, ⟨by simp, isByte_bsC _⟩, ⟨by omega, by omega, by omega⟩, ?_⟩
            have L2 : OrdL own ci (.sl iO (fO + 1) eO'.length (eO'.length + rO)) h1 eI eO' iI iO fI (fO + 1) rI rO oI true := ⟨L1.h0, L1.I, (L1.U.drop (t := 1) (by simp)), fun a ha => L1.aO a (List.mem_cons_of_mem _ ha), L1.ne, L1.ci, rfl⟩
            rw [show eO'.length + 1 - 1 = eO'.length by omega, show eO'.length + 1 + rO - 1 = eO'.length + rO by omega]
            exact ⟨N + 2 - (i + 1), by omega, _, ⟨i + 1, ci, _, h1, _, s, came, laid, got, _, eI, eO', iI, iO, fI, _, rI, rO, oI, _, rfl, by omega, ⟨P1, hn1, O3, L2, E.qI, q2, by have := E.l1; omega, by have := E.l2; omega, fun h => by omega, E.l60⟩, rfl⟩, .inl ⟨rfl, rfl, rfl, rfl, rfl, rfl, rfl, rfl, rfl, rfl, rfl, rfl, rfl, trivial⟩⟩
        by_cases k3 : o.k = 3
        · obtain ⟨ok1, oi1, ol, osp, oc, od, osk, ol2, osp2, oc2⟩ := o
          dsimp only at k3
          subst k3
          simp (maxSteps := 4000000) only [Try.results4, e2, di, dN, hR, eB, set_end, app_self, List.append_assoc, List.getElem?_append_left, List.getElem?_append_right, List.length_append, List.length_set, List.set_append_left, gset, List.getElem?_set_ne, Nat.add_sub_cancel_left, Nat.sub_self, Nat.le_refl, Nat.le_add_right, List.replicate_one, List.flatten_cons, List.flatten_nil, rep_flat, XX, Nat.reduceBEq, Nat.reduceLT, Nat.reduceAdd, Nat.reduceMul, Nat.reduceSub, Nat.reduceLeDiff, Nat.reduceEqDiff, Int.reduceToNat, Int.reduceLT, Int.reduceLE, Int.reduceAdd, Int.reduceSub, Int.reduceEq, reduceIte, Nat.reduceBNe, Int.reducePow, Nat.reducePow, Int.reduceMul, Int.reduceNeg, isB_i, isB_b, isB_y, isBv_i, isBv_b, eqCells_t, TT]
          refine ⟨by omega, ?_⟩
          obtain ⟨g, hg⟩ : ∃ g, g = H.length := ⟨_, rfl⟩
          rw [← hg]
          have opQ := op_tyQ
          refine gen_call (fun G => OrdH n m own N i ci co G k s came laid got gone eI eO iI iO fI fO rI rO oI oO ∧ G[g]? = some (opB5 ⟨3, oi1, ol, osp, oc, od, osk, ol2, osp2, oc2⟩)) ⟨E.new (But.new _), by rw [hg]; exact app_self⟩ ?_
          clear E hg
          rintro G ⟨E, gg⟩
          refine call_is (poll_spec E.P E.O.ok E.hn E.O.os oi1 oo.i) ?_
          rintro _ h1 ⟨sc1, es1, rfl, F1, e1, P1, hn1, B1⟩
          have gg1 := B1.get gg (op_xn E.P E.hn gg opQ)
          have L1 := E.L.prog E.P E.hn B1
          obtain ⟨t, t1, t2, t3, O1, e2'⟩ := E.O.poll (oi1).toNat
          rw [e2'] at e1
          have qs := inq_take (own := own) t2
          obtain ⟨X, hX⟩ : ∃ X, X = ((came.drop got).take t).filter (minB own) := ⟨_, rfl⟩
          rw [← hX] at e1 qs
          have lX : X.length ≤ t := by rw [hX]; exact Nat.le_trans (List.length_filter_le _ _) (List.length_take_le _ _)
          have lE : es1.length = X.length := by have := congrArg List.length e1; simpa using this
          have mX : ∀ x ∈ X, minB own x = true := fun x hx => by rw [hX] at hx; exact (List.mem_filter.1 hx).2
          have qI := E.qI
          rw [qs] at qI
          have lI : es1.length ≤ eI.length := by have := congrArg List.length qI; simp at this; omega
          have bI : eI.length ≤ i := by
            have h1 := congrArg List.length E.qI
            rw [List.length_map] at h1
            have h2 : (inq own came got).length ≤ came.length := by unfold inq; exact Nat.le_trans (List.length_filter_le _ _) (by simp)
            have := E.l1; omega
          have fin : N + 1 ≤ i + 1 → got + t = came.length := fun h => by omega
          obtain ⟨k1, hk1⟩ : ∃ k1, k1 = (pollN (oi1).toNat k s).1 := ⟨_, rfl⟩
          obtain ⟨s1, hs1⟩ : ∃ s1, s1 = (pollN (oi1).toNat k s).2.1 := ⟨_, rfl⟩
          rw [← hk1] at P1 O1
          rw [← hs1] at hn1 O1
          clear hk1 hs1 e2' B1 hX
          have lg1 := lt_of gg1
          have Lci := L1.ci
          have d1 : decide ((eI.length : Int) < (es1.length : Int)) = false := by simp only [decide_eq_false_iff_not]; omega
          rcases F1.row with ⟨rfl, rfl⟩ | ⟨iF, oF, rF, rfl, lF, RF⟩
          · have d1 : decide ((eI.length : Int) < 0) = false := by simp only [decide_eq_false_iff_not]; omega
            have d2 : decide ((if oi1 > 0 then oi1 else 0) < (0 : Int)) = false := by simp only [decide_eq_false_iff_not]; split <;> omega
            obtain rfl : X = [] := List.eq_nil_of_length_eq_zero (by rw [← lE]; rfl)
            simp (maxSteps := 4000000) only [Try.results4, gg1, lg1, Lci, d1, d2, XX, Nat.reduceBEq, Nat.reduceLT, Nat.reduceAdd, Nat.reduceMul, Nat.reduceSub, Nat.reduceLeDiff, Nat.reduceEqDiff, Int.reduceToNat, Int.reduceLT, Int.reduceLE, Int.reduceAdd, Int.reduceSub, Int.reduceEq, reduceIte, Nat.reduceBNe, Int.reducePow, Nat.reducePow, Int.reduceMul, Int.reduceNeg, isB_i, isB_b, isB_y, isBv_i, isBv_b, eqCells_t, TT]
            refine loop_rounds cx_ok 400 1 ?_
            simp (maxSteps := 4000000) only [Try.results4, ei, List.length_nil, XX, Nat.reduceBEq, Nat.reduceLT, Nat.reduceAdd, Nat.reduceMul, Nat.reduceSub, Nat.reduceLeDiff, Nat.reduceEqDiff, Int.reduceToNat, Int.reduceLT, Int.reduceLE, Int.reduceAdd, Int.reduceSub, Int.reduceEq, reduceIte, Nat.reduceBNe, Int.reducePow, Nat.reducePow, Int.reduceMul, Int.reduceNeg, isB_i, isB_b, isB_y, isBv_i, isBv_b, eqCells_t, TT]
            refine ⟨⟨by omega, by omega, by omega⟩, ?_⟩
            exact ⟨N + 2 - (i + 1), by omega, _, ⟨i + 1, (.sl iI fI eI.length (eI.length + rI)), co, h1, _, _, came, laid, _, gone, eI, eO, iI, iO, fI, fO, rI, rO, oI, oO, rfl, by omega, ⟨P1, hn1, O1, ⟨L1.h0, L1.I, L1.U, L1.aO, L1.ne, rfl, L1.co⟩, qI, E.qO, by have := E.l1; omega, by have := E.l2; omega, fin, E.l60⟩, rfl⟩, .inl ⟨rfl, rfl, rfl, rfl, rfl, rfl, rfl, rfl, rfl, rfl, rfl, rfl, rfl, trivial⟩⟩
          · have d2 : decide ((if oi1 > 0 then oi1 else 0) < (es1.length : Int)) = false := by simp only [decide_eq_false_iff_not]; split <;> omega
            simp (maxSteps := 4000000) only [Try.results4, gg1, lg1, Lci, d1, d2, XX, Nat.reduceBEq, Nat.reduceLT, Nat.reduceAdd, Nat.reduceMul, Nat.reduceSub, Nat.reduceLeDiff, Nat.reduceEqDiff, Int.reduceToNat, Int.reduceLT, Int.reduceLE, Int.reduceAdd, Int.reduceSub, Int.reduceEq, reduceIte, Nat.reduceBNe, Int.reducePow, Nat.reducePow, Int.reduceMul, Int.reduceNeg, isB_i, isB_b, isB_y, isBv_i, isBv_b, eqCells_t, TT]
            refine loop_any cx_ok 400 (fun μ σ => ∃ (j : Nat) (F : List SB), μ = es1.length - j ∧ j ≤ es1.length ∧ But h1 F Nop ∧ σ = ⟨⟨78, 0⟩, [(0, .c (i64 (n : Nat))), (1, .c (i64 (m : Nat))), (2, .agg (macC own)), (3, .c (.ro (ops.map OpS.rc).flatten N (ops.map OpS.rc).length)), (6, .c (.ptr 0 0)), (8, .c (.v (.bool false))), (10, .c (.ptr 1 0)), (11, .c (.ptr 5 0)), (13, .c (.sl iI fI eI.length (eI.length + rI))), (14, .c co), (15, .c (i64 (i : Nat))), (23, .c (.sl iF 0 es1.length (es1.length + rF))), (24, .c (i64 (j : Nat)))], F⟩) es1.length
              ⟨⟨78, 0⟩, [(0, .c (i64 (n : Nat))), (1, .c (i64 (m : Nat))), (2, .agg (macC own)), (3, .c (.ro (ops.map OpS.rc).flatten N (ops.map OpS.rc).length)), (6, .c (.ptr 0 0)), (8, .c (.v (.bool false))), (10, .c (.ptr 1 0)), (11, .c (.ptr 5 0)), (13, .c (.sl iI fI eI.length (eI.length + rI))), (14, .c co), (15, .c (i64 (i : Nat))), (23, .c (.sl iF 0 es1.length (es1.length + rF))), (24, .c (i64 (0 : Nat)))], h1⟩ ⟨0, h1, rfl, Nat.zero_le _, But.rfl' _ _, rfl⟩ (.inl ⟨rfl, rfl, rfl, rfl, rfl, rfl, rfl, rfl, rfl, rfl, rfl, rfl, rfl, rfl, rfl, trivial⟩) ?_
            rintro μ σ ⟨j, F, rfl, hj, KF, rfl⟩
            by_cases hjl : j < es1.length
            · have dj : decide ((j : Int) < (es1.length : Int)) = true := by simp only [decide_eq_true_eq]; omega
              have ej : IntKind.i64.wrap ((j : Int) + 1) = ((j + 1 : Nat) : Int) := by rw [w64] <;> omega
              obtain ⟨a, ha⟩ : ∃ a, es1[j]? = some a := ⟨_, List.getElem?_eq_getElem hjl⟩
              obtain ⟨T1, hT1⟩ := rowG_at (z := zeroFr) (r := rF) (fe_len (es := es1)) (show (es1.map FE.c)[j]? = some a.c by rw [List.getElem?_map, ha]; rfl)
              have lnA := rowG_len (z := zeroFr) (r := rF) (fe_len (es := es1)) rfl
              rw [List.length_map] at lnA
              have RA := KF.get RF.row (fun h => h)
              have la := lt_of RA
              have tA : ((rowG zeroFr (es1.map FE.c) rF).drop (j * 14)).take 14 = a.c := by rw [hT1]; exact List.take_left' rfl
              obtain ⟨ga1, ga2, ga3⟩ := F1.at_ a (List.mem_of_getElem? ha)
              have ga2' := KF.get ga2 (fun h => h)
              have eaf : es1.map FE.f = X.map openR := e1
              obtain ⟨x, hx⟩ : ∃ x, X[j]? = some x := ⟨_, List.getElem?_eq_getElem (by omega)⟩
              have hax : a.f = openR x := by
                have h1 : (es1.map FE.f)[j]? = some a.f := by rw [List.getElem?_map, ha]; rfl
                rw [eaf, List.getElem?_map, hx] at h1
                exact (Option.some.inj h1).symm
              have hxe : (openR x).e = 0 := by
                have := mX x (List.mem_of_getElem? hx)
                unfold minB at this
                rw [Bool.and_eq_true] at this
                simpa using this.1
              have sx : sealR a.f.d a.f.s a.f.k a.f.l = (x, 0) := by rw [hax]; exact seal_open hxe
              have rs := rsealA_spec a.f.d a.f.s a.f.k a.f.l a.z (a.f.l.length + a.z.length)
              rw [sx] at rs
              obtain ⟨e, he⟩ : ∃ e, eI[j]? = some e := ⟨_, List.getElem?_eq_getElem (by omega)⟩
              have hel : e.l = x := by
                have h1 : (eI.map OC.l)[j]? = some e.l := by rw [List.getElem?_map, he]; rfl
                rw [qI, List.getElem?_append_left (by omega), hx] at h1
                exact (Option.some.inj h1).symm
              obtain ⟨el, esp, ec⟩ := e
              dsimp only at hel
              subst hel
              obtain ⟨Pf, Qf, hp1, hp2, hIw⟩ := L1.I.at_
              have lMI : (eI.map OC.sc).length = eI.length := by simp
              have rdI : (Pf ++ (eI.map OC.sc ++ Qf)).getD (fI + j) .any = roB el esp ec := by
                rw [List.getD_eq_getElem?_getD, ← hp1, List.getElem?_append_right (by omega), Nat.add_sub_cancel_left, List.getElem?_append_left (by omega), List.getElem?_map, he]; rfl
              have rlI : fI + j < (Pf ++ (eI.map OC.sc ++ Qf)).length := by rw [List.length_append, List.length_append]; omega
              generalize Pf ++ (eI.map OC.sc ++ Qf) = C at *
              have hIF := KF.get hIw (fun h => h)
              simp (maxSteps := 4000000) only [Try.results4, dj, RA, la, tA, XX, Nat.reduceBEq, Nat.reduceLT, Nat.reduceAdd, Nat.reduceMul, Nat.reduceSub, Nat.reduceLeDiff, Nat.reduceEqDiff, Int.reduceToNat, Int.reduceLT, Int.reduceLE, Int.reduceAdd, Int.reduceSub, Int.reduceEq, reduceIte, Nat.reduceBNe, Int.reducePow, Nat.reducePow, Int.reduceMul, Int.reduceNeg, isB_i, isB_b, isB_y, isBv_i, isBv_b, eqCells_t, TT]
              refine ⟨⟨by omega, by omega⟩, by rw [lnA]; omega, ?_⟩
              refine call_fz [.agg (fraC a.f.d a.f.s a.f.k (roB a.f.l a.z (a.f.l.length + a.z.length)))] rs (fun t h' h => resB_noRo h) ⟨fra_fz (fz_any ga2' ga3), trivial⟩ ?_
              rintro _ _ ⟨z, o3, rfl, rfl, ho3⟩
              obtain ⟨w, hw⟩ : ∃ w, w = F.length := ⟨_, rfl⟩
              rw [← hw]
              refine gen_hp (fun K => But h1 K Nop ∧ K[iI]? = some ⟨oI, 33, C⟩ ∧ K[w]? = some (wB o3 (el ++ z))) ⟨KF.app _, (But.new _).get hIF (fun h => h), by rw [hw, List.getElem?_append_right (Nat.le_refl _), Nat.sub_self]; show some (SB.mk _ _ (List.map _ (bsC _))) = _; rw [ren_bsC]⟩ ?_
              clear KF RA la ga2' hIF hw
              rintro F ⟨KF, hIF, hw⟩
              have lIF := lt_of hIF
              have lw := lt_of hw
              have l60 : 0 < el.length := Classical.byContradiction fun h => by
                have : el = [] := List.eq_nil_of_length_eq_zero (by omega)
                rw [this] at hxe
                exact absurd hxe (by decide)
              obtain rfl : o3 = true := ho3 (by show 0 < el.length + z.length; omega)
              have tk : ∀ a b : List UInt8, (bsC (a ++ b)).take a.length = bsC a := fun a b => by rw [bs_take, List.take_left' rfl]
              have tkR : ∀ a b : List UInt8, (bsR (a ++ b)).take a.length = bsR a := fun a b => by rw [rs_take, List.take_left' rfl]
              have dq : decide (el = el) = true := by simp
              simp (maxSteps := 4000000) only [Try.results4, ids_bsC, ren_bsC, noRo_bsC, plain_bsC, lt_bsC, ids_byte, ren_byte, noRo_byte, plain_byte, lt_byte, XX, Nat.reduceBEq, Nat.reduceLT, Nat.reduceAdd, Nat.reduceMul, Nat.reduceSub, Nat.reduceLeDiff, Nat.reduceEqDiff, Int.reduceToNat, Int.reduceLT, Int.reduceLE, Int.reduceAdd, Int.reduceSub, Int.reduceEq, reduceIte, Nat.reduceBNe, Int.reducePow, Nat.reducePow, Int.reduceMul, Int.reduceNeg, isB_i, isB_b, isB_y, isBv_i, isBv_b, eqCells_t, TT]
              have nwi : w ≠ iI := ty_ne hw hIF (by show (5 : Nat) ≠ 33; decide)
              have oIt : oI = true := L1.I.own (by rw [List.length_map]; omega)
              subst oIt
              obtain ⟨ox, mx⟩ : ∃ o, (maskL [w, iI] 0 F)[w]? = some ⟨o, 5, bsC (el ++ z)⟩ := maskL_at hw
              obtain ⟨oy, my⟩ : ∃ o, (maskL [w, iI] 0 F)[iI]? = some ⟨o, 33, C⟩ := maskL_at hIF
              have hok := kept_cons hw rfl (kept_cons hIF rfl kept_nil)
              have lx := lt_of mx
              have ly := lt_of my
              refine draw_of cx_ok (by kernel_rfl) 400 [w, iI] [(0, true), (1, true), (2, true), (3, true), (4, true), (5, true), (6, true), (7, true), (8, true), (9, true), (10, true), (11, true)] (by kernel_rfl) (by first | exact hok | simp [*]) ?_
              simp (maxSteps := 4000000) only [Try.results4, hIF, hw, mx, my, lx, ly, lIF, lw, tk, tkR, rdI, bsR_toSC, strOf_bsC, str_eq, dq, ej, unL_maskL, XX, Nat.reduceBEq, Nat.reduceLT, Nat.reduceAdd, Nat.reduceMul, Nat.reduceSub, Nat.reduceLeDiff, Nat.reduceEqDiff, Int.reduceToNat, Int.reduceLT, Int.reduceLE, Int.reduceAdd, Int.reduceSub, Int.reduceEq, reduceIte, Nat.reduceBNe, Int.reducePow, Nat.reducePow, Int.reduceMul, Int.reduceNeg, isB_i, isB_b, isB_y, isBv_i, isBv_b, eqCells_t, TT]
              exact ⟨⟨by simp, isByte_bsC _⟩, ⟨by omega, by omega⟩, rlI, ⟨by simp, isByte_bsC _⟩, es1.length - (j + 1), by omega, _, ⟨j + 1, F, rfl, by omega, KF, rfl⟩, .inl ⟨rfl, rfl, rfl, rfl, rfl, rfl, rfl, rfl, rfl, rfl, rfl, rfl, rfl, rfl, rfl, trivial⟩⟩
            · obtain rfl : j = es1.length := by omega
              have dj : decide ((es1.length : Int) < (es1.length : Int)) = false := by simp
              simp (maxSteps := 4000000) only [Try.results4, dj, ei, XX, Nat.reduceBEq, Nat.reduceLT, Nat.reduceAdd, Nat.reduceMul, Nat.reduceSub, Nat.reduceLeDiff, Nat.reduceEqDiff, Int.reduceToNat, Int.reduceLT, Int.reduceLE, Int.reduceAdd, Int.reduceSub, Int.reduceEq, reduceIte, Nat.reduceBNe, Int.reducePow, Nat.reducePow, Int.reduceMul, Int.reduceNeg, isB_i, isB_b, isB_y, isBv_i, isBv_b, eqCells_t, TT]
              refine ⟨⟨by omega, by omega, by omega, by omega⟩, ?_⟩
              have L2 : OrdL own (.sl iI (fI + es1.length) (eI.length - es1.length) (eI.length + rI - es1.length)) co F (eI.drop es1.length) eO iI iO (fI + es1.length) fO rI rO oI oO := by
                have L' := L1.new KF
                refine ⟨L'.h0, ?_, L'.U, L'.aO, L'.ne, ?_, L'.co⟩
                · rw [List.map_drop]; exact L'.I.drop (by rw [List.length_map]; exact lI)
                · rw [List.length_drop, show eI.length + rI - es1.length = eI.length - es1.length + rI by omega]
              have qI2 : (eI.drop es1.length).map OC.l = inq own came (got + t) := by rw [List.map_drop, qI, List.drop_left' (by omega)]
              exact ⟨N + 2 - (i + 1), by omega, _, ⟨i + 1, _, co, F, _, _, came, laid, _, gone, _, eO, iI, iO, _, fO, rI, rO, oI, oO, rfl, by omega, ⟨P1.new KF, KF.get hn1 (fun h => h), O1, L2, qI2, E.qO, by have := E.l1; omega, by have := E.l2; omega, fin, E.l60⟩, rfl⟩, .inl ⟨rfl, rfl, rfl, rfl, rfl, rfl, rfl, rfl, rfl, rfl, rfl, rfl, rfl, trivial⟩⟩
        by_cases k4 : o.k = 4
        · obtain ⟨ok1, oi1, ol, osp, oc, od, osk, ol2, osp2, oc2⟩ := o
          dsimp only at k4
          subst k4
          simp (maxSteps := 4000000) only [Try.results4, e2, di, dN, hR, eB, set_end, app_self, List.append_assoc, List.getElem?_append_left, List.getElem?_append_right, List.length_append, List.length_set, List.set_append_left, gset, List.getElem?_set_ne, Nat.add_sub_cancel_left, Nat.sub_self, Nat.le_refl, Nat.le_add_right, List.replicate_one, List.flatten_cons, List.flatten_nil, rep_flat, XX, Nat.reduceBEq, Nat.reduceLT, Nat.reduceAdd, Nat.reduceMul, Nat.reduceSub, Nat.reduceLeDiff, Nat.reduceEqDiff, Int.reduceToNat, Int.reduceLT, Int.reduceLE, Int.reduceAdd, Int.reduceSub, Int.reduceEq, reduceIte, Nat.reduceBNe, Int.reducePow, Nat.reducePow, Int.reduceMul, Int.reduceNeg, isB_i, isB_b, isB_y, isBv_i, isBv_b, eqCells_t, TT]
          refine ⟨by omega, ?_⟩
          obtain ⟨g, hg⟩ : ∃ g, g = H.length := ⟨_, rfl⟩
          rw [← hg]
          refine gen_call (fun G => OrdH n m own N i ci co G k s came laid got gone eI eO iI iO fI fO rI rO oI oO ∧ G[g]? = some (opB5 ⟨4, oi1, ol, osp, oc, od, osk, ol2, osp2, oc2⟩)) ⟨E.new (But.new _), by rw [hg]; exact app_self⟩ ?_
          clear E hg
          rintro G ⟨E, gg⟩
          have hs := send5w_spec E.P E.O.ok E.hn E.O.os od osk (x := roB ol2 osp2 oc2) (.inl rfl)
          rw [E.O.mac] at hs
          refine call_is hs ?_
          clear hs
          rintro _ h1 ⟨w, z, ow, rfl, lw, hw, how, P1, hn1, B1⟩
          have gg1 := B1.get gg (op_xn E.P E.hn gg op_tyQ)
          have L1 := E.L.prog E.P E.hn B1
          have q1 := sealR_ok (d := od) (s := own) (kd := osk) (l := ol2)
          have rs := rsealA_spec od own osk ol2 osp2 oc2
          obtain ⟨q, hq⟩ : ∃ q, q = sealR od own osk ol2 := ⟨_, rfl⟩
          rw [← hq] at hw how P1 hn1 q1 rs ⊢
          have O1 := E.O.send q q1
          clear B1
          have lg1 := lt_of gg1
          have h0 := L1.h0
          have l0 := lt_of h0
          simp (maxSteps := 4000000) only [Try.results4, gg1, lg1, h0, l0, XX, Nat.reduceBEq, Nat.reduceLT, Nat.reduceAdd, Nat.reduceMul, Nat.reduceSub, Nat.reduceLeDiff, Nat.reduceEqDiff, Int.reduceToNat, Int.reduceLT, Int.reduceLE, Int.reduceAdd, Int.reduceSub, Int.reduceEq, reduceIte, Nat.reduceBNe, Int.reducePow, Nat.reducePow, Int.reduceMul, Int.reduceNeg, isB_i, isB_b, isB_y, isBv_i, isBv_b, eqCells_t, TT]
          refine call_fz [.agg (fraC od own osk (roB ol2 osp2 oc2))] rs (fun t h' h => resB_noRo h) ⟨.inl ⟨rfl, rfl⟩, trivial⟩ ?_
          rintro _ _ ⟨z2, o2, rfl, rfl, ho2⟩
          obtain ⟨w2, hw2⟩ : ∃ w2, w2 = h1.length := ⟨_, rfl⟩
          rw [← hw2]
          refine gen_hp (fun F => PC F 1 2 3 (sendK k s q) ∧ F[5]? = some (nicB (sendN k s q) 1) ∧ OrdL own ci co F eI eO iI iO fI fO rI rO oI oO ∧ F[w]? = some (wB ow (sendD k s q ++ z)) ∧ F[w2]? = some (wB o2 (q.1 ++ z2))) ⟨P1.app _, (But.new _).get hn1 (fun h => h), L1.new (But.new _), (But.new _).get hw (fun h => h), by rw [hw2, List.getElem?_append_right (Nat.le_refl _), Nat.sub_self]; show some (SB.mk _ _ (List.map _ (bsC _))) = _; rw [ren_bsC]⟩ ?_
          have nww : w ≠ w2 := by have := lt_of hw; omega
          clear P1 hn1 L1 gg1 hw lg1 hw2 h0 l0 rs
          rintro F ⟨P1, hn1, L1, hw, hw2⟩
          simp (maxSteps := 4000000) only [Try.results4, ids_bsC, ren_bsC, noRo_bsC, plain_bsC, lt_bsC, ids_byte, ren_byte, noRo_byte, plain_byte, lt_byte, XX, Nat.reduceBEq, Nat.reduceLT, Nat.reduceAdd, Nat.reduceMul, Nat.reduceSub, Nat.reduceLeDiff, Nat.reduceEqDiff, Int.reduceToNat, Int.reduceLT, Int.reduceLE, Int.reduceAdd, Int.reduceSub, Int.reduceEq, reduceIte, Nat.reduceBNe, Int.reducePow, Nat.reducePow, Int.reduceMul, Int.reduceNeg, isB_i, isB_b, isB_y, isBv_i, isBv_b, eqCells_t, TT]
          have Lco := L1.co
          have lU : eO.length = laid.length - gone := by have := congrArg List.length E.qO; simpa using this
          have lw := lt_of hw
          have lw2 := lt_of hw2
          have tk : ∀ a b : List UInt8, (bsC (a ++ b)).take a.length = bsC a := fun a b => by rw [bs_take, List.take_left' rfl]
          have hse : sendE k s q = if q.2 = 0 then (if seeS k.tx s.t then 3 else 0) else q.2 := rfl
          have see := E.O.see.1
          have tb := E.O.tx.ab
          by_cases z0 : sendE k s q = 0
          · have q0 : q.2 = 0 := by
              by_cases h : q.2 = 0
              · exact h
              · rw [hse, if_neg h] at z0; exact absurd z0 h
            have ns : ¬ seeS k.tx s.t = true := fun h => by rw [hse, if_pos q0, if_pos h] at z0; cases z0
            have lt : eO.length < m := by have := mt see.2 ns; omega
            have dlt : decide ((m : Int) ≤ (eO.length : Int)) = false := by simp only [decide_eq_false_iff_not]; omega
            have eD : sendD k s q = q.1 := by unfold sendD; rw [if_pos z0]
            rw [eD] at hw how ⊢
            obtain ⟨q2, q3⟩ := q1 q0
            obtain rfl : ow = true := how (by omega)
            obtain rfl : o2 = true := ho2 (by omega)
            rw [z0, q0]
            rw [if_pos z0] at O1
            have dq : decide (q.1 = q.1) = true := by simp
            obtain ⟨Pf, Qf, hp1, hp2, hUw⟩ := L1.U.at_
            have hqq : Qf.length = rO := by rw [hp2]; simp
            have hUo := L1.U.own
            rw [List.length_map] at hUo
            have lUw := lt_of hUw
            obtain ⟨c1, c2, c3, c4⟩ := cut_app (Q := Qf) hp1 (show (eO.map OE.sc).length = eO.length by simp)
            have hU' : ∀ x : SB, (F ++ [x])[iO]? = some ⟨oO, 33, Pf ++ (eO.map OE.sc ++ Qf)⟩ := fun x => (List.getElem?_append_left lUw).trans hUw
            have lO : eO.length ≤ i := by have := E.l2; omega
            simp (maxSteps := 4000000) only [Try.results4, Lco, hw, hw2, lw, lw2, tk, strOf_bsC, str_eq, dq, dlt, ei, app_self, hU', List.flatten_cons, List.flatten_nil, List.cons_append, List.nil_append, List.append_nil, List.replicate_succ, List.replicate_zero, List.drop_succ_cons, List.drop_zero, List.length_cons, List.length_nil, Nat.reduceAdd, Nat.reduceLeDiff, reduceIte, XX, Nat.reduceBEq, Nat.reduceLT, Nat.reduceAdd, Nat.reduceMul, Nat.reduceSub, Nat.reduceLeDiff, Nat.reduceEqDiff, Int.reduceToNat, Int.reduceLT, Int.reduceLE, Int.reduceAdd, Int.reduceSub, Int.reduceEq, reduceIte, Nat.reduceBNe, Int.reducePow, Nat.reducePow, Int.reduceMul, Int.reduceNeg, isB_i, isB_b, isB_y, isBv_i, isBv_b, eqCells_t, TT]
            simp only [c1, c2, c3, c4]
            refine ⟨⟨by simp, isByte_bsC _⟩, ⟨by simp, isByte_bsC _⟩, ⟨by omega, by unfold maxLen; omega, by omega, fun h => ⟨hUo (by omega), by omega⟩⟩, ?_⟩
            refine xapp_P (fun sv H' => ∃ i' f' r', sv = .c (.sl i' f' (eO.length + 1) (eO.length + 1 + r')) ∧ RowO H' i' f' true ((eO ++ [(⟨w2, q.1, z2, true⟩ : OE)]).map OE.sc) r' ∧ But F H' (fun j => j = iO) ∧ (i' = iO ∨ F.length ≤ i')) (fun h => ?_) (fun h c' g1 g2 => ?_) ?_
            · refine ⟨iO, fO, rO - 1, by rw [show eO.length + 1 + (rO - 1) = eO.length + rO by omega], ⟨⟨Pf, Qf.drop 1, hp1, by rw [hp2, List.drop_replicate], ?_⟩, fun _ => rfl⟩, ⟨by simp, fun j hj hne => ?_⟩, .inl rfl⟩
              · dsimp only
                rw [List.getElem?_set_self (by simp; omega), hUo (by omega)]
                simp [List.append_assoc, OE.sc]
              · dsimp only
                rw [List.getElem?_set_ne (Ne.symm hne), List.getElem?_append_left hj]
            · obtain ⟨j, rfl⟩ := Nat.exists_eq_add_of_le g1
              refine ⟨(F ++ [(⟨true, 33, [slB w2 q.1 z2]⟩ : SB)]).length, 0, j, rfl, ⟨⟨[], List.replicate j (SC.v (.slice none 0 0)), rfl, rfl, ?_⟩, fun _ => rfl⟩, ⟨by simp, fun j hj hne => ?_⟩, .inr (by simp)⟩
              · dsimp only
                rw [List.getElem?_append_right (Nat.le_refl _), Nat.sub_self, Nat.add_sub_cancel_left, rep_flat1]
                simp [List.append_assoc, OE.sc]
              · dsimp only
                rw [List.getElem?_append_left (by simp; omega), List.getElem?_append_left hj]
            rintro _ H' ⟨i', f', r', rfl, R', K', hi'⟩
            have L2 := L1.pushU R' K' hi' hw2
            obtain ⟨P2, hn2⟩ := pc_row P1 hn1 hUw K'
            simp (maxSteps := 4000000) only [Try.results4, ei, XX, Nat.reduceBEq, Nat.reduceLT, Nat.reduceAdd, Nat.reduceMul, Nat.reduceSub, Nat.reduceLeDiff, Nat.reduceEqDiff, Int.reduceToNat, Int.reduceLT, Int.reduceLE, Int.reduceAdd, Int.reduceSub, Int.reduceEq, reduceIte, Nat.reduceBNe, Int.reducePow, Nat.reducePow, Int.reduceMul, Int.reduceNeg, isB_i, isB_b, isB_y, isBv_i, isBv_b, eqCells_t, TT]
            exact ⟨N + 2 - (i + 1), by omega, _, ⟨i + 1, ci, _, H', _, _, came, _, got, gone, eI, _, iI, i', fI, f', rI, r', oI, true, rfl, by omega, ⟨P2, hn2, O1, L2, E.qI, by rw [List.map_append, E.qO, List.drop_append_of_le_length (by omega)]; rfl, by have := E.l1; omega, by have := E.l2; simp; omega, fun h => by omega, fun b hb => by rcases List.mem_append.1 hb with h | h; exact E.l60 b h; rw [List.mem_singleton.1 h]; exact q2⟩, rfl⟩, .inl ⟨rfl, rfl, rfl, rfl, rfl, rfl, rfl, rfl, rfl, rfl, rfl, rfl, rfl, trivial⟩⟩
          · have eD : sendD k s q = [] := by unfold sendD; rw [if_neg z0]
            rw [eD] at hw ⊢
            rw [if_neg z0] at O1
            have dz : decide (sendE k s q = 0) = false := by simpa using z0
            by_cases q0 : q.2 = 0
            · have ns : seeS k.tx s.t = true := Classical.byContradiction fun h => z0 (by rw [hse, if_pos q0, if_neg h])
              have dge : decide ((m : Int) ≤ (eO.length : Int)) = true := by have := see.1 ns; simp only [decide_eq_true_eq]; omega
              have dq0 : decide (q.2 = 0) = true := by simpa using q0
              simp (maxSteps := 4000000) only [Try.results4, Lco, hw, hw2, lw, lw2, tk, strOf_bsC, str_eq, dge, dz, dq0, ei, List.length_nil, List.take_zero, XX, Nat.reduceBEq, Nat.reduceLT, Nat.reduceAdd, Nat.reduceMul, Nat.reduceSub, Nat.reduceLeDiff, Nat.reduceEqDiff, Int.reduceToNat, Int.reduceLT, Int.reduceLE, Int.reduceAdd, Int.reduceSub, Int.reduceEq, reduceIte, Nat.reduceBNe, Int.reducePow, Nat.reducePow, Int.reduceMul, Int.reduceNeg, isB_i, isB_b, isB_y, isBv_i, isBv_b, eqCells_t, TT]
              exact ⟨N + 2 - (i + 1), by omega, _, ⟨i + 1, ci, (.sl iO fO eO.length (eO.length + rO)), F, _, _, came, laid, got, gone, eI, eO, iI, iO, fI, fO, rI, rO, oI, oO, rfl, by omega, ⟨P1, hn1, O1, ⟨L1.h0, L1.I, L1.U, L1.aO, L1.ne, L1.ci, rfl⟩, E.qI, E.qO, by have := E.l1; omega, by have := E.l2; omega, fun h => by omega, E.l60⟩, rfl⟩, .inl ⟨rfl, rfl, rfl, rfl, rfl, rfl, rfl, rfl, rfl, rfl, rfl, rfl, rfl, trivial⟩⟩
            · have dq0 : decide (q.2 = 0) = false := by simpa using q0
              simp (maxSteps := 4000000) only [Try.results4, Lco, hw, hw2, lw, lw2, tk, strOf_bsC, str_eq, dz, dq0, ei, List.length_nil, List.take_zero, XX, Nat.reduceBEq, Nat.reduceLT, Nat.reduceAdd, Nat.reduceMul, Nat.reduceSub, Nat.reduceLeDiff, Nat.reduceEqDiff, Int.reduceToNat, Int.reduceLT, Int.reduceLE, Int.reduceAdd, Int.reduceSub, Int.reduceEq, reduceIte, Nat.reduceBNe, Int.reducePow, Nat.reducePow, Int.reduceMul, Int.reduceNeg, isB_i, isB_b, isB_y, isBv_i, isBv_b, eqCells_t, TT]
              exact ⟨N + 2 - (i + 1), by omega, _, ⟨i + 1, ci, (.sl iO fO eO.length (eO.length + rO)), F, _, _, came, laid, got, gone, eI, eO, iI, iO, fI, fO, rI, rO, oI, oO, rfl, by omega, ⟨P1, hn1, O1, ⟨L1.h0, L1.I, L1.U, L1.aO, L1.ne, L1.ci, rfl⟩, E.qI, E.qO, by have := E.l1; omega, by have := E.l2; omega, fun h => by omega, E.l60⟩, rfl⟩, .inl ⟨rfl, rfl, rfl, rfl, rfl, rfl, rfl, rfl, rfl, rfl, rfl, rfl, rfl, trivial⟩⟩
        · have d1 : decide (o.k = 1) = false := by simpa using k1
          have d2 : decide (o.k = 2) = false := by simpa using k2
          have d3 : decide (o.k = 3) = false := by simpa using k3
          have d4 : decide (o.k = 4) = false := by simpa using k4
          simp (maxSteps := 4000000) only [Try.results4, e2, di, dN, ei, hR, eB, d1, d2, d3, d4, set_end, app_self, List.append_assoc, List.getElem?_append_left, List.getElem?_append_right, List.length_append, List.length_set, List.set_append_left, gset, List.getElem?_set_ne, Nat.add_sub_cancel_left, Nat.sub_self, Nat.le_refl, Nat.le_add_right, List.replicate_one, List.flatten_cons, List.flatten_nil, rep_flat, XX, Nat.reduceBEq, Nat.reduceLT, Nat.reduceAdd, Nat.reduceMul, Nat.reduceSub, Nat.reduceLeDiff, Nat.reduceEqDiff, Int.reduceToNat, Int.reduceLT, Int.reduceLE, Int.reduceAdd, Int.reduceSub, Int.reduceEq, reduceIte, Nat.reduceBNe, Int.reducePow, Nat.reducePow, Int.reduceMul, Int.reduceNeg, isB_i, isB_b, isB_y, isBv_i, isBv_b, eqCells_t, TT]
          have E' := E.new (But.new [opB5 o])
          refine ⟨by omega, N + 2 - (i + 1), by omega, _, ⟨i + 1, ci, co, _, k, s, came, laid, got, gone, eI, eO, iI, iO, fI, fO, rI, rO, oI, oO, rfl, by omega, ⟨E'.P, E'.hn, E'.O, E'.L, E'.qI, E'.qO, by have := E.l1; omega, by have := E.l2; omega, fun h => by omega, E'.l60⟩, rfl⟩, .inl ⟨rfl, rfl, rfl, rfl, rfl, rfl, rfl, rfl, rfl, rfl, rfl, rfl, rfl, trivial⟩⟩
      · have dN : decide ((i : Int) < (N : Int)) = false := by simp only [decide_eq_false_iff_not]; omega
        unfold OSt
        simp (maxSteps := 4000000) only [Try.results4, e2, di, dN, set_end, app_self, List.append_assoc, List.getElem?_append_left, List.getElem?_append_right, List.length_append, List.length_set, List.set_append_left, gset, List.getElem?_set_ne, Nat.add_sub_cancel_left, Nat.sub_self, Nat.le_refl, Nat.le_add_right, List.replicate_one, List.flatten_cons, List.flatten_nil, rep_flat, XX, Nat.reduceBEq, Nat.reduceLT, Nat.reduceAdd, Nat.reduceMul, Nat.reduceSub, Nat.reduceLeDiff, Nat.reduceEqDiff, Int.reduceToNat, Int.reduceLT, Int.reduceLE, Int.reduceAdd, Int.reduceSub, Int.reduceEq, reduceIte, Nat.reduceBNe, Int.reducePow, Nat.reducePow, Int.reduceMul, Int.reduceNeg, isB_i, isB_b, isB_y, isBv_i, isBv_b, eqCells_t, TT]
        obtain ⟨g, hg⟩ : ∃ g, g = H.length := ⟨_, rfl⟩
        rw [← hg]
        have opQ := op_tyQ
        refine gen_call (fun G => OrdH n m own N i ci co G k s came laid got gone eI eO iI iO fI fO rI rO oI oO ∧ G[g]? = some ⟨true, 37, [i64 3, i64 (n : Nat), .v (.slice none 0 0), byteC 0, byteC 0, byteC 0, byteC 0, byteC 0, byteC 0, i64 0, .v (.slice none 0 0)]⟩) ⟨E.new (But.new _), by rw [hg]; exact app_self⟩ ?_
        clear E hg
        rintro G ⟨E, gg⟩
        refine call_is (poll_spec E.P E.O.ok E.hn E.O.os ((n : Nat) : Int) ⟨by omega, by omega⟩) ?_
        rintro _ h1 ⟨sc1, es1, rfl, F1, e1, P1, hn1, B1⟩
        have gg1 := B1.get gg (op_xn E.P E.hn gg opQ)
        have L1 := E.L.prog E.P E.hn B1
        obtain ⟨t, t1, t2, t3, O1, e2'⟩ := E.O.poll (((n : Nat) : Int)).toNat
        rw [e2'] at e1
        have qs := inq_take (own := own) t2
        obtain ⟨X, hX⟩ : ∃ X, X = ((came.drop got).take t).filter (minB own) := ⟨_, rfl⟩
        rw [← hX] at e1 qs
        have lX : X.length ≤ t := by rw [hX]; exact Nat.le_trans (List.length_filter_le _ _) (List.length_take_le _ _)
        have lE : es1.length = X.length := by have := congrArg List.length e1; simpa using this
        have mX : ∀ x ∈ X, minB own x = true := fun x hx => by rw [hX] at hx; exact (List.mem_filter.1 hx).2
        have qI := E.qI
        rw [qs] at qI
        have lI : es1.length ≤ eI.length := by have := congrArg List.length qI; simp at this; omega
        have bI : eI.length ≤ i := by
          have h1 := congrArg List.length E.qI
          rw [List.length_map] at h1
          have h2 : (inq own came got).length ≤ came.length := by unfold inq; exact Nat.le_trans (List.length_filter_le _ _) (by simp)
          have := E.l1; omega
        have fin : N + 1 ≤ i + 1 → got + t = came.length := by
          have := E.O.rx.bn
          omega
        obtain ⟨k1, hk1⟩ : ∃ k1, k1 = (pollN (((n : Nat) : Int)).toNat k s).1 := ⟨_, rfl⟩
        obtain ⟨s1, hs1⟩ : ∃ s1, s1 = (pollN (((n : Nat) : Int)).toNat k s).2.1 := ⟨_, rfl⟩
        rw [← hk1] at P1 O1
        rw [← hs1] at hn1 O1
        clear hk1 hs1 e2' B1 hX
        have lg1 := lt_of gg1
        have Lci := L1.ci
        have d1 : decide ((eI.length : Int) < (es1.length : Int)) = false := by simp only [decide_eq_false_iff_not]; omega
        rcases F1.row with ⟨rfl, rfl⟩ | ⟨iF, oF, rF, rfl, lF, RF⟩
        · have d1 : decide ((eI.length : Int) < 0) = false := by simp only [decide_eq_false_iff_not]; omega
          have d2 : decide ((if ((n : Nat) : Int) > 0 then ((n : Nat) : Int) else 0) < (0 : Int)) = false := by simp only [decide_eq_false_iff_not]; split <;> omega
          obtain rfl : X = [] := List.eq_nil_of_length_eq_zero (by rw [← lE]; rfl)
          simp (maxSteps := 4000000) only [Try.results4, gg1, lg1, Lci, d1, d2, XX, Nat.reduceBEq, Nat.reduceLT, Nat.reduceAdd, Nat.reduceMul, Nat.reduceSub, Nat.reduceLeDiff, Nat.reduceEqDiff, Int.reduceToNat, Int.reduceLT, Int.reduceLE, Int.reduceAdd, Int.reduceSub, Int.reduceEq, reduceIte, Nat.reduceBNe, Int.reducePow, Nat.reducePow, Int.reduceMul, Int.reduceNeg, isB_i, isB_b, isB_y, isBv_i, isBv_b, eqCells_t, TT]
          refine loop_rounds cx_ok 400 1 ?_
          simp (maxSteps := 4000000) only [Try.results4, ei, List.length_nil, XX, Nat.reduceBEq, Nat.reduceLT, Nat.reduceAdd, Nat.reduceMul, Nat.reduceSub, Nat.reduceLeDiff, Nat.reduceEqDiff, Int.reduceToNat, Int.reduceLT, Int.reduceLE, Int.reduceAdd, Int.reduceSub, Int.reduceEq, reduceIte, Nat.reduceBNe, Int.reducePow, Nat.reducePow, Int.reduceMul, Int.reduceNeg, isB_i, isB_b, isB_y, isBv_i, isBv_b, eqCells_t, TT]
          refine ⟨⟨by omega, by omega, by omega⟩, ?_⟩
          exact ⟨N + 2 - (i + 1), by omega, _, ⟨i + 1, (.sl iI fI eI.length (eI.length + rI)), co, h1, _, _, came, laid, _, gone, eI, eO, iI, iO, fI, fO, rI, rO, oI, oO, rfl, by omega, ⟨P1, hn1, O1, ⟨L1.h0, L1.I, L1.U, L1.aO, L1.ne, rfl, L1.co⟩, qI, E.qO, by have := E.l1; omega, by have := E.l2; omega, fin, E.l60⟩, rfl⟩, .inl ⟨rfl, rfl, rfl, rfl, rfl, rfl, rfl, rfl, rfl, rfl, rfl, rfl, rfl, trivial⟩⟩
        · have d2 : decide ((if ((n : Nat) : Int) > 0 then ((n : Nat) : Int) else 0) < (es1.length : Int)) = false := by simp only [decide_eq_false_iff_not]; split <;> omega
          simp (maxSteps := 4000000) only [Try.results4, gg1, lg1, Lci, d1, d2, XX, Nat.reduceBEq, Nat.reduceLT, Nat.reduceAdd, Nat.reduceMul, Nat.reduceSub, Nat.reduceLeDiff, Nat.reduceEqDiff, Int.reduceToNat, Int.reduceLT, Int.reduceLE, Int.reduceAdd, Int.reduceSub, Int.reduceEq, reduceIte, Nat.reduceBNe, Int.reducePow, Nat.reducePow, Int.reduceMul, Int.reduceNeg, isB_i, isB_b, isB_y, isBv_i, isBv_b, eqCells_t, TT]
          refine loop_any cx_ok 400 (fun μ σ => ∃ (j : Nat) (F : List SB), μ = es1.length - j ∧ j ≤ es1.length ∧ But h1 F Nop ∧ σ = ⟨⟨78, 0⟩, [(0, .c (i64 (n : Nat))), (1, .c (i64 (m : Nat))), (2, .agg (macC own)), (3, .c (.ro (ops.map OpS.rc).flatten N (ops.map OpS.rc).length)), (6, .c (.ptr 0 0)), (8, .c (.v (.bool false))), (10, .c (.ptr 1 0)), (11, .c (.ptr 5 0)), (13, .c (.sl iI fI eI.length (eI.length + rI))), (14, .c co), (15, .c (i64 (i : Nat))), (23, .c (.sl iF 0 es1.length (es1.length + rF))), (24, .c (i64 (j : Nat)))], F⟩) es1.length
            ⟨⟨78, 0⟩, [(0, .c (i64 (n : Nat))), (1, .c (i64 (m : Nat))), (2, .agg (macC own)), (3, .c (.ro (ops.map OpS.rc).flatten N (ops.map OpS.rc).length)), (6, .c (.ptr 0 0)), (8, .c (.v (.bool false))), (10, .c (.ptr 1 0)), (11, .c (.ptr 5 0)), (13, .c (.sl iI fI eI.length (eI.length + rI))), (14, .c co), (15, .c (i64 (i : Nat))), (23, .c (.sl iF 0 es1.length (es1.length + rF))), (24, .c (i64 (0 : Nat)))], h1⟩ ⟨0, h1, rfl, Nat.zero_le _, But.rfl' _ _, rfl⟩ (.inl ⟨rfl, rfl, rfl, rfl, rfl, rfl, rfl, rfl, rfl, rfl, rfl, rfl, rfl, rfl, rfl, trivial⟩) ?_
          rintro μ σ ⟨j, F, rfl, hj, KF, rfl⟩
          by_cases hjl : j < es1.length
          · have dj : decide ((j : Int) < (es1.length : Int)) = true := by simp only [decide_eq_true_eq]; omega
            have ej : IntKind.i64.wrap ((j : Int) + 1) = ((j + 1 : Nat) : Int) := by rw [w64] <;> omega
            obtain ⟨a, ha⟩ : ∃ a, es1[j]? = some a := ⟨_, List.getElem?_eq_getElem hjl⟩
            obtain ⟨T1, hT1⟩ := rowG_at (z := zeroFr) (r := rF) (fe_len (es := es1)) (show (es1.map FE.c)[j]? = some a.c by rw [List.getElem?_map, ha]; rfl)
            have lnA := rowG_len (z := zeroFr) (r := rF) (fe_len (es := es1)) rfl
            rw [List.length_map] at lnA
            have RA := KF.get RF.row (fun h => h)
            have la := lt_of RA
            have tA : ((rowG zeroFr (es1.map FE.c) rF).drop (j * 14)).take 14 = a.c := by rw [hT1]; exact List.take_left' rfl
            obtain ⟨ga1, ga2, ga3⟩ := F1.at_ a (List.mem_of_getElem? ha)
            have ga2' := KF.get ga2 (fun h => h)
            have eaf : es1.map FE.f = X.map openR := e1
            obtain ⟨x, hx⟩ : ∃ x, X[j]? = some x := ⟨_, List.getElem?_eq_getElem (by omega)⟩
            have hax : a.f = openR x := by
              have h1 : (es1.map FE.f)[j]? = some a.f := by rw [List.getElem?_map, ha]; rfl
              rw [eaf, List.getElem?_map, hx] at h1
              exact (Option.some.inj h1).symm
            have hxe : (openR x).e = 0 := by
              have := mX x (List.mem_of_getElem? hx)
              unfold minB at this
              rw [Bool.and_eq_true] at this
              simpa using this.1
            have sx : sealR a.f.d a.f.s a.f.k a.f.l = (x, 0) := by rw [hax]; exact seal_open hxe
            have rs := rsealA_spec a.f.d a.f.s a.f.k a.f.l a.z (a.f.l.length + a.z.length)
            rw [sx] at rs
            obtain ⟨e, he⟩ : ∃ e, eI[j]? = some e := ⟨_, List.getElem?_eq_getElem (by omega)⟩
            have hel : e.l = x := by
              have h1 : (eI.map OC.l)[j]? = some e.l := by rw [List.getElem?_map, he]; rfl
              rw [qI, List.getElem?_append_left (by omega), hx] at h1
              exact (Option.some.inj h1).symm
            obtain ⟨el, esp, ec⟩ := e
            dsimp only at hel
            subst hel
            obtain ⟨Pf, Qf, hp1, hp2, hIw⟩ := L1.I.at_
            have lMI : (eI.map OC.sc).length = eI.length := by simp
            have rdI : (Pf ++ (eI.map OC.sc ++ Qf)).getD (fI + j) .any = roB el esp ec := by
              rw [List.getD_eq_getElem?_getD, ← hp1, List.getElem?_append_right (by omega), Nat.add_sub_cancel_left, List.getElem?_append_left (by omega), List.getElem?_map, he]; rfl
            have rlI : fI + j < (Pf ++ (eI.map OC.sc ++ Qf)).length := by rw [List.length_append, List.length_append]; omega
            generalize Pf ++ (eI.map OC.sc ++ Qf) = C at *
            have hIF := KF.get hIw (fun h => h)
            simp (maxSteps := 4000000) only [Try.results4, dj, RA, la, tA, XX, Nat.reduceBEq, Nat.reduceLT, Nat.reduceAdd, Nat.reduceMul, Nat.reduceSub, Nat.reduceLeDiff, Nat.reduceEqDiff, Int.reduceToNat, Int.reduceLT, Int.reduceLE, Int.reduceAdd, Int.reduceSub, Int.reduceEq, reduceIte, Nat.reduceBNe, Int.reducePow, Nat.reducePow, Int.reduceMul, Int.reduceNeg, isB_i, isB_b, isB_y, isBv_i, isBv_b, eqCells_t, TT]
            refine ⟨⟨by omega, by omega⟩, by rw [lnA]; omega, ?_⟩
            refine call_fz [.agg (fraC a.f.d a.f.s a.f.k (roB a.f.l a.z (a.f.l.length + a.z.length)))] rs (fun t h' h => resB_noRo h) ⟨fra_fz (fz_any ga2' ga3), trivial⟩ ?_
            rintro _ _ ⟨z, o3, rfl, rfl, ho3⟩
            obtain ⟨w, hw⟩ : ∃ w, w = F.length := ⟨_, rfl⟩
            rw [← hw]
            refine gen_hp (fun K => But h1 K Nop ∧ K[iI]? = some ⟨oI, 33, C⟩ ∧ K[w]? = some (wB o3 (el ++ z))) ⟨KF.app _, (But.new _).get hIF (fun h => h), by rw [hw, List.getElem?_append_right (Nat.le_refl _), Nat.sub_self]; show some (SB.mk _ _ (List.map _ (bsC _))) = _; rw [ren_bsC]⟩ ?_
            clear KF RA la ga2' hIF hw
            rintro F ⟨KF, hIF, hw⟩
            have lIF := lt_of hIF
            have lw := lt_of hw
            have l60 : 0 < el.length := Classical.byContradiction fun h => by
              have : el = [] := List.eq_nil_of_length_eq_zero (by omega)
              rw [this] at hxe
              exact absurd hxe (by decide)
            obtain rfl : o3 = true := ho3 (by show 0 < el.length + z.length; omega)
            have tk : ∀ a b : List UInt8, (bsC (a ++ b)).take a.length = bsC a := fun a b => by rw [bs_take, List.take_left' rfl]
            have tkR : ∀ a b : List UInt8, (bsR (a ++ b)).take a.length = bsR a := fun a b => by rw [rs_take, List.take_left' rfl]
            have dq : decide (el = el) = true := by simp
            simp (maxSteps := 4000000) only [Try.results4, ids_bsC, ren_bsC, noRo_bsC, plain_bsC, lt_bsC, ids_byte, ren_byte, noRo_byte, plain_byte, lt_byte, XX, Nat.reduceBEq, Nat.reduceLT, Nat.reduceAdd, Nat.reduceMul, Nat.reduceSub, Nat.reduceLeDiff, Nat.reduceEqDiff, Int.reduceToNat, Int.reduceLT, Int.reduceLE, Int.reduceAdd, Int.reduceSub, Int.reduceEq, reduceIte, Nat.reduceBNe, Int.reducePow, Nat.reducePow, Int.reduceMul, Int.reduceNeg, isB_i, isB_b, isB_y, isBv_i, isBv_b, eqCells_t, TT]
            have nwi : w ≠ iI := ty_ne hw hIF (by show (5 : Nat) ≠ 33; decide)
            have oIt : oI = true := L1.I.own (by rw [List.length_map]; omega)
            subst oIt
            obtain ⟨ox, mx⟩ : ∃ o, (maskL [w, iI] 0 F)[w]? = some ⟨o, 5, bsC (el ++ z)⟩ := maskL_at hw
            obtain ⟨oy, my⟩ : ∃ o, (maskL [w, iI] 0 F)[iI]? = some ⟨o, 33, C⟩ := maskL_at hIF
            have hok := kept_cons hw rfl (kept_cons hIF rfl kept_nil)
            have lx := lt_of mx
            have ly := lt_of my
            refine draw_of cx_ok (by kernel_rfl) 400 [w, iI] [(0, true), (1, true), (2, true), (3, true), (4, true), (5, true), (6, true), (7, true), (8, true), (9, true), (10, true), (11, true)] (by kernel_rfl) (by first | exact hok | simp [*]) ?_
            simp (maxSteps := 4000000) only [Try.results4, hIF, hw, mx, my, lx, ly, lIF, lw, tk, tkR, rdI, bsR_toSC, strOf_bsC, str_eq, dq, ej, unL_maskL, XX, Nat.reduceBEq, Nat.reduceLT, Nat.reduceAdd, Nat.reduceMul, Nat.reduceSub, Nat.reduceLeDiff, Nat.reduceEqDiff, Int.reduceToNat, Int.reduceLT, Int.reduceLE, Int.reduceAdd, Int.reduceSub, Int.reduceEq, reduceIte, Nat.reduceBNe, Int.reducePow, Nat.reducePow, Int.reduceMul, Int.reduceNeg, isB_i, isB_b, isB_y, isBv_i, isBv_b, eqCells_t, TT]
            exact ⟨⟨by simp, isByte_bsC _⟩, ⟨by omega, by omega⟩, rlI, ⟨by simp, isByte_bsC _⟩, es1.length - (j + 1), by omega, _, ⟨j + 1, F, rfl, by omega, KF, rfl⟩, .inl ⟨rfl, rfl, rfl, rfl, rfl, rfl, rfl, rfl, rfl, rfl, rfl, rfl, rfl, rfl, rfl, trivial⟩⟩
          · obtain rfl : j = es1.length := by omega
            have dj : decide ((es1.length : Int) < (es1.length : Int)) = false := by simp
            simp (maxSteps := 4000000) only [Try.results4, dj, ei, XX, Nat.reduceBEq, Nat.reduceLT, Nat.reduceAdd, Nat.reduceMul, Nat.reduceSub, Nat.reduceLeDiff, Nat.reduceEqDiff, Int.reduceToNat, Int.reduceLT, Int.reduceLE, Int.reduceAdd, Int.reduceSub, Int.reduceEq, reduceIte, Nat.reduceBNe, Int.reducePow, Nat.reducePow, Int.reduceMul, Int.reduceNeg, isB_i, isB_b, isB_y, isBv_i, isBv_b, eqCells_t, TT]
            refine ⟨⟨by omega, by omega, by omega, by omega⟩, ?_⟩
            have L2 : OrdL own (.sl iI (fI + es1.length) (eI.length - es1.length) (eI.length + rI - es1.length)) co F (eI.drop es1.length) eO iI iO (fI + es1.length) fO rI rO oI oO := by
              have L' := L1.new KF
              refine ⟨L'.h0, ?_, L'.U, L'.aO, L'.ne, ?_, L'.co⟩
              · rw [List.map_drop]; exact L'.I.drop (by rw [List.length_map]; exact lI)
              · rw [List.length_drop, show eI.length + rI - es1.length = eI.length - es1.length + rI by omega]
            have qI2 : (eI.drop es1.length).map OC.l = inq own came (got + t) := by rw [List.map_drop, qI, List.drop_left' (by omega)]
            exact ⟨N + 2 - (i + 1), by omega, _, ⟨i + 1, _, co, F, _, _, came, laid, _, gone, _, eO, iI, iO, _, fO, rI, rO, oI, oO, rfl, by omega, ⟨P1.new KF, KF.get hn1 (fun h => h), O1, L2, qI2, E.qO, by have := E.l1; omega, by have := E.l2; omega, fin, E.l60⟩, rfl⟩, .inl ⟨rfl, rfl, rfl, rfl, rfl, rfl, rfl, rfl, rfl, rfl, rfl, rfl, rfl, trivial⟩⟩
    · obtain rfl : i = N + 2 := by omega
      have di : decide (((N + 2 : Nat) : Int) < ((N + 2 : Nat) : Int)) = false := by simp
      have e2 : IntKind.i64.wrap ((N : Int) + 2) = ((N + 2 : Nat) : Int) := by rw [w64] <;> omega
      have hf := E.fin (by omega)
      have qI := E.qI
      unfold inq at qI
      rw [List.drop_of_length_le (by omega), List.filter_nil] at qI
      obtain rfl : eI = [] := List.map_eq_nil_iff.1 qI
      have Lci := E.L.ci
      unfold OSt
      simp (maxSteps := 4000000) only [Try.results4, e2, di, Lci, List.length_nil, XX, Nat.reduceBEq, Nat.reduceLT, Nat.reduceAdd, Nat.reduceMul, Nat.reduceSub, Nat.reduceLeDiff, Nat.reduceEqDiff, Int.reduceToNat, Int.reduceLT, Int.reduceLE, Int.reduceAdd, Int.reduceSub, Int.reduceEq, reduceIte, Nat.reduceBNe, Int.reducePow, Nat.reducePow, Int.reduceMul, Int.reduceNeg, isB_i, isB_b, isB_y, isBv_i, isBv_b, eqCells_t, TT]
end Go.Proofs.Ythbojoiogjdbeaa.Sx
