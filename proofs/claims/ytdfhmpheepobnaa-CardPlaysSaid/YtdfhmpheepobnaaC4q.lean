/- The symbolic executor, at work: both cards in a heap, and their calls. No condition. -/
import Derived.Test.YtdfhmpheepobnaaC4p
namespace Go.Proofs.Ytdfhmpheepobnaa.Sx
open Go
set_option linter.unusedSimpArgs false
set_option linter.unusedVariables false
set_option maxRecDepth 10000
set_option maxHeartbeats 2000000

theorem maskL_len (L : List Nat) : ∀ (h : List SB) (k : Nat), (maskL L k h).length = h.length
  | [], _ => rfl
  | b :: r, k => by simp [maskL, maskL_len L r (k + 1)]
theorem unL_len (L : List Nat) : ∀ (h0 h : List SB) (k : Nat), (unL L k h0 h).length = h.length
  | [], [], _ => rfl
  | _ :: _, [], _ => rfl
  | [], _ :: _, _ => rfl
  | b0 :: r0, b :: r, k => by simp [unL, unL_len L r0 r (k + 1)]

/-- All but some windows, and a book's, stay. -/
def Kp (X : Nat → Prop) (H h' : List SB) : Prop := H.length ≤ h'.length ∧ ∀ (i : Nat) (b : SB), H[i]? = some b → ¬ X i → b.ty ≠ 52 → b.ty ≠ 35 → b.ty ≠ 9 → h'[i]? = some b
theorem Kp.rfl' {X : Nat → Prop} (H : List SB) : Kp X H H := ⟨Nat.le_refl _, fun _ _ h _ _ _ _ => h⟩
theorem Kp.trans {X : Nat → Prop} {a b c : List SB} (h1 : Kp X a b) (h2 : Kp X b c) : Kp X a c :=
  ⟨Nat.le_trans h1.1 h2.1, fun i x hx n n1 n2 n3 => h2.2 i x (h1.2 i x hx n n1 n2 n3) n n1 n2 n3⟩
theorem Kp.app {X : Nat → Prop} (H Y : List SB) : Kp X H (H ++ Y) := ⟨by simp, fun i b hi _ _ _ _ => by rw [List.getElem?_append_left (lt_of hi)]; exact hi⟩
theorem Kp.ofB {X : Nat → Prop} {H h' : List SB} (K : KeepB H h') : Kp X H h' := ⟨K.1, fun i b hi _ n1 n2 n3 => K.2 i b hi n1 n2 n3⟩
theorem Kp.ofBut {X p : Nat → Prop} {H h' : List SB} (K : But H h' p) (hp : ∀ i, p i → X i) : Kp X H h' :=
  ⟨K.1, fun i b hi n _ _ _ => by rw [K.2 i (lt_of hi) (fun h => n (hp i h))]; exact hi⟩
theorem Kp.set {X : Nat → Prop} {H h' : List SB} (K : Kp X H h') {j : Nat} (hj : X j ∨ H.length ≤ j) (x : SB) : Kp X H (h'.set j x) :=
  ⟨by rw [List.length_set]; exact K.1, fun i b hi n n1 n2 n3 => by
    have : j ≠ i := by
      rintro rfl
      rcases hj with h | h
      · exact n h
      · have := lt_of hi; omega
    rw [List.getElem?_set_ne this]; exact K.2 i b hi n n1 n2 n3⟩

/-- Both cards of a pair, and their book. -/
structure J4 (S : Nat → Prop) (H : List SB) (c w1 w2 rc rr rt bk : Nat) (kc kr : CK) (es : List OE) : Prop where
  C : PC H c w1 w2 kc
  R : RSx S H rc rr rt kr
  B : BkS H bk es
  O : Owns H es
  sub : ∀ e ∈ es, S e.w
  hS : ∀ i, S i → i < H.length
abbrev X6 (c w1 w2 rc rr rt : Nat) : Nat → Prop := fun i => i = c ∨ i = w1 ∨ i = w2 ∨ i = rc ∨ i = rr ∨ i = rt
/-- Types of windows that are no pair's, no op's. -/
def tyP (t : TypeId) : Prop := t = 63 ∨ t = 66 ∨ t = 69 ∨ t = 40 ∨ t = 5 ∨ t = 52 ∨ t = 35 ∨ t = 9

section
variable {S : Nat → Prop} {H : List SB} {c w1 w2 rc rr rt bk : Nat} {kc kr : CK} {es : List OE}

theorem Owns.keep' {H H' : List SB} {es : List OE} (O : Owns H es) (K : ∀ (i : Nat) (b : SB), H[i]? = some b → b.ty = 5 → H'[i]? = some b) : Owns H' es :=
  ⟨fun i e he => K _ _ (O.at_ i e he) rfl, O.own, O.lt, O.ne⟩
theorem J4.keep (J : J4 S H c w1 w2 rc rr rt bk kc kr es) {H' : List SB} (hl : H.length ≤ H'.length) (K : ∀ (i : Nat) (b : SB), H[i]? = some b → tyP b.ty → H'[i]? = some b) : J4 S H' c w1 w2 rc rr rt bk kc kr es where
  C := J.C.keep fun i b hi h => K i b hi (by unfold tyP; rcases h with h | h <;> simp [h])
  R := J.R.keep fun i b hi h => K i b hi (by unfold tyP; rcases h with h | h | h <;> simp [h])
  B := J.B.keep fun i b hi h => K i b hi (by unfold tyP; rcases h with h | h | h <;> simp [h])
  O := J.O.keep' fun i b hi h => K i b hi (by unfold tyP; simp [h])
  sub := J.sub
  hS := fun i hi => Nat.lt_of_lt_of_le (J.hS i hi) hl
theorem J4.app (J : J4 S H c w1 w2 rc rr rt bk kc kr es) (Y : List SB) : J4 S (H ++ Y) c w1 w2 rc rr rt bk kc kr es :=
  J.keep (by simp) fun i b hi _ => by rw [List.getElem?_append_left (lt_of hi)]; exact hi
/-- A new window may be counted among those of the owner. -/
theorem J4.grow (J : J4 S H c w1 w2 rc rr rt bk kc kr es) (Y : List SB) (hY : 0 < Y.length) : J4 (fun i => S i ∨ i = H.length) (H ++ Y) c w1 w2 rc rr rt bk kc kr es :=
  have J1 := J.app Y
  ⟨J1.C, (J.R.grow (S' := fun i => S i ∨ i = H.length) fun i hi => hi.elim .inl fun h => .inr (by omega)).keep fun i b hi _ => by rw [List.getElem?_append_left (lt_of hi)]; exact hi, J1.B, J1.O, fun e he => .inl (J.sub e he), fun i hi => by
    rcases hi with h | h
    · exact J1.hS i h
    · rw [List.length_append]; omega⟩
theorem J4.tys (J : J4 S H c w1 w2 rc rr rt bk kc kr es) : (∃ b, H[rc]? = some b ∧ b.ty = 69) ∧ (∃ b, H[rr]? = some b ∧ b.ty = 40) ∧ (∃ b, H[rt]? = some b ∧ b.ty = 40) := by
  obtain ⟨lr, lt, cr, ct, R, _, _⟩ := J.R
  exact ⟨⟨_, R.hc, rfl⟩, ⟨_, R.hr, rfl⟩, ⟨_, R.ht, rfl⟩⟩
/-- A call at the card. -/
theorem J4.setC (J : J4 S H c w1 w2 rc rr rt bk kc kr es) (k' : CK) : J4 S (setC H c w1 w2 k') c w1 w2 rc rr rt bk k' kr es ∧ Kp (X6 c w1 w2 rc rr rt) H (setC H c w1 w2 k') := by
  have off : ∀ (i : Nat) (b : SB), H[i]? = some b → b.ty ≠ 63 → b.ty ≠ 66 → (Sx.setC H c w1 w2 k')[i]? = some b := fun i b hi t1 t2 => by
    rw [setC_off (ty_ne hi J.C.hc t1) (ty_ne hi J.C.h1 t2) (ty_ne hi J.C.h2 t2)]
    exact hi
  refine ⟨⟨J.C.set k', J.R.keep fun i b hi h => off i b hi ?_ ?_, J.B.keep fun i b hi h => off i b hi ?_ ?_, J.O.keep' fun i b hi h => off i b hi ?_ ?_, J.sub, fun i hi => by rw [setC_len]; exact J.hS i hi⟩, by rw [setC_len]; exact Nat.le_refl _, fun i b hi n _ _ _ => ?_⟩
  · rcases h with h | h | h <;> rw [h] <;> decide
  · rcases h with h | h | h <;> rw [h] <;> decide
  · rcases h with h | h | h <;> rw [h] <;> decide
  · rcases h with h | h | h <;> rw [h] <;> decide
  · rw [h]; decide
  · rw [h]; decide
  · have h1 : i ≠ c := fun e => n (.inl e)
    have h2 : i ≠ w1 := fun e => n (.inr (.inl e))
    have h3 : i ≠ w2 := fun e => n (.inr (.inr (.inl e)))
    rw [setC_off h1 h2 h3]; exact hi
/-- A call at the document's card. -/
theorem J4.ref (J : J4 S H c w1 w2 rc rr rt bk kc kr es) {h' : List SB} {kr' : CK} (R' : RSx S h' rc rr rt kr') (K : But H h' (fun i => i = rc ∨ i = rr ∨ i = rt)) : J4 S h' c w1 w2 rc rr rt bk kc kr' es ∧ Kp (X6 c w1 w2 rc rr rt) H h' := by
  obtain ⟨⟨b1, e1, t1⟩, ⟨b2, e2, t2⟩, ⟨b3, e3, t3⟩⟩ := J.tys
  have off : ∀ (i : Nat) (b : SB), H[i]? = some b → b.ty ≠ 69 → b.ty ≠ 40 → h'[i]? = some b := fun i b hi n1 n2 => by
    rw [K.2 i (lt_of hi) (by
      rintro (h | h | h)
      · exact ty_ne hi e1 (by rw [t1]; exact n1) h
      · exact ty_ne hi e2 (by rw [t2]; exact n2) h
      · exact ty_ne hi e3 (by rw [t3]; exact n2) h)]
    exact hi
  refine ⟨⟨J.C.keep fun i b hi h => off i b hi ?_ ?_, R', J.B.keep fun i b hi h => off i b hi ?_ ?_, J.O.keep' fun i b hi h => off i b hi ?_ ?_, J.sub, fun i hi => Nat.lt_of_lt_of_le (J.hS i hi) K.1⟩, Kp.ofBut K fun i h => .inr (.inr (.inr h))⟩
  · rcases h with h | h <;> rw [h] <;> decide
  · rcases h with h | h <;> rw [h] <;> decide
  · rcases h with h | h | h <;> rw [h] <;> decide
  · rcases h with h | h | h <;> rw [h] <;> decide
  · rw [h]; decide
  · rw [h]; decide
theorem But.wk {H h' : List SB} {p q : Nat → Prop} (K : But H h' p) (hp : ∀ i, p i → q i) : But H h' q := ⟨K.1, fun k hk n => K.2 k hk fun h => n (hp k h)⟩

/-- A drawn region: what is masked stands again behind it. -/
theorem J4.mask {L : List Nat} (J : J4 S H c w1 w2 rc rr rt bk kc kr es) (hL : ∀ i ∈ L, ∃ b, H[i]? = some b ∧ ¬ tyP b.ty) : J4 S (maskL L 0 H) c w1 w2 rc rr rt bk kc kr es :=
  J.keep (by rw [maskL_len]; exact Nat.le_refl _) fun i b hi ht => by
    rw [mask_off, hi]
    rw [Bool.eq_false_iff]
    intro h
    obtain ⟨b', hb', n⟩ := hL i (by simpa using h)
    rw [hi] at hb'
    cases hb'
    exact n ht
theorem nP {t : TypeId} (h : ¬ tyP t) : t ≠ 52 ∧ t ≠ 35 ∧ t ≠ 9 := by
  unfold tyP at h
  refine ⟨?_, ?_, ?_⟩ <;> (rintro rfl; exact h (by simp))
theorem J4.unmask {L : List Nat} {X : Nat → Prop} {h' : List SB} (hL : ∀ i ∈ L, ∃ b, H[i]? = some b ∧ ¬ tyP b.ty ∧ ¬ X i) (K : Kp X (maskL L 0 H) h') (J : J4 S h' c w1 w2 rc rr rt bk kc kr es) : J4 S (unL L 0 H h') c w1 w2 rc rr rt bk kc kr es ∧ Kp X H (unL L 0 H h') := by
  refine ⟨J.keep (by rw [unL_len]; exact Nat.le_refl _) fun i b hi ht => ?_, by rw [unL_len, ← maskL_len L H 0]; exact K.1, fun i b hi n n1 n2 n3 => ?_⟩
  · by_cases h : L.contains i = true
    · obtain ⟨b', hb', m, x⟩ := hL i (by simpa using h)
      obtain ⟨o, ho⟩ := maskL_at (L := L) hb'
      have := K.2 i _ ho x (nP m).1 (nP m).2.1 (nP m).2.2
      rw [hi] at this
      cases this
      exact absurd ht m
    · rw [unL_off (by simpa using h)]
      exact hi
  · by_cases h : L.contains i = true
    · obtain ⟨o, ho⟩ := maskL_at (L := L) hi
      have hl := K.1
      rw [maskL_len] at hl
      have := lt_of hi
      obtain ⟨y, hy⟩ : ∃ y, h'[i]? = some y := ⟨_, List.getElem?_eq_getElem (by omega)⟩
      exact unL_kept hy hi h
    · rw [unL_off (by simpa using h)]
      exact K.2 i b (by rw [mask_off (by simpa using h)]; exact hi) n n1 n2 n3
/-- A list is counted among those that came out. -/
theorem J4.take (J : J4 S H c w1 w2 rc rr rt bk kc kr es) (e : OE) {h' : List SB} (h1 : H[e.w]? = some (wB e.o (e.l ++ e.p))) (h2 : 0 < e.l.length + e.p.length → e.o = true) (h3 : e.l.length < 140737488351233) (h4 : ∀ f ∈ es, f.w ≠ e.w) (h5 : S e.w) (B' : BkS h' bk (es ++ [e])) (K : KeepB H h') : J4 S h' c w1 w2 rc rr rt bk kc kr (es ++ [e]) :=
  ⟨J.C.keep fun i b hi h => K.2 i b hi (by rcases h with h | h <;> rw [h] <;> decide) (by rcases h with h | h <;> rw [h] <;> decide) (by rcases h with h | h <;> rw [h] <;> decide),
   J.R.keep fun i b hi h => K.2 i b hi (by rcases h with h | h | h <;> rw [h] <;> decide) (by rcases h with h | h | h <;> rw [h] <;> decide) (by rcases h with h | h | h <;> rw [h] <;> decide),
   B', (J.O.push e h1 h2 h3 h4).keep K, fun f hf => by
    rcases List.mem_append.1 hf with h | h
    · exact J.sub f h
    · rw [List.mem_singleton] at h; rw [h]; exact h5, fun i hi => Nat.lt_of_lt_of_le (J.hS i hi) K.1⟩

theorem fz_ok {ok : Nat → Bool} {r : Nat → Nat} {n : Nat} {h : List SB} {i o c : Nat} {l sp : List UInt8} {b : SB} (hk : ok i = true) (hb : h[i]? = some b) (hv : b.void = false) (hc : b.cells.drop o = bsC (l ++ sp)) : frC true ok r n h (.sl i o l.length c) (roB l sp c) :=
  .inr ⟨rfl, .inl ⟨_, _, _, rfl, .inr (.inr ⟨i, o, rfl, .inr ⟨hk, b, hb, hv, by
    have := frL_bs (ok := ok) (h := h) [] (l ++ sp)
    rw [List.append_nil] at this
    rw [hc]; exact this⟩⟩)⟩⟩
theorem notW3 {c w1 w2 w : Nat} {k : CK} (h1 : w ≠ c) (h2 : w ≠ w1) (h3 : w ≠ w2) : notW [c, w1, w2] k.h w = true := by
  simp [notW, Ne.symm h1, Ne.symm h2, Ne.symm h3]

/-- Arrive at the card. -/
theorem J4.arrive (J : J4 S H c w1 w2 rc rr rt bk kc kr es) (ok : kc.ok) (w : Nat) (b sp : List UInt8) (cc : Nat) (hw : H[w]? = some (wB true (b ++ sp))) : Spec cx.P 12 [.c (.ptr c 0), .c (.sl w 0 b.length cc)] H fun t h' => t = .c (bC (arrB kc b)) ∧ J4 S h' c w1 w2 rc rr rt bk (arrK kc b) kr es ∧ Kp (X6 c w1 w2 rc rr rt) H h' := by
  refine (J.C.spec (bs := [.c (.sl w 0 b.length cc)]) (arriveA_spec kc ok b sp cc) (fun t h' ⟨h1, h2⟩ => by subst h1 h2; exact ⟨rfl, card_noRo _⟩) ⟨fz_c (fz_ok (notW3 (ty_ne hw J.C.hc (by decide : (5 : Nat) ≠ 63)) (ty_ne hw J.C.h1 (by decide : (5 : Nat) ≠ 66)) (ty_ne hw J.C.h2 (by decide : (5 : Nat) ≠ 66))) hw rfl rfl), trivial⟩).mono ?_
  rintro _ _ ⟨_, _, ⟨rfl, rfl⟩, rfl, rfl⟩
  rw [plug3']
  exact ⟨rfl, J.setC _⟩
theorem J4.lay (J : J4 S H c w1 w2 rc rr rt bk kc kr es) (ok : kc.ok) (i : Int) (w : Nat) (b sp : List UInt8) (cc : Nat) (hw : H[w]? = some (wB true (b ++ sp))) : Spec cx.P 15 [.c (.ptr c 0), .c (i64 i), .c (.sl w 0 b.length cc)] H fun t h' => t = .c (i64 (layE kc i b)) ∧ J4 S h' c w1 w2 rc rr rt bk (layK kc i b) kr es ∧ Kp (X6 c w1 w2 rc rr rt) H h' := by
  refine (J.C.spec (bs := [.c (i64 i), .c (.sl w 0 b.length cc)]) (layA_spec kc ok i b sp cc) (fun t h' ⟨h1, h2⟩ => by subst h1 h2; exact ⟨rfl, card_noRo _⟩) ⟨.inl ⟨rfl, rfl⟩, fz_c (fz_ok (notW3 (ty_ne hw J.C.hc (by decide : (5 : Nat) ≠ 63)) (ty_ne hw J.C.h1 (by decide : (5 : Nat) ≠ 66)) (ty_ne hw J.C.h2 (by decide : (5 : Nat) ≠ 66))) hw rfl rfl), trivial⟩).mono ?_
  rintro _ _ ⟨_, _, ⟨rfl, rfl⟩, rfl, rfl⟩
  rw [plug3']
  exact ⟨rfl, J.setC _⟩
theorem J4.give (J : J4 S H c w1 w2 rc rr rt bk kc kr es) (ok : kc.ok) (i : Int) : Spec cx.P 14 [.c (.ptr c 0), .c (i64 i)] H fun t h' => t = .c (i64 (givE kc i)) ∧ J4 S h' c w1 w2 rc rr rt bk (givK kc i) kr es ∧ Kp (X6 c w1 w2 rc rr rt) H h' := by
  refine (J.C.spec (bs := [.c (i64 i)]) (giveA_spec kc ok i) (fun t h' ⟨h1, h2⟩ => by subst h1 h2; exact ⟨rfl, card_noRo _⟩) ⟨.inl ⟨rfl, rfl⟩, trivial⟩).mono ?_
  rintro _ _ ⟨_, _, ⟨rfl, rfl⟩, rfl, rfl⟩
  rw [plug3']
  exact ⟨rfl, J.setC _⟩
/-- What came out stands in a new window. -/
def New4 (S : Nat → Prop) (H h' : List SB) (d : List UInt8) (w : Nat) (o : Bool) (S' : Nat → Prop) : Prop := H.length ≤ w ∧ h'[w]? = some (wB o d) ∧ (0 < d.length → o = true) ∧ S' = fun i => S i ∨ i = w
theorem J4.new (J : J4 S H c w1 w2 rc rr rt bk kc kr es) (k' : CK) (o : Bool) (d : List UInt8) (ho : 0 < d.length → o = true) : J4 (fun i => S i ∨ i = H.length) (Sx.setC H c w1 w2 k' ++ [wB o d]) c w1 w2 rc rr rt bk k' kr es ∧ Kp (X6 c w1 w2 rc rr rt) H (Sx.setC H c w1 w2 k' ++ [wB o d]) ∧ New4 S H (Sx.setC H c w1 w2 k' ++ [wB o d]) d H.length o (fun i => S i ∨ i = H.length) := by
  obtain ⟨J1, K1⟩ := J.setC k'
  have J2 := J1.grow [wB o d] (by simp)
  rw [setC_len] at J2
  exact ⟨J2, K1.trans (Kp.app _ _), Nat.le_refl _, by rw [List.getElem?_append_right (by rw [setC_len]; exact Nat.le_refl _), setC_len, Nat.sub_self]; rfl, ho, rfl⟩
theorem renF3 {c w1 w2 n : Nat} : renF [c, w1, w2] n 3 = n := rfl
theorem J4.dep (J : J4 S H c w1 w2 rc rr rt bk kc kr es) (ok : kc.ok) : Spec cx.P 16 [.c (.ptr c 0)] H fun t h' => ∃ w o S', t = .tup [(false, [.sl w 0 (depD kc).length (depD kc).length]), (false, [bC (depB kc)])] ∧ J4 S' h' c w1 w2 rc rr rt bk (depK kc) kr es ∧ Kp (X6 c w1 w2 rc rr rt) H h' ∧ New4 S H h' (depD kc) w o S' := by
  refine (J.C.spec (bs := []) (departA_spec kc ok) (fun t h' h => resO_noRo h) trivial).mono ?_
  rintro _ _ ⟨_, _, ⟨o, rfl, rfl, ho⟩, rfl, rfl⟩
  rw [plug3]
  simp only [List.map_cons, List.map_nil, SB.ren, ren_bsC]
  obtain ⟨J1, K1, N1⟩ := J.new (depK kc) o (depD kc) ho
  exact ⟨H.length, o, _, rfl, J1, K1, N1⟩
theorem setC_same (h : PC H c w1 w2 kc) : Sx.setC H c w1 w2 kc = H := by
  unfold Sx.setC
  rw [set_same h.hc, set_same h.h1, set_same h.h2]
theorem J4.rx (J : J4 S H c w1 w2 rc rr rt bk kc kr es) (ok : kc.ok) (i : Int) : Spec cx.P 13 [.c (.ptr c 0), .c (i64 i)] H fun t h' => ∃ w o S', t = .tup [(true, [bC (seeS kc.rx i), .sl w 0 (seeD kc.rx i).length (seeD kc.rx i).length]), (false, [i64 (seeE kc.rx i)])] ∧ J4 S' h' c w1 w2 rc rr rt bk kc kr es ∧ Kp (X6 c w1 w2 rc rr rt) H h' ∧ New4 S H h' (seeD kc.rx i) w o S' := by
  refine (J.C.spec (bs := [.c (i64 i)]) (rxA_spec kc ok i) (fun t h' h => resD_noRo h) ⟨.inl ⟨rfl, rfl⟩, trivial⟩).mono ?_
  rintro _ _ ⟨_, _, ⟨o, rfl, rfl, ho⟩, rfl, rfl⟩
  rw [plug3]
  simp only [List.map_cons, List.map_nil, SB.ren, ren_bsC]
  obtain ⟨J1, K1, N1⟩ := J.new kc o (seeD kc.rx i) ho
  exact ⟨H.length, o, _, rfl, J1, K1, N1⟩
theorem J4.tx (J : J4 S H c w1 w2 rc rr rt bk kc kr es) (ok : kc.ok) (i : Int) : Spec cx.P 33 [.c (.ptr c 0), .c (i64 i)] H fun t h' => ∃ w o S', t = .tup [(true, [bC (seeS kc.tx i), .sl w 0 (seeD kc.tx i).length (seeD kc.tx i).length]), (false, [i64 (seeE kc.tx i)])] ∧ J4 S' h' c w1 w2 rc rr rt bk kc kr es ∧ Kp (X6 c w1 w2 rc rr rt) H h' ∧ New4 S H h' (seeD kc.tx i) w o S' := by
  refine (J.C.spec (bs := [.c (i64 i)]) (txA_spec kc ok i) (fun t h' h => resD_noRo h) ⟨.inl ⟨rfl, rfl⟩, trivial⟩).mono ?_
  rintro _ _ ⟨_, _, ⟨o, rfl, rfl, ho⟩, rfl, rfl⟩
  rw [plug3]
  simp only [List.map_cons, List.map_nil, SB.ren, ren_bsC]
  obtain ⟨J1, K1, N1⟩ := J.new kc o (seeD kc.tx i) ho
  exact ⟨H.length, o, _, rfl, J1, K1, N1⟩
end

theorem unL_ge {L : List Nat} {H h : List SB} {j : Nat} (hj : H.length ≤ j) : (unL L 0 H h)[j]? = h[j]? := by
  rw [unL_get, List.getElem?_eq_none hj]; cases h[j]? <;> rfl
theorem RSx.keep2 {S : Nat → Prop} {H H' : List SB} {rc rr rt : Nat} {k : CK} (h : RSx S H rc rr rt k) (K : ∀ (i : Nat) (b : SB), H[i]? = some b → (b.ty = 69 ∨ i = rr ∨ i = rt ∨ b.ty = 5) → H'[i]? = some b) : RSx S H' rc rr rt k := by
  obtain ⟨lr, lt, cr, ct, R, X, Y⟩ := h
  refine ⟨lr, lt, cr, ct, ⟨K _ _ R.hc (.inl rfl), K _ _ R.hr (.inr (.inl rfl)), K _ _ R.ht (.inr (.inr (.inl rfl))), R.ne, R.lr, R.lt, R.n1, R.n2, R.ar, R.at'⟩, ?_, ?_⟩
  · exact X.mono fun _ _ h => h.keep fun i b hi ht => K i b hi (.inr (.inr (.inr ht)))
  · exact Y.mono fun _ _ h => h.keep fun i b hi ht => K i b hi (.inr (.inr (.inr ht)))
/-- A descriptor of the caller's own is written. -/
theorem J4.setD {S : Nat → Prop} {H : List SB} {c w1 w2 rc rr rt bk : Nat} {kc kr : CK} {es : List OE} (J : J4 S H c w1 w2 rc rr rt bk kc kr es) {d : Nat} {z : SB} (hd : H[d]? = some z) (hz : z.ty = 40) (h1 : d ≠ rr) (h2 : d ≠ rt) (y : SB) : J4 S (H.set d y) c w1 w2 rc rr rt bk kc kr es := by
  have off : ∀ (i : Nat) (b : SB), H[i]? = some b → b.ty ≠ 40 → (H.set d y)[i]? = some b := fun i b hi n => by
    rw [List.getElem?_set_ne (Ne.symm (ty_ne hi hd (by rw [hz]; exact n)))]
    exact hi
  refine ⟨J.C.keep fun i b hi h => off i b hi ?_, J.R.keep2 fun i b hi h => ?_, J.B.keep fun i b hi h => off i b hi ?_, J.O.keep' fun i b hi h => off i b hi ?_, J.sub, fun i hi => by rw [List.length_set]; exact J.hS i hi⟩
  · rcases h with h | h <;> rw [h] <;> decide
  · rcases h with h | rfl | rfl | h
    · exact off i b hi (by rw [h]; decide)
    · rw [List.getElem?_set_ne h1]; exact hi
    · rw [List.getElem?_set_ne h2]; exact hi
    · exact off i b hi (by rw [h]; decide)
  · rcases h with h | h | h <;> rw [h] <;> decide
  · rw [h]; decide
theorem seeD_len {l : List Sl} (h : ∀ s ∈ l, s.ok) (i : Int) : (seeD l i).length ≤ 1514 := by
  unfold seeD
  split
  · next hi =>
    obtain ⟨j, rfl, hj⟩ := at_of hi
    have := h _ (List.mem_of_getElem? hj)
    unfold Sl.ok at this
    rw [Int.toNat_natCast]
    omega
  · simp
theorem append_at {H : List SB} (y : SB) : (H ++ [y])[H.length]? = some y := by rw [List.getElem?_append_right (Nat.le_refl _), Nat.sub_self]; rfl
theorem append_set {H : List SB} (y z : SB) : (H ++ [y]).set H.length z = H ++ [z] := by
  rw [List.set_append_right _ _ (Nat.le_refl _), Nat.sub_self]; rfl
theorem append_len1 {H : List SB} (y : SB) : (H ++ [y]).length = H.length + 1 := by simp
theorem DX.unL {S : Nat → Prop} {L : List Nat} {H h : List SB} {x : SC} {d : List UInt8} (D : DX S h x d) (hL : ∀ i ∈ L, ∃ b, h[i]? = some b ∧ b.ty ≠ 5) : DX S (unL L 0 H h) x d :=
  D.keep fun i b hi ht => by
    rw [unL_off, hi]
    rw [Bool.eq_false_iff]
    intro h'
    obtain ⟨b', hb', n⟩ := hL i (by simpa using h')
    rw [hi] at hb'
    cases hb'
    exact n ht
theorem DX.keep3 {S : Nat → Prop} {H H' : List SB} {x : SC} {d : List UInt8} (h : DX S H x d) (K : ∀ (i : Nat) (b : SB), H[i]? = some b → b.ty = 5 ∧ ¬ S i → H'[i]? = some b) : DX S H' x d := by
  rcases h with h | ⟨w, z, o, h1, h2, h3, h4⟩
  · exact .inl h
  · exact .inr ⟨w, z, o, h1, K _ _ h2 ⟨rfl, h4⟩, h3, h4⟩
theorem RSx.keep3 {S : Nat → Prop} {H H' : List SB} {rc rr rt : Nat} {k : CK} (h : RSx S H rc rr rt k) (K : ∀ (i : Nat) (b : SB), H[i]? = some b → (b.ty = 69 ∨ i = rr ∨ i = rt ∨ (b.ty = 5 ∧ ¬ S i)) → H'[i]? = some b) : RSx S H' rc rr rt k := by
  obtain ⟨lr, lt, cr, ct, R, X, Y⟩ := h
  refine ⟨lr, lt, cr, ct, ⟨K _ _ R.hc (.inl rfl), K _ _ R.hr (.inr (.inl rfl)), K _ _ R.ht (.inr (.inr (.inl rfl))), R.ne, R.lr, R.lt, R.n1, R.n2, R.ar, R.at'⟩, ?_, ?_⟩
  · exact X.mono fun _ _ h => h.keep3 fun i b hi ht => K i b hi (.inr (.inr (.inr ht)))
  · exact Y.mono fun _ _ h => h.keep3 fun i b hi ht => K i b hi (.inr (.inr (.inr ht)))
/-- Bytes of the caller's own are written. -/
theorem J4.setB {S : Nat → Prop} {H : List SB} {c w1 w2 rc rr rt bk : Nat} {kc kr : CK} {es : List OE} (J : J4 S H c w1 w2 rc rr rt bk kc kr es) {w : Nat} {z : SB} (hw : H[w]? = some z) (hz : z.ty = 5) (hS : S w) (hne : ∀ e ∈ es, e.w ≠ w) (y : SB) : J4 S (H.set w y) c w1 w2 rc rr rt bk kc kr es := by
  have off : ∀ (i : Nat) (b : SB), H[i]? = some b → i ≠ w → (H.set w y)[i]? = some b := fun i b hi n => by
    rw [List.getElem?_set_ne (Ne.symm n)]
    exact hi
  have off' : ∀ (i : Nat) (b : SB), H[i]? = some b → b.ty ≠ 5 → (H.set w y)[i]? = some b := fun i b hi n => off i b hi (ty_ne hi hw (by rw [hz]; exact n))
  obtain ⟨_, ⟨b2, e2, t2⟩, ⟨b3, e3, t3⟩⟩ := J.tys
  refine ⟨J.C.keep fun i b hi h => off' i b hi ?_, J.R.keep3 fun i b hi h => ?_, J.B.keep fun i b hi h => off' i b hi ?_, ⟨fun i e he => off _ _ (J.O.at_ i e he) (hne e (List.mem_of_getElem? he)), J.O.own, J.O.lt, J.O.ne⟩, J.sub, fun i hi => by rw [List.length_set]; exact J.hS i hi⟩
  · rcases h with h | h <;> rw [h] <;> decide
  · rcases h with h | rfl | rfl | h
    · exact off' i b hi (by rw [h]; decide)
    · rw [e2] at hi; cases hi; exact off' _ _ e2 (by rw [t2]; decide)
    · rw [e3] at hi; cases hi; exact off' _ _ e3 (by rw [t3]; decide)
    · exact off i b hi (fun e => h.2 (by rw [e]; exact hS))
  · rcases h with h | h | h <;> rw [h] <;> decide
/-- A list that came out is taken. -/
theorem J4.takeA {S : Nat → Prop} {H : List SB} {c w1 w2 rc rr rt bk : Nat} {kc kr : CK} {es : List OE} (J : J4 S H c w1 w2 rc rr rt bk kc kr es) (hn : es.length ≤ 4398046511104) (w : Nat) (d : List UInt8) (o : Bool) (hw : H[w]? = some (wB o d)) (ho : 0 < d.length → o = true) (hl : d.length ≤ 1514) (hS : S w) (hne : ∀ e ∈ es, e.w ≠ w) :
    Spec cx.P 30 [.c (.ptr bk 0), .c (.sl w 0 d.length d.length)] H fun t h' => t = .tup [] ∧ J4 S h' c w1 w2 rc rr rt bk kc kr (es ++ [⟨w, d, [], o⟩]) ∧ KeepB H h' :=
  (takeA_spec J.B hn w d [] o (by rw [List.append_nil]; exact hw) hl).mono fun t h' ⟨h1, h2, h3⟩ => ⟨h1, J.take ⟨w, d, [], o⟩ (by rw [List.append_nil]; exact hw) ho (show d.length < _ by omega) hne hS h2 h3, h3⟩
/-- What was lent stands as it was, in any heap. -/
theorem asLentA_spec {H : List SB} {w : Nat} (b sp : List UInt8) (cc : Nat) (hl : b.length ≤ 140737488355328) (hw : H[w]? = some (wB true (b ++ [71, 72]))) :
    Spec cx.P 28 [.c (.sl w 0 b.length (b.length + 2)), .c (roB b sp cc)] H fun t h' => t = .c (bC true) ∧ h' = H.set w (wB true (List.replicate (b.length + 2) 83)) := by
  refine ((asLent_spec b sp cc hl).frame (h := H) (args := [.c (.sl w 0 b.length (b.length + 2)), .c (roB b sp cc)]) false (fun h => by cases h) [w] ⟨.inl ⟨rfl, rfl⟩, .inl ⟨rfl, rfl⟩, trivial⟩ (by simp [piOk]) (by simp only [XX, Nat.reduceBEq, Nat.reduceLT, Nat.reduceAdd, Nat.reduceMul, Nat.reduceSub, Nat.reduceLeDiff, Nat.reduceEqDiff, Int.reduceToNat, Int.reduceLT, Int.reduceLE, Int.reduceAdd, Int.reduceSub, Int.reduceEq, reduceIte, Nat.reduceBNe, Int.reducePow, Nat.reducePow, Int.reduceMul, Int.reduceNeg, isB_i, isB_b, isB_y, isBv_i, isBv_b, eqCells_t, TT, preOk, ids_bsC, ren_bsC, noRo_bsC, plain_bsC, lt_bsC, ids_byte, ren_byte, noRo_byte, plain_byte, lt_byte, hw]) (by simp only [XX, Nat.reduceBEq, Nat.reduceLT, Nat.reduceAdd, Nat.reduceMul, Nat.reduceSub, Nat.reduceLeDiff, Nat.reduceEqDiff, Int.reduceToNat, Int.reduceLT, Int.reduceLE, Int.reduceAdd, Int.reduceSub, Int.reduceEq, reduceIte, Nat.reduceBNe, Int.reducePow, Nat.reducePow, Int.reduceMul, Int.reduceNeg, isB_i, isB_b, isB_y, isBv_i, isBv_b, eqCells_t, TT, ids_bsC, ren_bsC, noRo_bsC, plain_bsC, lt_bsC, ids_byte, ren_byte, noRo_byte, plain_byte, lt_byte])).mono ?_
  rintro _ _ ⟨_, _, ⟨rfl, rfl⟩, rfl, rfl⟩
  refine ⟨rfl, ?_⟩
  simp only [XX, Nat.reduceBEq, Nat.reduceLT, Nat.reduceAdd, Nat.reduceMul, Nat.reduceSub, Nat.reduceLeDiff, Nat.reduceEqDiff, Int.reduceToNat, Int.reduceLT, Int.reduceLE, Int.reduceAdd, Int.reduceSub, Int.reduceEq, reduceIte, Nat.reduceBNe, Int.reducePow, Nat.reducePow, Int.reduceMul, Int.reduceNeg, isB_i, isB_b, isB_y, isBv_i, isBv_b, eqCells_t, TT, ids_bsC, ren_bsC, noRo_bsC, plain_bsC, lt_bsC, ids_byte, ren_byte, noRo_byte, plain_byte, lt_byte]

/-- Behind a drawn region less may be known. -/
theorem draw_cut {cx : Cx} (hc : CxOk cx) {id : Nat} {ops : Array Oper} {k : List KI} {σ : St} {Q : XE → St → Prop} (n : Nat) (R : St → Prop) (h : DrawGoal cx.P id ops (.lp (fun σ' => ∃ τ, R τ ∧ (Sub σ' τ ∨ ∃ π, Wk π σ' τ)) :: k) σ Q) (hk : ∀ τ, R τ → X cx n k τ Q) : DrawGoal cx.P id ops k σ Q := by
  intro e a w hcd hok S
  refine wp_mono (h e a w hcd (fun i hi => by
    cases hi with
    | head => trivial
    | tail _ hi => exact hok i hi) S) ?_
  intro ex a' w' hq
  cases ex with
  | normal =>
    obtain ⟨σ', S', τ, hR, hw⟩ := hq
    have S2 : Sat e τ a' w' := hw.elim (fun h => S'.sub h) fun ⟨_, h⟩ => S'.wk h
    exact X_ok hc n _ _ _ (hk τ hR) e a' w' hok S2
  | exit j => exact hq
  | ret => exact hq
  | goto l => exact hq
  | panic c => exact hq
  | outgrown => exact hq

end Go.Proofs.Ytdfhmpheepobnaa.Sx
