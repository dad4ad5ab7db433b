/- The symbolic executor, at work: the document's card stands as the card does. No condition. -/
import Derived.Test.YtdfhmpheepobnaaC4k
namespace Go.Proofs.Ytdfhmpheepobnaa.Sx
open Go
set_option linter.unusedSimpArgs false
set_option linter.unusedVariables false
set_option maxRecDepth 10000
set_option maxHeartbeats 2000000

theorem rcB_ne {r t : SC} {a1 a2 c1 c2 c3 : Int} : (rcB r t a1 a2 c1 c2 c3).ty ≠ 5 := (by decide : (69 : Nat) ≠ 5)
theorem dB_ne {o : Bool} {l : List (Bool × SC)} : (dB o l).ty ≠ 5 := (by decide : (40 : Nat) ≠ 5)
theorem DX.set {S : Nat → Prop} {H : List SB} {x : SC} {d : List UInt8} (h : DX S H x d) {j : Nat} {b X : SB} (hj : H[j]? = some b) (ht : b.ty ≠ 5) : DX S (H.set j X) x d := by
  rcases h with h | ⟨w, z, o, h1, h2, h3⟩
  · exact .inl h
  · exact .inr ⟨w, z, o, h1, by rw [List.getElem?_set_ne (ty_ne hj h2 ht)]; exact h2, h3⟩
def rowsOf (S : Nat → Prop) (H : List SB) (ss : List Sl) (l : List (Bool × SC)) : Prop := ∀ (i : Nat) (s : Sl), ss[i]? = some s → ∃ x, l[i]? = some (s.own, x) ∧ DX S H x s.d
theorem rowsOf.mono {S S' : Nat → Prop} {H H' : List SB} {ss : List Sl} {l : List (Bool × SC)} (h : rowsOf S H ss l) (hd : ∀ x d, DX S H x d → DX S' H' x d) : rowsOf S' H' ss l := fun i s hs => let ⟨x, h1, h2⟩ := h i s hs; ⟨x, h1, hd _ _ h2⟩
theorem rowsOf.set {S : Nat → Prop} {H : List SB} {ss : List Sl} {l : List (Bool × SC)} (h : rowsOf S H ss l) (hl : ss.length ≤ l.length) (i : Nat) (s : Sl) {x : SC} (hx : DX S H x s.d) : rowsOf S H (ss.set i s) (l.set i (s.own, x)) := by
  intro j s' hj
  by_cases he : i = j
  · subst he
    have hi : i < ss.length := by
      have := (List.getElem?_eq_some_iff.1 hj).1
      simpa using this
    rw [List.getElem?_set_self hi] at hj
    cases hj
    exact ⟨x, List.getElem?_set_self (by omega), hx⟩
  · rw [List.getElem?_set_ne he] at hj
    obtain ⟨x', h1, h2⟩ := h j s' hj
    exact ⟨x', by rw [List.getElem?_set_ne he]; exact h1, h2⟩

/-- The document's card stands as the card 'k'. -/
structure RS (S : Nat → Prop) (H : List SB) (rc rr rt : Nat) (k : CK) (lr lt : List (Bool × SC)) (cr ct : Nat) : Prop where
  R : RC4 H rc rr rt lr lt k.rx.length k.tx.length cr ct k.rn k.tn k.cin k.cdr k.cout
  rx : rowsOf S H k.rx lr
  tx : rowsOf S H k.tx lt
def RSx (S : Nat → Prop) (H : List SB) (rc rr rt : Nat) (k : CK) : Prop := ∃ lr lt cr ct, RS S H rc rr rt k lr lt cr ct

section
variable {H : List SB} {c r t : Nat} {lr lt : List (Bool × SC)} {nr nt cr ct ar at' : Nat} {c1 c2 c3 : Int}
theorem RC4.setc (R : RC4 H c r t lr lt nr nt cr ct ar at' c1 c2 c3) (a2 t2 : Nat) (d1 d2 d3 : Int) (h1 : a2 < nr) (h2 : t2 < nt) : RC4 (H.set c (rcB (.sl r 0 nr cr) (.sl t 0 nt ct) a2 t2 d1 d2 d3)) c r t lr lt nr nt cr ct a2 t2 d1 d2 d3 :=
  ⟨List.getElem?_set_self (lt_of R.hc), by rw [List.getElem?_set_ne R.ne.1]; exact R.hr, by rw [List.getElem?_set_ne R.ne.2.1]; exact R.ht, R.ne, R.lr, R.lt, R.n1, R.n2, h1, h2⟩
theorem RC4.setr (R : RC4 H c r t lr lt nr nt cr ct ar at' c1 c2 c3) (l : List (Bool × SC)) (hl : nr ≤ l.length) : RC4 (H.set r (dB true l)) c r t l lt nr nt cr ct ar at' c1 c2 c3 :=
  ⟨by rw [List.getElem?_set_ne (Ne.symm R.ne.1)]; exact R.hc, List.getElem?_set_self (lt_of R.hr), by rw [List.getElem?_set_ne R.ne.2.2]; exact R.ht, R.ne, hl, R.lt, R.n1, R.n2, R.ar, R.at'⟩
theorem RC4.sett (R : RC4 H c r t lr lt nr nt cr ct ar at' c1 c2 c3) (l : List (Bool × SC)) (hl : nt ≤ l.length) : RC4 (H.set t (dB true l)) c r t lr l nr nt cr ct ar at' c1 c2 c3 :=
  ⟨by rw [List.getElem?_set_ne (Ne.symm R.ne.2.1)]; exact R.hc, by rw [List.getElem?_set_ne (Ne.symm R.ne.2.2)]; exact R.hr, List.getElem?_set_self (lt_of R.ht), R.ne, R.lr, hl, R.n1, R.n2, R.ar, R.at'⟩
theorem RC4.app (R : RC4 H c r t lr lt nr nt cr ct ar at' c1 c2 c3) (X : List SB) : RC4 (H ++ X) c r t lr lt nr nt cr ct ar at' c1 c2 c3 :=
  ⟨by rw [List.getElem?_append_left (lt_of R.hc)]; exact R.hc, by rw [List.getElem?_append_left (lt_of R.hr)]; exact R.hr, by rw [List.getElem?_append_left (lt_of R.ht)]; exact R.ht, R.ne, R.lr, R.lt, R.n1, R.n2, R.ar, R.at'⟩
theorem RC4.mono {H' : List SB} (R : RC4 H c r t lr lt nr nt cr ct ar at' c1 c2 c3) (e1 : H'[c]? = H[c]?) (e2 : H'[r]? = H[r]?) (e3 : H'[t]? = H[t]?) : RC4 H' c r t lr lt nr nt cr ct ar at' c1 c2 c3 :=
  ⟨e1.trans R.hc, e2.trans R.hr, e3.trans R.ht, R.ne, R.lr, R.lt, R.n1, R.n2, R.ar, R.at'⟩
end
theorem But.rfl' (H : List SB) (p : Nat → Prop) : But H H p := ⟨Nat.le_refl _, fun _ _ _ => rfl⟩
theorem But.set {H H' : List SB} {p : Nat → Prop} (h : But H H' p) {j : Nat} (hj : p j) (X : SB) : But H (H'.set j X) p :=
  ⟨by rw [List.length_set]; exact h.1, fun k hk hp => by rw [List.getElem?_set_ne (fun e => hp (by rw [← e]; exact hj))]; exact h.2 k hk hp⟩
theorem But.app {H H' : List SB} {p : Nat → Prop} (h : But H H' p) (X : List SB) : But H (H' ++ X) p :=
  ⟨by rw [List.length_append]; have := h.1; omega, fun k hk hp => by rw [List.getElem?_append_left (by have := h.1; omega)]; exact h.2 k hk hp⟩
theorem dx_new {S : Nat → Prop} (H : List SB) (b z : List UInt8) (hS : ∀ i, S i → i < H.length) : DX S (H ++ [wB true (b ++ z)]) (slB H.length b z) b := .inr ⟨H.length, z, true, rfl, by rw [List.getElem?_append_right (Nat.le_refl _), Nat.sub_self]; rfl, fun _ => rfl, fun h => absurd (hS _ h) (by omega)⟩

theorem rarriveA_spec {S : Nat → Prop} {H : List SB} (hS : ∀ i, S i → i < H.length) {rc rr rt : Nat} {k : CK} (ok : k.ok) (h : RSx S H rc rr rt k) (b sp : List UInt8) (c : Nat) (hc : b.length ≤ c) : Spec cx.P 27 [.c (.ptr rc 0), .c (roB b sp c)] H fun t h' => t = .c (bC (arrB k b)) ∧ RSx S h' rc rr rt (arrK k b) ∧ But H h' (fun i => i = rc ∨ i = rr ∨ i = rt) := by
  obtain ⟨lr, lt, cr, ct, R, X, Y⟩ := h
  unfold arrB arrK
  by_cases h : b.length = 0 ∨ 1514 < b.length
  · rw [if_pos h, if_pos h]
    exact (rarriveB_spec b sp c h).mono fun t h' ⟨h1, h2⟩ => by subst h2; exact ⟨h1, ⟨lr, lt, cr, ct, R, X, Y⟩, But.rfl' _ _⟩
  · rw [if_neg h, if_neg h]
    obtain ⟨x, hx, hd⟩ := X _ _ (getS ok.rn)
    cases ho : (k.rx.getD k.rn noSl).own
    · rw [ho] at hx
      refine (rarriveF_spec R hx rfl b sp c (by omega) (by omega)).mono fun t h' ⟨h1, h2⟩ => ⟨h1, ?_⟩
      subst h2
      rw [if_neg (by decide)]
      exact ⟨⟨lr, lt, cr, ct, R.setc _ _ _ _ _ R.ar R.at', X.mono fun _ _ h => h.set R.hc rcB_ne, Y.mono fun _ _ h => h.set R.hc rcB_ne⟩, (But.rfl' _ _).set (.inl rfl) _⟩
    · rw [ho] at hx
      refine (rarrive_spec R hx rfl b sp c hc (by omega) (by omega)).mono fun t h' ⟨z, h1, h2⟩ => ⟨h1, ?_⟩
      subst h2
      rw [if_pos rfl]
      have R1 := R.app [wB true (b ++ z)]
      have R2 := R1.setr (lr.set k.rn (false, slB H.length b z)) (by simpa using R.lr)
      have R3 := R2.setc ((k.rn + 1) % k.rx.length) k.tn (IntKind.i64.wrap (k.cin + 1)) k.cdr k.cout (Nat.mod_lt _ ok.rx0) R.at'
      refine ⟨⟨lr.set k.rn (false, slB H.length b z), lt, cr, ct, by simpa only [List.length_set] using R3, ?_, ?_⟩, (((But.rfl' _ _).app _).set (.inr (.inl rfl)) _).set (.inl rfl) _⟩
      · have X1 : rowsOf S (H ++ [wB true (b ++ z)]) k.rx lr := X.mono fun _ _ h => h.app _
        exact (X1.set R.lr k.rn ⟨false, b, _⟩ (dx_new H b z hS)).mono fun _ _ h => (h.set R1.hr dB_ne).set R2.hc rcB_ne
      · exact Y.mono fun _ _ h => ((h.app _).set R1.hr dB_ne).set R2.hc rcB_ne

theorem rdepartA_spec {S : Nat → Prop} {H : List SB} {rc rr rt : Nat} {k : CK} (ok : k.ok) (h : RSx S H rc rr rt k) : Spec cx.P 29 [.c (.ptr rc 0)] H fun t h' => ∃ x, t = .tup [(false, [x]), (false, [bC (depB k)])] ∧ DX S h' x (depD k) ∧ RSx S h' rc rr rt (depK k) ∧ But H h' (fun i => i = rc ∨ i = rr ∨ i = rt) := by
  obtain ⟨lr, lt, cr, ct, R, X, Y⟩ := h
  unfold depB depD depK
  obtain ⟨x, hx, hd⟩ := Y _ _ (getS ok.tn)
  cases ho : (k.tx.getD k.tn noSl).own
  · rw [ho] at hx
    refine (rdepartN_spec R hx rfl).mono fun t h' ⟨h1, h2⟩ => ⟨.v (.slice none 0 0), h1, ?_⟩
    subst h2
    exact ⟨.inl ⟨rfl, rfl⟩, ⟨lr, lt, cr, ct, R, X, Y⟩, But.rfl' _ _⟩
  · rw [ho] at hx
    refine (rdepart_spec R hx rfl).mono fun t h' ⟨h1, h2⟩ => ⟨x, h1, ?_⟩
    subst h2
    rw [if_pos rfl, if_pos rfl]
    have R2 := R.sett (lt.set k.tn zD) (by simpa using R.lt)
    have R3 := R2.setc k.rn ((k.tn + 1) % k.tx.length) k.cin k.cdr (IntKind.i64.wrap (k.cout + 1)) R.ar (Nat.mod_lt _ ok.tx0)
    refine ⟨(hd.set R.ht dB_ne).set R2.hc rcB_ne, ⟨lr, lt.set k.tn zD, cr, ct, by simpa only [List.length_set] using R3, ?_, ?_⟩, ((But.rfl' _ _).set (.inr (.inr rfl)) _).set (.inl rfl) _⟩
    · exact X.mono fun _ _ h => (h.set R.ht dB_ne).set R2.hc rcB_ne
    · exact (Y.set R.lt k.tn ⟨false, [], _⟩ (.inl ⟨rfl, rfl⟩)).mono fun _ _ h => (h.set R.ht dB_ne).set R2.hc rcB_ne
theorem rgiveA_spec {S : Nat → Prop} {H : List SB} {rc rr rt : Nat} {k : CK} (ok : k.ok) (h : RSx S H rc rr rt k) (i : Int) : Spec cx.P 35 [.c (.ptr rc 0), .c (i64 i)] H fun t h' => t = .c (i64 (givE k i)) ∧ RSx S h' rc rr rt (givK k i) ∧ But H h' (fun i => i = rc ∨ i = rr ∨ i = rt) := by
  obtain ⟨lr, lt, cr, ct, R, X, Y⟩ := h
  unfold givE givK
  by_cases h : 0 ≤ i ∧ i < (k.rx.length : Int)
  · rw [if_pos h, if_pos h]
    obtain ⟨j, rfl, hj⟩ := at_of h
    rw [Int.toNat_natCast]
    obtain ⟨x, hx, hd⟩ := X _ _ hj
    cases ho : (k.rx.getD j noSl).own
    · rw [ho] at hx
      refine (rgive_spec R j (by omega) hx rfl).mono fun t h' ⟨h1, h2⟩ => ⟨h1, ?_⟩
      subst h2
      rw [if_neg (by decide)]
      have R2 := R.setr (lr.set j (true, .v (.slice none 0 0))) (by simpa using R.lr)
      refine ⟨⟨lr.set j (true, .v (.slice none 0 0)), lt, cr, ct, by simpa only [List.length_set] using R2, ?_, ?_⟩, (But.rfl' _ _).set (.inr (.inl rfl)) _⟩
      · exact (X.set R.lr j ⟨true, [], _⟩ (.inl ⟨rfl, rfl⟩)).mono fun _ _ h => h.set R.hr dB_ne
      · exact Y.mono fun _ _ h => h.set R.hr dB_ne
    · rw [ho] at hx
      refine (rgiveO_spec R j (by omega) hx rfl).mono fun t h' ⟨h1, h2⟩ => ⟨h1, ?_⟩
      subst h2
      rw [if_pos rfl]
      exact ⟨⟨lr, lt, cr, ct, R, X, Y⟩, But.rfl' _ _⟩
  · rw [if_neg h, if_neg h]
    refine (rgiveN_spec R i (by omega)).mono fun t h' ⟨h1, h2⟩ => ⟨h1, ?_⟩
    subst h2
    exact ⟨⟨lr, lt, cr, ct, R, X, Y⟩, But.rfl' _ _⟩

theorem rlayA_spec {S : Nat → Prop} {H : List SB} (hS : ∀ i, S i → i < H.length) {rc rr rt : Nat} {k : CK} (ok : k.ok) (h : RSx S H rc rr rt k) (i : Int) (b sp : List UInt8) (c : Nat) (hc : b.length ≤ c) : Spec cx.P 36 [.c (.ptr rc 0), .c (i64 i), .c (roB b sp c)] H fun t h' => t = .c (i64 (layE k i b)) ∧ RSx S h' rc rr rt (layK k i b) ∧ But H h' (fun i => i = rc ∨ i = rr ∨ i = rt) := by
  obtain ⟨lr, lt, cr, ct, R, X, Y⟩ := h
  unfold layE layK
  by_cases h : 0 ≤ i ∧ i < (k.tx.length : Int)
  · rw [if_pos h, if_pos h]
    obtain ⟨j, rfl, hj⟩ := at_of h
    rw [Int.toNat_natCast]
    obtain ⟨x, hx, hd⟩ := Y _ _ hj
    have same : RSx S H rc rr rt k := ⟨lr, lt, cr, ct, R, X, Y⟩
    by_cases h1 : b.length < 60
    · rw [if_pos h1, if_pos h1]
      refine (rlayE_spec R j (by omega) hx b sp c 5 (.inl ⟨h1, rfl⟩)).mono fun t h' ⟨h1, h2⟩ => ⟨h1, ?_⟩
      subst h2
      exact ⟨same, But.rfl' _ _⟩
    rw [if_neg h1, if_neg h1]
    by_cases h2 : 1514 < b.length
    · rw [if_pos h2, if_pos h2]
      refine (rlayE_spec R j (by omega) hx b sp c 2 (.inr (.inl ⟨h2, rfl⟩))).mono fun t h' ⟨h1, h2⟩ => ⟨h1, ?_⟩
      subst h2
      exact ⟨same, But.rfl' _ _⟩
    rw [if_neg h2, if_neg h2]
    cases ho : (k.tx.getD j noSl).own
    · rw [ho] at hx
      refine (rlay_spec R j (by omega) hx rfl b sp c hc (by omega) (by omega)).mono fun t h' ⟨z, h1, h2⟩ => ⟨h1, ?_⟩
      subst h2
      rw [if_neg (by decide)]
      have R1 := R.app [wB true (b ++ z)]
      have R2 := R1.sett (lt.set j (true, slB H.length b z)) (by simpa using R.lt)
      refine ⟨⟨lr, lt.set j (true, slB H.length b z), cr, ct, by simpa only [List.length_set] using R2, ?_, ?_⟩, ((But.rfl' _ _).app _).set (.inr (.inr rfl)) _⟩
      · exact X.mono fun _ _ h => (h.app _).set R1.ht dB_ne
      · have Y1 : rowsOf S (H ++ [wB true (b ++ z)]) k.tx lt := Y.mono fun _ _ h => h.app _
        exact (Y1.set R.lt j ⟨true, b, _⟩ (dx_new H b z hS)).mono fun _ _ h => h.set R1.ht dB_ne
    · rw [ho] at hx
      refine (rlayE_spec R j (by omega) hx b sp c 41 (.inr (.inr ⟨by omega, by omega, rfl, rfl⟩))).mono fun t h' ⟨h1, h2⟩ => ⟨h1, ?_⟩
      subst h2
      rw [if_pos rfl]
      exact ⟨same, But.rfl' _ _⟩
  · rw [if_neg h, if_neg h]
    refine (rlayN_spec R i _ (by omega)).mono fun t h' ⟨h1, h2⟩ => ⟨h1, ?_⟩
    subst h2
    exact ⟨⟨lr, lt, cr, ct, R, X, Y⟩, But.rfl' _ _⟩
theorem rrxA_spec {S : Nat → Prop} {H : List SB} (hS : ∀ i, S i → i < H.length) {rc rr rt : Nat} {k : CK} (ok : k.ok) (h : RSx S H rc rr rt k) (i : Int) : Spec cx.P 31 [.c (.ptr rc 0), .c (i64 i)] H fun t h' => ∃ x, t = .tup [(true, [bC (seeS k.rx i), x]), (false, [i64 (seeE k.rx i)])] ∧ DX S h' x (seeD k.rx i) ∧ RSx S h' rc rr rt k ∧ But H h' (fun _ => False) := by
  obtain ⟨lr, lt, cr, ct, R, X, Y⟩ := h
  unfold seeS seeD seeE
  by_cases h : 0 ≤ i ∧ i < (k.rx.length : Int)
  · rw [if_pos h, if_pos h, if_pos h]
    obtain ⟨j, rfl, hj⟩ := at_of h
    rw [Int.toNat_natCast]
    obtain ⟨x, hx, hd⟩ := X _ _ hj
    have hok : (k.rx.getD j noSl).ok := ok.rs _ (List.mem_of_getElem? hj)
    have hl : (k.rx.getD j noSl).d.length ≤ 1514 := by unfold Sl.ok at hok; omega
    refine (rrx_spec R j (by omega) hx hd hl).mono fun t h' ⟨x', z, o, h1, h2, h3⟩ => ?_
    subst h2
    have R2 := R.app [x', wB o ((k.rx.getD j noSl).d ++ z)]
    have hR : RSx S (H ++ [x', wB o ((k.rx.getD j noSl).d ++ z)]) rc rr rt k := ⟨lr, lt, cr, ct, R2, X.mono fun _ _ h => h.app _, Y.mono fun _ _ h => h.app _⟩
    refine ⟨_, h1, ?_, hR, (But.rfl' _ _).app _⟩
    exact .inr ⟨H.length + 1, z, o, rfl, by rw [List.getElem?_append_right (by omega), Nat.add_sub_cancel_left]; rfl, h3, fun h => absurd (hS _ h) (by omega)⟩
  · rw [if_neg h, if_neg h, if_neg h]
    refine (rrxN_spec R i (by omega)).mono fun t h' ⟨h1, x, h2⟩ => ?_
    subst h2
    exact ⟨_, h1, .inl ⟨rfl, rfl⟩, ⟨lr, lt, cr, ct, R.app _, X.mono fun _ _ h => h.app _, Y.mono fun _ _ h => h.app _⟩, (But.rfl' _ _).app _⟩

theorem rtxA_spec {S : Nat → Prop} {H : List SB} (hS : ∀ i, S i → i < H.length) {rc rr rt : Nat} {k : CK} (ok : k.ok) (h : RSx S H rc rr rt k) (i : Int) : Spec cx.P 34 [.c (.ptr rc 0), .c (i64 i)] H fun t h' => ∃ x, t = .tup [(true, [bC (seeS k.tx i), x]), (false, [i64 (seeE k.tx i)])] ∧ DX S h' x (seeD k.tx i) ∧ RSx S h' rc rr rt k ∧ But H h' (fun _ => False) := by
  obtain ⟨lr, lt, cr, ct, R, X, Y⟩ := h
  unfold seeS seeD seeE
  by_cases h : 0 ≤ i ∧ i < (k.tx.length : Int)
  · rw [if_pos h, if_pos h, if_pos h]
    obtain ⟨j, rfl, hj⟩ := at_of h
    rw [Int.toNat_natCast]
    obtain ⟨x, hx, hd⟩ := Y _ _ hj
    have hok : (k.tx.getD j noSl).ok := ok.ts _ (List.mem_of_getElem? hj)
    have hl : (k.tx.getD j noSl).d.length ≤ 1514 := by unfold Sl.ok at hok; omega
    refine (rtx_spec R j (by omega) hx hd hl).mono fun t h' ⟨x', z, o, h1, h2, h3⟩ => ?_
    subst h2
    have R2 := R.app [x', wB o ((k.tx.getD j noSl).d ++ z)]
    have hR : RSx S (H ++ [x', wB o ((k.tx.getD j noSl).d ++ z)]) rc rr rt k := ⟨lr, lt, cr, ct, R2, X.mono fun _ _ h => h.app _, Y.mono fun _ _ h => h.app _⟩
    refine ⟨_, h1, ?_, hR, (But.rfl' _ _).app _⟩
    exact .inr ⟨H.length + 1, z, o, rfl, by rw [List.getElem?_append_right (by omega), Nat.add_sub_cancel_left]; rfl, h3, fun h => absurd (hS _ h) (by omega)⟩
  · rw [if_neg h, if_neg h, if_neg h]
    refine (rtxN_spec R i (by omega)).mono fun t h' ⟨h1, x, h2⟩ => ?_
    subst h2
    exact ⟨_, h1, .inl ⟨rfl, rfl⟩, ⟨lr, lt, cr, ct, R.app _, X.mono fun _ _ h => h.app _, Y.mono fun _ _ h => h.app _⟩, (But.rfl' _ _).app _⟩

end Go.Proofs.Ytdfhmpheepobnaa.Sx
