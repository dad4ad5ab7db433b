/- The symbolic executor, at work: what the laws lean on, part 3. No condition. -/
import Derived.Test.YthbojoiogjdbeaaZ2
namespace Go.Proofs.Ythbojoiogjdbeaa.Sx
open Go
set_option linter.unusedSimpArgs false
set_option linter.unusedVariables false
set_option maxRecDepth 10000
set_option maxHeartbeats 4000000
section
variable {H : List SB} {c r t : Nat} {lr lt : List (Bool × SC)} {nr nt cr ct ar at' : Nat} {c1 c2 c3 : Int}
theorem rlayS_spec (h : RC4 H c r t lr lt nr nt cr ct ar at' c1 c2 c3) (i : Nat) (hi : i < nt) {q : Bool × SC} (hq : lt[i]? = some q) (hs : q.1 = false) (w : Nat) (b sp : List UInt8) (cp : Nat) (hw : H[w]? = some (wB true (b ++ sp))) (hcp : b.length ≤ cp) (h1 : 60 ≤ b.length) (h2 : b.length ≤ 1514) : Spec cx.P 64 [.c (.ptr c 0), .c (i64 i), .c (.sl w 0 b.length cp)] H fun s h' => ∃ z, s = .c (i64 0) ∧ h' = (H ++ [wB true (b ++ z)]).set t (dB true (lt.set i (true, slB H.length b z))) := by
  have hc := h.hc
  have hr := h.ht
  have ltc := lt_of hc
  have ltr := lt_of hr
  have g0 := dsC_0 hq
  rw [hs] at g0
  have nrl := h.lt
  have d1 : decide ((i : Int) < 0) = false := by simp only [decide_eq_false_iff_not]; omega
  have d2 : decide ((nt : Int) ≤ (i : Int)) = false := by simp only [decide_eq_false_iff_not]; omega
  have d3 : decide ((b.length : Int) < 60) = false := by simp only [decide_eq_false_iff_not]; omega
  have d4 : decide (1514 < (b.length : Int)) = false := by simp only [decide_eq_false_iff_not]; omega
  refine spec_of_X cx_ok Try.func64 rfl (by kernel_rfl) (by kernel_rfl) (Nat.le_of_ble_eq_true rfl) 400 8 ?_
  simp (maxSteps := 4000000) only [Try.results64, XX, Nat.reduceBEq, Nat.reduceLT, Nat.reduceAdd, Nat.reduceMul, Nat.reduceSub, Nat.reduceLeDiff, Nat.reduceEqDiff, Int.reduceToNat, Int.reduceLT, Int.reduceLE, Int.reduceAdd, Int.reduceSub, Int.reduceEq, reduceIte, Nat.reduceBNe, Int.reducePow, Nat.reducePow, Int.reduceMul, Int.reduceNeg, isB_i, isB_b, isB_y, isBv_i, isBv_b, eqCells_t, TT]
  simp (maxSteps := 4000000) only [Try.results64, hc, hr, ltc, ltr, d1, d2, d3, d4, g0, XX, Nat.reduceBEq, Nat.reduceLT, Nat.reduceAdd, Nat.reduceMul, Nat.reduceSub, Nat.reduceLeDiff, Nat.reduceEqDiff, Int.reduceToNat, Int.reduceLT, Int.reduceLE, Int.reduceAdd, Int.reduceSub, Int.reduceEq, reduceIte, Nat.reduceBNe, Int.reducePow, Nat.reducePow, Int.reduceMul, Int.reduceNeg, isB_i, isB_b, isB_y, isBv_i, isBv_b, eqCells_t, TT]
  refine ⟨⟨by omega, by omega⟩, by rw [dsC_len]; omega, ?_⟩
  refine call_fz [.c (roB b sp cp)] (copied_spec b sp cp hcp (by omega)) (fun t h' h => resS_noRo h) ⟨fz_c (fz_sl hw rfl rfl), trivial⟩ ?_
  rintro _ _ ⟨z, o, rfl, rfl, ho⟩
  obtain rfl := ho (by omega)
  have hc1 : (H ++ [wB true (b ++ z)])[c]? = some (rcB (.sl r 0 nr cr) (.sl t 0 nt ct) ar at' c1 c2 c3) := by rw [List.getElem?_append_left ltc, hc]
  have hr1 : (H ++ [wB true (b ++ z)])[t]? = some (dB true lt) := by rw [List.getElem?_append_left ltr, hr]
  have lc1 := lt_of hc1
  have lr1 := lt_of hr1
  have ds := dsC_set (true, slB H.length b z) hq
  simp (maxSteps := 4000000) only [Try.results64, ids_bsC, ren_bsC, noRo_bsC, plain_bsC, lt_bsC, ids_byte, ren_byte, noRo_byte, plain_byte, lt_byte, hc1, hr1, lc1, lr1, ds, XX, Nat.reduceBEq, Nat.reduceLT, Nat.reduceAdd, Nat.reduceMul, Nat.reduceSub, Nat.reduceLeDiff, Nat.reduceEqDiff, Int.reduceToNat, Int.reduceLT, Int.reduceLE, Int.reduceAdd, Int.reduceSub, Int.reduceEq, reduceIte, Nat.reduceBNe, Int.reducePow, Nat.reducePow, Int.reduceMul, Int.reduceNeg, isB_i, isB_b, isB_y, isBv_i, isBv_b, eqCells_t, TT]
  exact ⟨⟨by omega, by omega⟩, by rw [dsC_len]; omega, z, rfl⟩
end
theorem rlayB_spec {S : Nat → Prop} {H : List SB} (hS : ∀ i, S i → i < H.length) {rc rr rt : Nat} {k : CK} (ok : k.ok) (h : RSx S H rc rr rt k) (i : Nat) (hi : i < k.tx.length) (hf : seeS k.tx i = false) (w : Nat) (b sp : List UInt8) (c : Nat) (hw : H[w]? = some (wB true (b ++ sp))) (hc : b.length ≤ c) (h1 : 60 ≤ b.length) (h2 : b.length ≤ 1514) : Spec cx.P 64 [.c (.ptr rc 0), .c (i64 i), .c (.sl w 0 b.length c)] H fun t h' => t = .c (i64 0) ∧ RSx S h' rc rr rt (layK k i b) ∧ But H h' (fun i => i = rc ∨ i = rr ∨ i = rt) := by
  obtain ⟨lr, lt, cr, ct, R, X, Y⟩ := h
  have h0 : 0 ≤ (i : Int) ∧ (i : Int) < (k.tx.length : Int) := ⟨by omega, by omega⟩
  unfold layK
  unfold seeS at hf
  rw [if_pos h0] at hf ⊢
  rw [if_neg (by omega), if_neg (by omega)]
  obtain ⟨x, hx, hd⟩ := Y _ _ (getS hi)
  rw [Int.toNat_natCast] at hf ⊢
  rw [hf] at hx ⊢
  refine (rlayS_spec R i hi hx rfl w b sp c hw hc h1 h2).mono fun t h' ⟨z, g1, g2⟩ => ⟨g1, ?_⟩
  subst g2
  rw [if_neg (by decide)]
  have R1 := R.app [wB true (b ++ z)]
  have R2 := R1.sett (lt.set i (true, slB H.length b z)) (by simpa using R.lt)
  refine ⟨⟨lr, lt.set i (true, slB H.length b z), cr, ct, by simpa only [List.length_set] using R2, ?_, ?_⟩, ((But.rfl' _ _).app _).set (.inr (.inr rfl)) _⟩
  · exact X.mono fun _ _ h => (h.app _).set R1.ht dB_ne
  · have Y1 : rowsOf S (H ++ [wB true (b ++ z)]) k.tx lt := Y.mono fun _ _ h => h.app _
    exact (Y1.set R.lt i ⟨true, b, _⟩ (dx_new H b z hS)).mono fun _ _ h => h.set R1.ht dB_ne
theorem RSx.but {S : Nat → Prop} {H h' : List SB} {rc rr rt : Nat} {k : CK} (R : RSx S H rc rr rt k) {p : Nat → Prop} (K : But H h' p) (hp : ∀ (i : Nat) (b : SB), H[i]? = some b → p i → b.ty ≠ 83 ∧ b.ty ≠ 85 ∧ b.ty ≠ 5) : RSx S h' rc rr rt k :=
  R.keep fun i b hi ht => by
    rw [K.2 i (lt_of hi) fun h => ?_]; exact hi
    obtain ⟨a1, a2, a3⟩ := hp i b hi h
    rcases ht with h | h | h
    · exact a1 h
    · exact a2 h
    · exact a3 h
theorem unL_but {L : List Nat} {F h : List SB} {p : Nat → Prop} (K : But (maskL L 0 F) h p) (hp : ∀ i, p i → L.contains i = false) : But F (unL L 0 F h) p := by
  have hl := K.1
  rw [maskL_len] at hl
  refine ⟨by rw [unL_len]; exact hl, fun i hi hn => ?_⟩
  rw [unL_get, Nat.zero_add, List.getElem?_eq_getElem hi, List.getElem?_eq_getElem (show i < h.length by omega)]
  cases hc : L.contains i with
  | true => rfl
  | false =>
    have := K.2 i (by rw [maskL_len]; exact hi) hn
    rw [mask_off hc, List.getElem?_eq_getElem hi, List.getElem?_eq_getElem (show i < h.length by omega)] at this
    exact this
theorem But.wk' {H h' : List SB} {p q : Nat → Prop} (K : But H h' p) (hp : ∀ i, p i → q i) : But H h' q := ⟨K.1, fun i hi hn => K.2 i hi fun h => hn (hp i h)⟩
theorem But.trans {a b c : List SB} {p : Nat → Prop} (h1 : But a b p) (h2 : But b c p) : But a c p := ⟨Nat.le_trans h1.1 h2.1, fun i hi hn => (h2.2 i (Nat.lt_of_lt_of_le hi h1.1) hn).trans (h1.2 i hi hn)⟩
theorem But.setN {H h' : List SB} {p : Nat → Prop} (K : But H h' p) {j : Nat} (hj : H.length ≤ j) (y : SB) : But H (h'.set j y) p := ⟨by rw [List.length_set]; exact K.1, fun i hi hn => (List.getElem?_set_ne (by omega)).trans (K.2 i hi hn)⟩
theorem RSx.maskm {S : Nat → Prop} {H : List SB} {rc rr rt : Nat} {k : CK} (R : RSx S H rc rr rt k) {L : List Nat} (hL : ∀ i, L.contains i = true → ∃ b : SB, H[i]? = some b ∧ b.ty ≠ 83 ∧ b.ty ≠ 85 ∧ b.ty ≠ 5) : RSx S (maskL L 0 H) rc rr rt k :=
  R.keep fun i b hi ht => by
    cases hc : L.contains i with
    | false => rw [mask_off hc]; exact hi
    | true =>
      obtain ⟨b', h1, a1, a2, a3⟩ := hL i hc
      rw [hi] at h1
      cases h1
      rcases ht with h | h | h
      · exact absurd h a1
      · exact absurd h a2
      · exact absurd h a3
theorem one_L {m : Nat} {H : List SB} {b : SB} (hb : H[m]? = some b) (h1 : b.ty ≠ 83 ∧ b.ty ≠ 85 ∧ b.ty ≠ 5) : ∀ i, [m].contains i = true → ∃ b : SB, H[i]? = some b ∧ b.ty ≠ 83 ∧ b.ty ≠ 85 ∧ b.ty ≠ 5 := fun i hi => by
  rw [List.contains_iff_mem, List.mem_singleton] at hi
  subst hi
  exact ⟨b, hb, h1⟩
theorem rnic_tys {s : NS} {c : Nat} : (rnicB s c).ty ≠ 83 ∧ (rnicB s c).ty ≠ 85 ∧ (rnicB s c).ty ≠ 5 := ⟨by show (100 : Nat) ≠ _; decide, by show (100 : Nat) ≠ _; decide, by show (100 : Nat) ≠ _; decide⟩
theorem RSx.setm {S : Nat → Prop} {H : List SB} {rc rr rt m : Nat} {k : CK} {b y : SB} (R : RSx S H rc rr rt k) (hb : H[m]? = some b) (h1 : b.ty ≠ 83 ∧ b.ty ≠ 85 ∧ b.ty ≠ 5) : RSx S (H.set m y) rc rr rt k :=
  R.but ((But.rfl' H (· = m)).set rfl y) fun i b' hi he => by subst he; rw [hb] at hi; cases hi; exact h1
abbrev deB (b : Bool) (y : SC) : SB := ⟨true, 85, [bC b, y]⟩
abbrev XR5 (rc rr rt m : Nat) : Nat → Prop := fun i => i = rc ∨ i = rr ∨ i = rt ∨ i = m
theorem rsend5_spec {S : Nat → Prop} {H : List SB} (hS : ∀ i, S i → i < H.length) {rc rr rt m : Nat} {k : CK} {s : NS} (ok : k.ok) (R : RSx S H rc rr rt k) (hn : H[m]? = some (rnicB s rc)) (os : s.ok k) (d : M6) (kd : Int) {x : SC} {l sp : List UInt8} {cc : Nat} (hx : Rd H x l sp cc) :
    Spec cx.P 62 [.c (.ptr m 0), .agg (macC d ++ [i64 kd, x])] H fun t h' => ∃ x, t = .tup [(false, [x]), (false, [i64 (sendE k s (sealR d s.mac kd l))])] ∧ Out H h' x (sendD k s (sealR d s.mac kd l)) ∧ RSx S h' rc rr rt (sendK k s (sealR d s.mac kd l)) ∧ h'[m]? = some (rnicB (sendN k s (sealR d s.mac kd l)) rc) ∧ But H h' (XR5 rc rr rt m) := by
  have ln := lt_of hn
  have sl := rsealA_spec d s.mac kd l sp cc
  refine spec_of_X cx_ok Try.func62 rfl (by kernel_rfl) (by kernel_rfl) (Nat.le_of_ble_eq_true rfl) 400 12 ?_
  simp (maxSteps := 4000000) only [Try.results62, XX, Nat.reduceBEq, Nat.reduceLT, Nat.reduceAdd, Nat.reduceMul, Nat.reduceSub, Nat.reduceLeDiff, Nat.reduceEqDiff, Int.reduceToNat, Int.reduceLT, Int.reduceLE, Int.reduceAdd, Int.reduceSub, Int.reduceEq, reduceIte, Nat.reduceBNe, Int.reducePow, Nat.reducePow, Int.reduceMul, Int.reduceNeg, isB_i, isB_b, isB_y, isBv_i, isBv_b, eqCells_t, TT]
  generalize hG : H ++ [({ own := true, ty := 35, cells := [byteC d.a, byteC d.b, byteC d.c, byteC d.d, byteC d.e, byteC d.f, i64 kd, x] } : SB)] = G
  have gn : G[m]? = some (rnicB s rc) := by rw [← hG, List.getElem?_append_left ln]; exact hn
  have gb : G[H.length]? = some ⟨true, 35, macC d ++ [i64 kd, x]⟩ := by rw [← hG]; exact app_self
  have bG : But H G (fun _ => False) := by rw [← hG]; exact (But.rfl' _ _).app _
  have RG : RSx S G rc rr rt k := R.but bG fun _ _ _ h => h.elim
  have xG : Rd G x l sp cc := hx.mono fun i b hi _ => by rw [← hG, List.getElem?_append_left (lt_of hi)]; exact hi
  have lG : G.length = H.length + 1 := by rw [← hG, List.length_append]; rfl
  obtain ⟨b, hb⟩ : ∃ b, b = H.length := ⟨_, rfl⟩
  rw [← hb] at gb lG ⊢
  clear hG
  obtain ⟨ox, mx⟩ : ∃ o, (maskL [m, b] 0 G)[m]? = some ⟨o, 100, (rnicB s rc).cells⟩ := maskL_at gn
  obtain ⟨oy, my⟩ : ∃ o, (maskL [m, b] 0 G)[b]? = some ⟨o, 35, macC d ++ [i64 kd, x]⟩ := maskL_at gb
  have hok := kept_cons gn rfl (kept_cons gb rfl kept_nil)
  have lx := lt_of mx
  have ly := lt_of my
  have lgn := lt_of gn
  have lgb := lt_of gb
  have xM : Rd (maskL [m, b] 0 G) x l sp cc := xG.mask fun i hi => by
    rw [List.contains_iff_mem] at hi
    simp only [List.mem_cons, List.not_mem_nil, or_false] at hi
    rcases hi with rfl | rfl
    · exact ⟨_, gn, by show (100 : Nat) ≠ 5; decide⟩
    · exact ⟨_, gb, by show (35 : Nat) ≠ 5; decide⟩
  refine draw_of cx_ok (by kernel_rfl) 400 [m, b] [(0, true), (1, true), (2, true), (3, true), (4, true), (5, true), (6, true), (7, true), (8, true), (9, true), (10, true), (11, false), (12, true), (13, true), (14, true), (15, true), (16, true)] (by kernel_rfl) (by first | exact hok | simp [*]) ?_
  simp (maxSteps := 4000000) only [Try.results62, gn, gb, mx, my, lx, ly, lgn, lgb, XX, Nat.reduceBEq, Nat.reduceLT, Nat.reduceAdd, Nat.reduceMul, Nat.reduceSub, Nat.reduceLeDiff, Nat.reduceEqDiff, Int.reduceToNat, Int.reduceLT, Int.reduceLE, Int.reduceAdd, Int.reduceSub, Int.reduceEq, reduceIte, Nat.reduceBNe, Int.reducePow, Nat.reducePow, Int.reduceMul, Int.reduceNeg, isB_i, isB_b, isB_y, isBv_i, isBv_b, eqCells_t, TT]
  refine call_fz [.agg (fraC d s.mac kd (roB l sp cc))] sl (fun t h' h => resB_noRo h) ⟨fra_fz (xM.frc fun _ _ _ _ => rfl), trivial⟩ ?_
  rintro _ _ ⟨z, o, rfl, rfl, ho⟩
  simp (maxSteps := 4000000) only [Try.results62, ids_bsC, ren_bsC, noRo_bsC, plain_bsC, lt_bsC, ids_byte, ren_byte, noRo_byte, plain_byte, lt_byte, unL_app, XX, Nat.reduceBEq, Nat.reduceLT, Nat.reduceAdd, Nat.reduceMul, Nat.reduceSub, Nat.reduceLeDiff, Nat.reduceEqDiff, Int.reduceToNat, Int.reduceLT, Int.reduceLE, Int.reduceAdd, Int.reduceSub, Int.reduceEq, reduceIte, Nat.reduceBNe, Int.reducePow, Nat.reducePow, Int.reduceMul, Int.reduceNeg, isB_i, isB_b, isB_y, isBv_i, isBv_b, eqCells_t, TT]
  rw [maskL_len, lG]
  obtain ⟨q, hq⟩ : ∃ q, q = sealR d s.mac kd l := ⟨_, rfl⟩
  have q1 := sealR_ok (d := d) (s := s.mac) (kd := kd) (l := l)
  have q0 := sealR_err (d := d) (s := s.mac) (kd := kd) (l := l)
  rw [← hq] at q1 q0 ho ⊢
  clear hq xM mx my hok lx ly sl
  have gw : (G ++ [wB o (q.1 ++ z)])[b + 1]? = some (wB o (q.1 ++ z)) := by rw [← lG]; exact app_self
  have gn' : (G ++ [wB o (q.1 ++ z)])[m]? = some (rnicB s rc) := (List.getElem?_append_left lgn).trans gn
  have bF : But H (G ++ [wB o (q.1 ++ z)]) (fun _ => False) := bG.app _
  have RF : RSx S (G ++ [wB o (q.1 ++ z)]) rc rr rt k := R.but bF fun _ _ _ h => h.elim
  have lF : (G ++ [wB o (q.1 ++ z)]).length = b + 2 := by rw [List.length_append, lG]; rfl
  generalize G ++ [wB o (q.1 ++ z)] = F at *
  obtain ⟨ox, mx⟩ : ∃ o, (maskL [m] 0 F)[m]? = some ⟨o, 100, (rnicB s rc).cells⟩ := maskL_at gn'
  have hok := kept_cons gn' rfl kept_nil
  have lx := lt_of mx
  have lfn := lt_of gn'
  have Rm := RF.maskm (one_L gn' rnic_tys)
  have lM : (maskL [m] 0 F).length = F.length := maskL_len _ _ _
  have nc := not1 (n := m) (c := m)
  refine draw_cut cx_ok 400 (fun τ => ∃ (F3 : List SB) (dd : Nat) (y : SC), But F F3 (fun _ => False) ∧ F.length ≤ dd ∧ F3[dd]? = some (deB (seeS k.tx s.t) y) ∧
      τ = ⟨⟨12, b⟩, [(0, .c (.ptr m 0)), (6, .c (.sl (b + 1) 0 q.1.length (q.1.length + z.length))), (7, .c (i64 q.2)), (8, .c (.ptr dd 0))], F3⟩) ?_ ?_
  · refine draw2_of cx_ok (by kernel_rfl) 400 [m] (.pair [(0, true), (1, true), (2, true), (3, true), (4, true), (5, true), (6, true), (7, true)] 8 12 (.done [(9, true), (10, true), (11, true), (12, false), (13, false), (14, true)]) (.done [(8, false), (9, true), (10, true), (11, true), (13, false), (14, true)])) (by kernel_rfl) (by first | exact hok | simp [*]) ?_
    simp (maxSteps := 4000000) only [Try.results62, PXT_done, PXT_pair, gn', mx, lx, lfn, XX, Nat.reduceBEq, Nat.reduceLT, Nat.reduceAdd, Nat.reduceMul, Nat.reduceSub, Nat.reduceLeDiff, Nat.reduceEqDiff, Int.reduceToNat, Int.reduceLT, Int.reduceLE, Int.reduceAdd, Int.reduceSub, Int.reduceEq, reduceIte, Nat.reduceBNe, Int.reducePow, Nat.reducePow, Int.reduceMul, Int.reduceNeg, isB_i, isB_b, isB_y, isBv_i, isBv_b, eqCells_t, TT]
    refine ⟨?_, ?_⟩
    · refine call_is (rtxA_spec (fun i hi => by rw [lM]; have := hS i hi; omega) ok Rm s.t) ?_
      rintro _ h3 ⟨y, rfl, _, _, B3⟩
      simp (maxSteps := 4000000) only [Try.results62, PXT_done, append_at, append_set, append_len1, Nat.lt_add_one, XX, Nat.reduceBEq, Nat.reduceLT, Nat.reduceAdd, Nat.reduceMul, Nat.reduceSub, Nat.reduceLeDiff, Nat.reduceEqDiff, Int.reduceToNat, Int.reduceLT, Int.reduceLE, Int.reduceAdd, Int.reduceSub, Int.reduceEq, reduceIte, Nat.reduceBNe, Int.reducePow, Nat.reducePow, Int.reduceMul, Int.reduceNeg, isB_i, isB_b, isB_y, isBv_i, isBv_b, eqCells_t, TT]
      have B4 : But F (unL [m] 0 F (h3 ++ [deB (seeS k.tx s.t) y])) (fun _ => False) := unL_but (B3.app _) fun _ h => h.elim
      have l3 : F.length ≤ h3.length := by have := B3.1; rw [lM] at this; exact this
      refine ⟨_, ⟨_, h3.length, y, B4, l3, by rw [unL_ge l3]; exact append_at _, rfl⟩, .inl ⟨rfl, rfl, rfl, rfl, rfl, rfl, trivial⟩⟩
    · refine call_is (rtxA_spec (fun i hi => by rw [List.length_append, lM]; have := hS i hi; omega) ok (Rm.but ((But.rfl' _ _).app _) (p := fun _ => False) fun _ _ _ h => h.elim) s.t) ?_
      rintro _ h3 ⟨y, rfl, _, _, B3⟩
      have hd := (B3.2 (maskL [m] 0 F).length (by rw [List.length_append]; exact Nat.lt_succ_self _) (fun h => h)).trans (append_at _)
      have lh := lt_of hd
      simp (maxSteps := 4000000) only [Try.results62, PXT_done, hd, lh, XX, Nat.reduceBEq, Nat.reduceLT, Nat.reduceAdd, Nat.reduceMul, Nat.reduceSub, Nat.reduceLeDiff, Nat.reduceEqDiff, Int.reduceToNat, Int.reduceLT, Int.reduceLE, Int.reduceAdd, Int.reduceSub, Int.reduceEq, reduceIte, Nat.reduceBNe, Int.reducePow, Nat.reducePow, Int.reduceMul, Int.reduceNeg, isB_i, isB_b, isB_y, isBv_i, isBv_b, eqCells_t, TT]
      have B4 : But F (unL [m] 0 F (h3.set (maskL [m] 0 F).length (deB (seeS k.tx s.t) y))) (fun _ => False) := unL_but ((((But.rfl' _ _).app _).trans B3).setN (Nat.le_refl _) _) fun _ h => h.elim
      refine ⟨_, ⟨_, (maskL [m] 0 F).length, y, B4, by rw [lM]; exact Nat.le_refl _, by rw [unL_ge (by rw [lM]; exact Nat.le_refl _), List.getElem?_set_self lh], rfl⟩, .inl ⟨rfl, rfl, rfl, rfl, rfl, rfl, trivial⟩⟩
  clear hok mx lx Rm lM nc
  rintro τ ⟨F3, dd, y, B3, ld, hd, rfl⟩
  have hn3 := (B3.2 m lfn (fun h => h)).trans gn'
  have hw3 := (B3.2 (b + 1) (lt_of gw) (fun h => h)).trans gw
  have R3 : RSx S F3 rc rr rt k := RF.but B3 fun _ _ _ h => h.elim
  have B03 : But H F3 (fun _ => False) := bF.trans B3
  have l3 := lt_of hd
  have l4 := lt_of hn3
  by_cases hz : q.2 = 0
  · have dz : decide (q.2 = 0) = true := by simpa using hz
    simp (maxSteps := 4000000) only [Try.results62, hd, l3, dz, XX, Nat.reduceBEq, Nat.reduceLT, Nat.reduceAdd, Nat.reduceMul, Nat.reduceSub, Nat.reduceLeDiff, Nat.reduceEqDiff, Int.reduceToNat, Int.reduceLT, Int.reduceLE, Int.reduceAdd, Int.reduceSub, Int.reduceEq, reduceIte, Nat.reduceBNe, Int.reducePow, Nat.reducePow, Int.reduceMul, Int.reduceNeg, isB_i, isB_b, isB_y, isBv_i, isBv_b, eqCells_t, TT]
    by_cases hfull : seeS k.tx s.t = true
    · have e1 : sendE k s q = 3 := by unfold sendE; rw [if_pos hz, if_pos hfull]
      have e3 : ¬ (3 : Int) = 0 := by decide
      have eN : sendN k s q = { s with rf := incW s.rf } := by unfold sendN; rw [e1, if_neg e3]
      have eK : sendK k s q = k := by unfold sendK; rw [e1, if_neg e3]
      have eD : sendD k s q = [] := by unfold sendD; rw [e1, if_neg e3]
      rw [hfull] at hd ⊢
      simp (maxSteps := 4000000) only [Try.results62, hd, l3, hn3, l4, gset, XX, Nat.reduceBEq, Nat.reduceLT, Nat.reduceAdd, Nat.reduceMul, Nat.reduceSub, Nat.reduceLeDiff, Nat.reduceEqDiff, Int.reduceToNat, Int.reduceLT, Int.reduceLE, Int.reduceAdd, Int.reduceSub, Int.reduceEq, reduceIte, Nat.reduceBNe, Int.reducePow, Nat.reducePow, Int.reduceMul, Int.reduceNeg, isB_i, isB_b, isB_y, isBv_i, isBv_b, eqCells_t, TT]
      exact ⟨_, by rw [e1], .inl ⟨rfl, eD⟩, by rw [eK]; exact R3.setm hn3 rnic_tys, by rw [eN]; rfl, (B03.wk' fun _ h => h.elim).set (.inr (.inr (.inr rfl))) _⟩
    · have hf : seeS k.tx s.t = false := by simpa using hfull
      obtain ⟨q2, q3⟩ := q1 hz
      obtain rfl : o = true := ho (by omega)
      have e1 : sendE k s q = 0 := by unfold sendE; rw [if_pos hz, if_neg hfull]
      have eN : sendN k s q = { s with t := (s.t + 1) % k.tx.length, se := incW s.se } := by unfold sendN; rw [if_pos e1]
      have eK : sendK k s q = layK k s.t q.1 := by unfold sendK; rw [if_pos e1]
      have eD : sendD k s q = q.1 := by unfold sendD; rw [if_pos e1]
      rw [e1, eN, eK, eD]
      rw [hf] at hd ⊢
      simp (maxSteps := 4000000) only [Try.results62, hd, l3, hn3, l4, dz, XX, Nat.reduceBEq, Nat.reduceLT, Nat.reduceAdd, Nat.reduceMul, Nat.reduceSub, Nat.reduceLeDiff, Nat.reduceEqDiff, Int.reduceToNat, Int.reduceLT, Int.reduceLE, Int.reduceAdd, Int.reduceSub, Int.reduceEq, reduceIte, Nat.reduceBNe, Int.reducePow, Nat.reducePow, Int.reduceMul, Int.reduceNeg, isB_i, isB_b, isB_y, isBv_i, isBv_b, eqCells_t, TT]
      obtain ⟨lr0, lt0, cr0, ct0, RR, _, _⟩ := id R3
      refine call_is (rrings_spec RR) ?_
      rintro _ M2 ⟨rfl, hM⟩
      rw [hM]
      clear hM M2 RR
      obtain ⟨ox, mx⟩ : ∃ o, (maskL [m] 0 F3)[m]? = some ⟨o, 100, (rnicB s rc).cells⟩ := maskL_at hn3
      have hok := kept_cons hn3 rfl kept_nil
      have lx := lt_of mx
      simp (maxSteps := 4000000) only [Try.results62, XX, Nat.reduceBEq, Nat.reduceLT, Nat.reduceAdd, Nat.reduceMul, Nat.reduceSub, Nat.reduceLeDiff, Nat.reduceEqDiff, Int.reduceToNat, Int.reduceLT, Int.reduceLE, Int.reduceAdd, Int.reduceSub, Int.reduceEq, reduceIte, Nat.reduceBNe, Int.reducePow, Nat.reducePow, Int.reduceMul, Int.reduceNeg, isB_i, isB_b, isB_y, isBv_i, isBv_b, eqCells_t, TT]
      refine draw_of cx_ok (by kernel_rfl) 400 [m] [(0, true), (1, true), (2, true), (3, true), (4, true), (5, true), (6, true), (7, true), (8, true), (9, false)] (by kernel_rfl) (by first | exact hok | simp [*]) ?_
      simp (maxSteps := 4000000) only [Try.results62, hn3, mx, lx, l4, XX, Nat.reduceBEq, Nat.reduceLT, Nat.reduceAdd, Nat.reduceMul, Nat.reduceSub, Nat.reduceLeDiff, Nat.reduceEqDiff, Int.reduceToNat, Int.reduceLT, Int.reduceLE, Int.reduceAdd, Int.reduceSub, Int.reduceEq, reduceIte, Nat.reduceBNe, Int.reducePow, Nat.reducePow, Int.reduceMul, Int.reduceNeg, isB_i, isB_b, isB_y, isBv_i, isBv_b, eqCells_t, TT]
      have Rm := R3.maskm (one_L hn3 rnic_tys)
      have lM : (maskL [m] 0 F3).length = F3.length := maskL_len _ _ _
      have nmw : m ≠ b + 1 := ty_ne hn3 hw3 rnic_ty
      refine call_is (rlayB_spec (fun i hi => by rw [lM]; have := hS i hi; have := B03.1; omega) ok Rm s.t os.t hf (b + 1) q.1 z _ ((mask_off (not1 nmw)).trans hw3) (by omega) q2 q3) ?_
      rintro _ h5 ⟨rfl, R5, B5⟩
      obtain ⟨nrc, nrr, nrt⟩ : m ≠ rc ∧ m ≠ rr ∧ m ≠ rt := by
        obtain ⟨lr0, lt0, cr0, ct0, RR, _, _⟩ := id R3
        exact ⟨ty_ne hn3 RR.hc rnic_tys.1, ty_ne hn3 RR.hr rnic_tys.2.1, ty_ne hn3 RR.ht rnic_tys.2.1⟩
      have np : ∀ i, (i = rc ∨ i = rr ∨ i = rt) → [m].contains i = false := fun i hi => not1 (by rcases hi with rfl | rfl | rfl <;> assumption)
      have B6 := unL_but B5 np
      have h5m := (B5.2 m (by rw [lM]; exact l4) (fun h => by have := np m h; simp at this)).trans mx
      have R6 : RSx S (unL [m] 0 F3 h5) rc rr rt (layK k s.t q.1) := R5.keep fun i b hi ht => by
        have hne : m ≠ i := by
          rintro rfl
          rw [h5m] at hi
          cases hi
          rcases ht with h | h | h
          · exact (rnic_tys (s := s) (c := rc)).1 h
          · exact (rnic_tys (s := s) (c := rc)).2.1 h
          · exact (rnic_tys (s := s) (c := rc)).2.2 h
        rw [unL_off (not1 hne)]; exact hi
      have hn6 := (B6.2 m l4 (fun h => by have := np m h; simp at this)).trans hn3
      have hw6 := (B6.2 (b + 1) (lt_of hw3) (fun h => by
        obtain ⟨lr0, lt0, cr0, ct0, RR, _, _⟩ := id R3
        rcases h with h | h | h
        · exact ty_ne hw3 RR.hc (by show (5 : Nat) ≠ 83; decide) h
        · exact ty_ne hw3 RR.hr (by show (5 : Nat) ≠ 85; decide) h
        · exact ty_ne hw3 RR.ht (by show (5 : Nat) ≠ 85; decide) h)).trans hw3
      simp (maxSteps := 4000000) only [Try.results62, XX, Nat.reduceBEq, Nat.reduceLT, Nat.reduceAdd, Nat.reduceMul, Nat.reduceSub, Nat.reduceLeDiff, Nat.reduceEqDiff, Int.reduceToNat, Int.reduceLT, Int.reduceLE, Int.reduceAdd, Int.reduceSub, Int.reduceEq, reduceIte, Nat.reduceBNe, Int.reducePow, Nat.reducePow, Int.reduceMul, Int.reduceNeg, isB_i, isB_b, isB_y, isBv_i, isBv_b, eqCells_t, TT]
      have B06 : But H (unL [m] 0 F3 h5) (XR5 rc rr rt m) := (B03.wk' fun _ h => h.elim).trans (B6.wk' fun i h => h.elim .inl fun h => h.elim (fun h => .inr (.inl h)) fun h => .inr (.inr (.inl h)))
      generalize unL [m] 0 F3 h5 = F6 at *
      have l6 := lt_of hn6
      have em := next_mod os.t ok.tx1
      simp (maxSteps := 4000000) only [Try.results62, hn6, l6, em, gset, List.set_set, Option.map_some, XX, Nat.reduceBEq, Nat.reduceLT, Nat.reduceAdd, Nat.reduceMul, Nat.reduceSub, Nat.reduceLeDiff, Nat.reduceEqDiff, Int.reduceToNat, Int.reduceLT, Int.reduceLE, Int.reduceAdd, Int.reduceSub, Int.reduceEq, reduceIte, Nat.reduceBNe, Int.reducePow, Nat.reducePow, Int.reduceMul, Int.reduceNeg, isB_i, isB_b, isB_y, isBv_i, isBv_b, eqCells_t, TT]
      exact ⟨by have := os.t; omega, _, rfl, .inr ⟨b + 1, z, true, rfl, by omega, (List.getElem?_set_ne nmw).trans hw6, fun _ => rfl⟩, R6.setm hn6 rnic_tys, rfl, B06.set (.inr (.inr (.inr rfl))) _⟩
  · have dz : decide (q.2 = 0) = false := by simpa using hz
    simp (maxSteps := 4000000) only [Try.results62, hd, l3, hn3, l4, dz, gset, XX, Nat.reduceBEq, Nat.reduceLT, Nat.reduceAdd, Nat.reduceMul, Nat.reduceSub, Nat.reduceLeDiff, Nat.reduceEqDiff, Int.reduceToNat, Int.reduceLT, Int.reduceLE, Int.reduceAdd, Int.reduceSub, Int.reduceEq, reduceIte, Nat.reduceBNe, Int.reducePow, Nat.reducePow, Int.reduceMul, Int.reduceNeg, isB_i, isB_b, isB_y, isBv_i, isBv_b, eqCells_t, TT]
    have e1 : sendE k s q = q.2 := by unfold sendE; rw [if_neg hz]
    have eN : sendN k s q = { s with rf := incW s.rf } := by unfold sendN; rw [e1, if_neg hz]
    have eK : sendK k s q = k := by unfold sendK; rw [e1, if_neg hz]
    have eD : sendD k s q = [] := by unfold sendD; rw [e1, if_neg hz]
    exact ⟨_, by rw [e1], .inl ⟨rfl, eD⟩, by rw [eK]; exact R3.setm hn3 rnic_tys, by rw [eN]; rfl, (B03.wk' fun _ h => h.elim).set (.inr (.inr (.inr rfl))) _⟩
end Go.Proofs.Ythbojoiogjdbeaa.Sx
namespace Go.Proofs.Ythbojoiogjdbeaa.Sx
open Go
set_option linter.unusedSimpArgs false
set_option linter.unusedVariables false
set_option maxRecDepth 10000
set_option maxHeartbeats 4000000
/-- A frame that came out, where its bytes stand. -/
structure FE where
  f : FR
  w : Nat
  z : List UInt8
  o : Bool
abbrev FE.c (e : FE) : List SC := fraC e.f.d e.f.s e.f.k (slB e.w e.f.l e.z)
abbrev zeroFr : List SC := fraC .nul .nul 0 noC
theorem fe_len {es : List FE} : ∀ c ∈ es.map FE.c, c.length = 14 := by
  intro c hc
  obtain ⟨e, _, rfl⟩ := List.mem_map.1 hc
  rfl
structure FrL (H : List SB) (lo : Nat) (sc : SC) (es : List FE) : Prop where
  row : (es = [] ∧ sc = noC) ∨ ∃ iF o r, sc = .sl iF 0 es.length (es.length + r) ∧ lo ≤ iF ∧ RowG H 40 zeroFr iF o (es.map FE.c) r
  at_ : ∀ e ∈ es, lo ≤ e.w ∧ H[e.w]? = some (wB e.o (e.f.l ++ e.z)) ∧ (0 < e.f.l.length + e.z.length → e.o = true)
  ne : es.Pairwise fun a b => a.w ≠ b.w
theorem FrL.nil (H : List SB) (lo : Nat) : FrL H lo noC [] := ⟨.inl ⟨rfl, rfl⟩, (fun _ h => nomatch h), List.Pairwise.nil⟩
theorem FrL.keep {H H' : List SB} {lo : Nat} {sc : SC} {es : List FE} (F : FrL H lo sc es) (K : ∀ (i : Nat) (b : SB), H[i]? = some b → (b.ty = 40 ∨ b.ty = 5) → H'[i]? = some b) : FrL H' lo sc es := by
  refine ⟨?_, fun e he => ?_, F.ne⟩
  · rcases F.row with h | ⟨iF, o, r, h1, h2, R⟩
    · exact .inl h
    · exact .inr ⟨iF, o, r, h1, h2, K _ _ R.row (.inl rfl), R.own⟩
  · obtain ⟨h1, h2, h3⟩ := F.at_ e he
    exact ⟨h1, K _ _ h2 (.inr rfl), h3⟩
theorem FrL.lt {H : List SB} {lo : Nat} {sc : SC} {es : List FE} (F : FrL H lo sc es) {e : FE} (he : e ∈ es) : e.w < H.length := lt_of (F.at_ e he).2.1
/-- All windows of some types stay. -/
def KT (p : TypeId → Prop) (H H' : List SB) : Prop := ∀ (i : Nat) (b : SB), H[i]? = some b → p b.ty → H'[i]? = some b
theorem KT.trans {p : TypeId → Prop} {a b c : List SB} (h1 : KT p a b) (h2 : KT p b c) : KT p a c := fun i x hi hx => h2 i x (h1 i x hi hx) hx
theorem KT.ofBut {p : TypeId → Prop} {q : Nat → Prop} {H H' : List SB} (K : But H H' q) (h : ∀ (i : Nat) (b : SB), H[i]? = some b → q i → ¬ p b.ty) : KT p H H' := fun i b hi hp => by
  rw [K.2 i (lt_of hi) fun hq => h i b hi hq hp]; exact hi
theorem KT.set {p : TypeId → Prop} {H : List SB} {n : Nat} {a y : SB} (hn : H[n]? = some a) (ha : ¬ p a.ty) : KT p H (H.set n y) := fun i b hi hp => by
  rw [List.getElem?_set_ne (fun e => by subst e; rw [hn] at hi; cases hi; exact ha hp)]; exact hi
abbrev tyF (t : TypeId) : Prop := t = 40 ∨ t = 5
theorem KT.setC {p : TypeId → Prop} {H : List SB} {c w1 w2 : Nat} {k k' : CK} (P : PC H c w1 w2 k) (h1 : ¬ p 73) (h2 : ¬ p 76) : KT p H (setC H c w1 w2 k') := fun i b hi hp => by
  rw [setC_off (fun e => by subst e; rw [P.hc] at hi; cases hi; exact h1 hp) (fun e => by subst e; rw [P.h1] at hi; cases hi; exact h2 hp) (fun e => by subst e; rw [P.h2] at hi; cases hi; exact h2 hp)]; exact hi
def minQ (k : CK) (s : NS) : Bool := decide ((openR (seeD k.rx s.r)).e = 0) && mineB s.mac (openR (seeD k.rx s.r)).d (openR (seeD k.rx s.r)).s
def pollS (k : CK) (s : NS) : NS := { s with r := (s.r + 1) % k.rx.length, tk := if minQ k s then incW s.tk else s.tk, th := if minQ k s then s.th else incW s.th }
def pollO (k : CK) (s : NS) : List FR := if minQ k s then [openR (seeD k.rx s.r)] else []
def pollN : Nat → CK → NS → CK × NS × List FR
  | 0, k, s => (k, s, [])
  | n + 1, k, s => if seeS k.rx s.r then (k, s, []) else ((pollN n (givK k s.r) (pollS k s)).1, (pollN n (givK k s.r) (pollS k s)).2.1, pollO k s ++ (pollN n (givK k s.r) (pollS k s)).2.2)
theorem givK_len (k : CK) (i : Int) : (givK k i).rx.length = k.rx.length ∧ (givK k i).tx.length = k.tx.length := by
  unfold givK
  split
  · split
    · exact ⟨rfl, rfl⟩
    · exact ⟨List.length_set, rfl⟩
  · exact ⟨rfl, rfl⟩
theorem pollS_ok {k : CK} {s : NS} (ok : k.ok) (os : s.ok k) : (pollS k s).ok (givK k s.r) := by
  obtain ⟨h1, h2⟩ := givK_len k s.r
  have := ok.rx0
  exact ⟨by rw [h1]; exact Nat.mod_lt _ this, by rw [h2]; exact os.t⟩
/-- So far, and what is left. -/
def PollI (N : Nat) (k : CK) (s : NS) (n : Nat) (k1 : CK) (s1 : NS) (done : List FR) : Prop := pollN N k s = ((pollN n k1 s1).1, (pollN n k1 s1).2.1, done ++ (pollN n k1 s1).2.2)
theorem PollI.start (N : Nat) (k : CK) (s : NS) : PollI N k s N k s [] := rfl
theorem PollI.next {N n : Nat} {k k1 : CK} {s s1 : NS} {done : List FR} (h : PollI N k s (n + 1) k1 s1 done) (hs : seeS k1.rx s1.r = false) : PollI N k s n (givK k1 s1.r) (pollS k1 s1) (done ++ pollO k1 s1) := by
  unfold PollI at h ⊢
  rw [h, pollN, hs, if_neg (by decide), List.append_assoc]
theorem PollI.stop {N n : Nat} {k k1 : CK} {s s1 : NS} {done : List FR} (h : PollI N k s n k1 s1 done) (hs : n = 0 ∨ seeS k1.rx s1.r = true) : pollN N k s = (k1, s1, done) := by
  unfold PollI at h
  rw [h]
  rcases hs with rfl | hs
  · simp [pollN]
  · cases n with
    | zero => simp [pollN]
    | succ n => simp [pollN, hs]
/-- Slots that the card does not own. -/
def frN (l : List Sl) : Nat := l.countP fun s => !s.own
theorem frN_le (l : List Sl) : frN l ≤ l.length := List.countP_le_length
theorem frN_give {k : CK} {i : Nat} (hi : i < k.rx.length) (hs : seeS k.rx i = false) : frN (givK k i).rx + 1 = frN k.rx := by
  have h0 : 0 ≤ (i : Int) ∧ (i : Int) < (k.rx.length : Int) := ⟨by omega, by omega⟩
  unfold seeS at hs
  rw [if_pos h0] at hs
  unfold givK
  rw [if_pos h0, hs, if_neg (by decide)]
  rw [Int.toNat_natCast] at hs ⊢
  have e1 : k.rx = k.rx.take i ++ (k.rx.getD i noSl :: k.rx.drop (i + 1)) := by
    have h2 : k.rx.getD i noSl = k.rx[i] := by rw [List.getD_eq_getElem?_getD, List.getElem?_eq_getElem hi]; rfl
    rw [h2, ← List.drop_eq_getElem_cons hi, List.take_append_drop]
  dsimp only
  unfold frN
  rw [List.set_eq_take_append_cons_drop, if_pos hi]
  conv => rhs; rw [e1]
  rw [List.countP_append, List.countP_append, List.countP_cons, List.countP_cons, hs]
  simp
  omega
theorem pollO_len (k : CK) (s : NS) : (pollO k s).length ≤ 1 := by
  unfold pollO
  split <;> simp
theorem FrL.push {xn : XN} {dst : Option Tmp} {k : List KI} {nm : NB} {tm : List (Nat × SV)} {Q : XE → St → Prop} {H : List SB} {lo iF g m : Nat} {o : Bool} {es : List FE} {r : Nat} {e : FE} {b : SB}
    (F : FrL H lo (.sl iF 0 es.length (es.length + r)) es) (R : RowG H 40 zeroFr iF o (es.map FE.c) r) (hlo : lo ≤ iF) (hm : es.length = m) (hg : g = H.length + 1) (hloH : lo ≤ H.length)
    (hw : H[e.w]? = some (wB e.o (e.f.l ++ e.z))) (ho : 0 < e.f.l.length + e.z.length → e.o = true) (hl : lo ≤ e.w) (hne : ∀ a ∈ es, a.w ≠ e.w)
    (hk : ∀ H' sc, FrL H' lo sc (es ++ [e]) → But H H' (fun i => i = iF) → xn k ⟨nm, put dst (.c sc) tm, H'⟩ Q) :
    XApp xn (m + 1) (m + r) dst k nm tm (.c (.sl iF 0 (m + 1) (m + r)), H.set iF ⟨o, 40, (rowG zeroFr (es.map FE.c) r).take (m * 14) ++ (e.c ++ (rowG zeroFr (es.map FE.c) r).drop (m * 14 + 14))⟩ ++ [b])
      (fun c' => (.c (.sl g 0 (m + 1) c'), H ++ [b, ⟨true, 40, (rowG zeroFr (es.map FE.c) r).take (m * 14) ++ (e.c ++ (List.replicate (c' - (m + 1)) zeroFr).flatten)⟩])) Q := by
  refine rowg_push e.c R fe_len rfl (by rw [List.length_map]; exact hm) hg ?_
  intro H' iO' r' R' hl' hkp hi'
  have hfe : ∀ a ∈ es ++ [e], lo ≤ a.w ∧ H'[a.w]? = some (wB a.o (a.f.l ++ a.z)) ∧ (0 < a.f.l.length + a.z.length → a.o = true) := by
    have old : ∀ (w : Nat) (u : List UInt8) (oo : Bool), H[w]? = some (wB oo u) → H'[w]? = some (wB oo u) := fun w u oo h => by
      rw [hkp w (lt_of h) (ty_ne h R.row (by show (5 : Nat) ≠ 40; decide))]; exact h
    intro a ha
    rcases List.mem_append.1 ha with ha | ha
    · obtain ⟨h1, h2, h3⟩ := F.at_ a ha
      exact ⟨h1, old _ _ _ h2, h3⟩
    · obtain rfl := List.mem_singleton.1 ha
      exact ⟨hl, old _ _ _ hw, ho⟩
  refine hk H' (.sl iO' 0 (m + 1) (m + 1 + r')) ⟨.inr ⟨iO', true, r', ?_, by omega, ?_⟩, hfe, ?_⟩ ⟨hl', fun i hi hn => hkp i hi hn⟩
  · rw [List.length_append, List.length_singleton, hm]
  · rw [List.map_append]; exact R'
  · exact List.pairwise_append.2 ⟨F.ne, List.pairwise_singleton _ _, fun a ha b hb => by obtain rfl := List.mem_singleton.1 hb; exact hne a ha⟩
theorem FrL.first {xn : XN} {dst : Option Tmp} {k : List KI} {nm : NB} {tm : List (Nat × SV)} {Q : XE → St → Prop} {H : List SB} {lo g : Nat} {e : FE} {b : SB} {room : SV × List SB} (hg : g = H.length + 1) (hloH : lo ≤ H.length)
    (hw : H[e.w]? = some (wB e.o (e.f.l ++ e.z))) (ho : 0 < e.f.l.length + e.z.length → e.o = true) (hl : lo ≤ e.w)
    (hk : ∀ H' sc, FrL H' lo sc [e] → But H H' (fun _ => False) → xn k ⟨nm, put dst (.c sc) tm, H'⟩ Q) :
    XApp xn 1 0 dst k nm tm room (fun c' => (.c (.sl g 0 1 c'), H ++ [b, ⟨true, 40, e.c ++ (List.replicate (c' - 1) zeroFr).flatten⟩])) Q := by
  refine rowg_first e.c hg ?_
  intro H' iO' r' R' hl' hkp hi'
  refine hk H' (.sl iO' 0 1 (1 + r')) ⟨.inr ⟨iO', true, r', rfl, by omega, R'⟩, fun a ha => ?_, List.pairwise_singleton _ _⟩ ⟨hl', fun i hi _ => hkp i hi⟩
  obtain rfl := List.mem_singleton.1 ha
  exact ⟨hl, (hkp _ (lt_of hw)).trans hw, ho⟩
end Go.Proofs.Ythbojoiogjdbeaa.Sx
namespace Go.Proofs.Ythbojoiogjdbeaa.Sx
open Go
set_option linter.unusedSimpArgs false
set_option linter.unusedVariables false
set_option maxRecDepth 10000
set_option maxHeartbeats 8000000
theorem nic_tys {s : NS} {c : Nat} : (nicB s c).ty ≠ 40 ∧ (nicB s c).ty ≠ 85 ∧ (nicB s c).ty ≠ 5 := ⟨by show (80 : Nat) ≠ _; decide, by show (80 : Nat) ≠ _; decide, by show (80 : Nat) ≠ _; decide⟩
theorem set_two {h : List SB} {a b y : SB} : (h ++ [a, b]).set (h.length + 1) y = h ++ [a, y] := by rw [List.set_append_right _ _ (by omega), Nat.add_sub_cancel_left]; rfl
theorem two_L {n m : Nat} {H : List SB} {b b' : SB} {p : TypeId → Prop} (hb : H[n]? = some b) (h1 : p b.ty) (hb' : H[m]? = some b') (h2 : p b'.ty) : ∀ i, [n, m].contains i = true → ∃ b : SB, H[i]? = some b ∧ p b.ty := fun i hi => by
  rw [List.contains_iff_mem, List.mem_cons, List.mem_singleton] at hi
  rcases hi with rfl | rfl
  · exact ⟨b, hb, h1⟩
  · exact ⟨b', hb', h2⟩
theorem PC.but {H h' : List SB} {c w1 w2 : Nat} {k : CK} {p : Nat → Prop} (P : PC H c w1 w2 k) (K : But H h' p) (hp : ¬ p c ∧ ¬ p w1 ∧ ¬ p w2) : PC h' c w1 w2 k :=
  P.mono (K.2 c (lt_of P.hc) hp.1) (K.2 w1 (lt_of P.h1) hp.2.1) (K.2 w2 (lt_of P.h2) hp.2.2)
theorem poll_spec {H : List SB} {n c w1 w2 : Nat} {k : CK} {s : NS} (P : PC H c w1 w2 k) (ok : k.ok) (hn : H[n]? = some (nicB s c)) (os : s.ok k) (N : Int) (hN : -9223372036854775808 ≤ N ∧ N < 9223372036854775808) :
    Spec cx.P 14 [.c (.ptr n 0), .c (i64 N)] H fun t h' => ∃ sc es, t = .c sc ∧ FrL h' H.length sc es ∧ es.map FE.f = (pollN N.toNat k s).2.2 ∧ PC h' c w1 w2 (pollN N.toNat k s).1 ∧ h'[n]? = some (nicB (pollN N.toNat k s).2.1 c) ∧ But H h' (XN5 c w1 w2 n) := by
  have ln := lt_of hn
  have n1 : n ≠ c := ty_ne hn P.hc (by show (80 : Nat) ≠ 73; decide)
  have n2 : n ≠ w1 := ty_ne hn P.h1 (by show (80 : Nat) ≠ 76; decide)
  have n3 : n ≠ w2 := ty_ne hn P.h2 (by show (80 : Nat) ≠ 76; decide)
  refine spec_of_X cx_ok Try.func14 rfl (by kernel_rfl) (by kernel_rfl) (Nat.le_of_ble_eq_true rfl) 400 11 ?_
  simp (maxSteps := 4000000) only [Try.results14, XX, Nat.reduceBEq, Nat.reduceLT, Nat.reduceAdd, Nat.reduceMul, Nat.reduceSub, Nat.reduceLeDiff, Nat.reduceEqDiff, Int.reduceToNat, Int.reduceLT, Int.reduceLE, Int.reduceAdd, Int.reduceSub, Int.reduceEq, reduceIte, Nat.reduceBNe, Int.reducePow, Nat.reducePow, Int.reduceMul, Int.reduceNeg, isB_i, isB_b, isB_y, isBv_i, isBv_b, eqCells_t, TT]
  simp (maxSteps := 4000000) only [Try.results14, hn, ln, XX, Nat.reduceBEq, Nat.reduceLT, Nat.reduceAdd, Nat.reduceMul, Nat.reduceSub, Nat.reduceLeDiff, Nat.reduceEqDiff, Int.reduceToNat, Int.reduceLT, Int.reduceLE, Int.reduceAdd, Int.reduceSub, Int.reduceEq, reduceIte, Nat.reduceBNe, Int.reducePow, Nat.reducePow, Int.reduceMul, Int.reduceNeg, isB_i, isB_b, isB_y, isBv_i, isBv_b, eqCells_t, TT]
  refine call_is P.rings ?_
  rintro _ M2 ⟨rfl, hM⟩
  rw [hM]
  clear hM M2
  simp (maxSteps := 4000000) only [Try.results14, XX, Nat.reduceBEq, Nat.reduceLT, Nat.reduceAdd, Nat.reduceMul, Nat.reduceSub, Nat.reduceLeDiff, Nat.reduceEqDiff, Int.reduceToNat, Int.reduceLT, Int.reduceLE, Int.reduceAdd, Int.reduceSub, Int.reduceEq, reduceIte, Nat.reduceBNe, Int.reducePow, Nat.reducePow, Int.reduceMul, Int.reduceNeg, isB_i, isB_b, isB_y, isBv_i, isBv_b, eqCells_t, TT]
  refine loop_any cx_ok 400 (fun μ σ => ∃ (b : Int) (F : List SB) (k1 : CK) (s1 : NS) (sc : SC) (es : List FE) (done : List FR), μ = b.toNat ∧ -9223372036854775808 ≤ b ∧ b < 9223372036854775808 ∧ PollI N.toNat k s b.toNat k1 s1 done ∧ es.map FE.f = done ∧ FrL F H.length sc es ∧ PC F c w1 w2 k1 ∧ k1.ok ∧ s1.ok k1 ∧ k1.rx.length = k.rx.length ∧ es.length + frN k1.rx ≤ 64 ∧ F[n]? = some (nicB s1 c) ∧ But H F (XN5 c w1 w2 n) ∧
      σ = ⟨⟨11, H.length⟩, [(0, .c (.ptr n 0)), (1, .c (i64 b)), (5, .c sc), (6, .c (i64 k.rx.length))], F⟩) N.toNat
    ⟨⟨11, H.length⟩, [(0, .c (.ptr n 0)), (1, .c (i64 N)), (5, .c noC), (6, .c (i64 k.rx.length))], H⟩ ⟨N, H, k, s, noC, [], [], rfl, hN.1, hN.2, PollI.start _ _ _, rfl, FrL.nil _ _, P, ok, os, rfl, by have := frN_le k.rx; have := ok.rx1; show 0 + frN k.rx ≤ 64; omega, hn, But.rfl' _ _, rfl⟩ (.inl ⟨rfl, rfl, rfl, rfl, rfl, rfl, trivial⟩) ?_
  rintro μ σ ⟨b, F, k1, s1, sc, es, done, rfl, hb1, hb2, hI, hdn, hF, PF, ok1, os1, hrx, hfr, hn1, bF, rfl⟩
  by_cases hpos : 0 < b
  · have d1 : decide (0 < b) = true := by simpa using hpos
    simp (maxSteps := 4000000) only [Try.results14, d1, XX, Nat.reduceBEq, Nat.reduceLT, Nat.reduceAdd, Nat.reduceMul, Nat.reduceSub, Nat.reduceLeDiff, Nat.reduceEqDiff, Int.reduceToNat, Int.reduceLT, Int.reduceLE, Int.reduceAdd, Int.reduceSub, Int.reduceEq, reduceIte, Nat.reduceBNe, Int.reducePow, Nat.reducePow, Int.reduceMul, Int.reduceNeg, isB_i, isB_b, isB_y, isBv_i, isBv_b, eqCells_t, TT]
    have lfn := lt_of hn1
    obtain ⟨ox, mx⟩ : ∃ o, (maskL [n] 0 F)[n]? = some ⟨o, 80, (nicB s1 c).cells⟩ := maskL_at hn1
    have hok := kept_cons hn1 rfl kept_nil
    have lx := lt_of mx
    have lM : (maskL [n] 0 F).length = F.length := maskL_len _ _ _
    have Pm := PF.mask (not1 n1) (not1 n2) (not1 n3)
    have lHF := bF.1
    have seE : seeE k1.rx s1.r = 0 := by unfold seeE; rw [if_pos ⟨by omega, by have := os1.r; omega⟩]
    refine draw_cut cx_ok 400 (fun τ => ∃ (F3 : List SB) (dd w : Nat) (o : Bool), But F F3 (fun _ => False) ∧ F.length ≤ dd ∧ F.length ≤ w ∧ F3[dd]? = some (deB (seeS k1.rx s1.r) (.sl w 0 (seeD k1.rx s1.r).length (seeD k1.rx s1.r).length)) ∧ F3[w]? = some (wB o (seeD k1.rx s1.r)) ∧ (0 < (seeD k1.rx s1.r).length → o = true) ∧
        τ = ⟨⟨11, H.length⟩, [(0, .c (.ptr n 0)), (1, .c (i64 b)), (5, .c sc), (6, .c (i64 k.rx.length)), (8, .c (.ptr dd 0)), (9, .c (i64 0))], F3⟩) ?_ ?_
    · refine draw2_of cx_ok (by kernel_rfl) 400 [n] (.pair [(0, true), (1, true), (2, true), (3, true), (4, true), (5, true), (6, true), (7, true)] 8 12 (.done [(9, true), (10, true), (11, true), (12, false), (13, false), (14, true)]) (.done [(8, false), (9, true), (10, true), (11, true), (13, false), (14, true)])) (by kernel_rfl) (by first | exact hok | simp [*]) ?_
      simp (maxSteps := 4000000) only [Try.results14, PXT_done, PXT_pair, hn1, mx, lx, lfn, XX, Nat.reduceBEq, Nat.reduceLT, Nat.reduceAdd, Nat.reduceMul, Nat.reduceSub, Nat.reduceLeDiff, Nat.reduceEqDiff, Int.reduceToNat, Int.reduceLT, Int.reduceLE, Int.reduceAdd, Int.reduceSub, Int.reduceEq, reduceIte, Nat.reduceBNe, Int.reducePow, Nat.reducePow, Int.reduceMul, Int.reduceNeg, isB_i, isB_b, isB_y, isBv_i, isBv_b, eqCells_t, TT]
      refine ⟨?_, ?_⟩
      · refine call_is (Pm.rx ok1 s1.r) ?_
        rintro _ h3 ⟨o, rfl, hh, ho⟩
        have l3 : h3.length = F.length + 1 := by rw [hh, List.length_append, lM]; rfl
        have gw : h3[F.length]? = some (wB o (seeD k1.rx s1.r)) := by rw [hh, ← lM]; exact append_at _
        have B3 : But (maskL [n] 0 F) h3 (fun _ => False) := by rw [hh]; exact (But.rfl' _ _).app _
        rw [seE, lM]
        simp (maxSteps := 4000000) only [Try.results14, PXT_done, append_at, append_set, append_len1, Nat.lt_add_one, XX, Nat.reduceBEq, Nat.reduceLT, Nat.reduceAdd, Nat.reduceMul, Nat.reduceSub, Nat.reduceLeDiff, Nat.reduceEqDiff, Int.reduceToNat, Int.reduceLT, Int.reduceLE, Int.reduceAdd, Int.reduceSub, Int.reduceEq, reduceIte, Nat.reduceBNe, Int.reducePow, Nat.reducePow, Int.reduceMul, Int.reduceNeg, isB_i, isB_b, isB_y, isBv_i, isBv_b, eqCells_t, TT]
        refine ⟨_, ⟨_, h3.length, F.length, o, unL_but (B3.app _) fun _ h => h.elim, by omega, Nat.le_refl _, by rw [unL_ge (by omega)]; exact append_at _, by rw [unL_ge (Nat.le_refl _), List.getElem?_append_left (by omega)]; exact gw, ho, rfl⟩, .inl ⟨rfl, rfl, rfl, rfl, rfl, rfl, rfl, rfl, trivial⟩⟩
      · refine call_is ((Pm.app _).rx ok1 s1.r) ?_
        rintro _ h3 ⟨o, rfl, hh, ho⟩
        have l3 : h3.length = F.length + 2 := by rw [hh, List.length_append, List.length_append, lM]; rfl
        have gw : h3[F.length + 1]? = some (wB o (seeD k1.rx s1.r)) := by rw [hh, ← lM, ← append_len1]; exact append_at _
        have hd : h3[F.length]? = some (deB false noC) := by rw [hh, ← lM, List.getElem?_append_left (by rw [append_len1]; omega)]; exact append_at _
        have B3 : But (maskL [n] 0 F) h3 (fun _ => False) := by rw [hh]; exact ((But.rfl' _ _).app _).app _
        have lh := lt_of hd
        rw [seE, append_len1, lM]
        simp (maxSteps := 4000000) only [Try.results14, PXT_done, hd, lh, XX, Nat.reduceBEq, Nat.reduceLT, Nat.reduceAdd, Nat.reduceMul, Nat.reduceSub, Nat.reduceLeDiff, Nat.reduceEqDiff, Int.reduceToNat, Int.reduceLT, Int.reduceLE, Int.reduceAdd, Int.reduceSub, Int.reduceEq, reduceIte, Nat.reduceBNe, Int.reducePow, Nat.reducePow, Int.reduceMul, Int.reduceNeg, isB_i, isB_b, isB_y, isBv_i, isBv_b, eqCells_t, TT]
        refine ⟨_, ⟨_, F.length, F.length + 1, o, unL_but (B3.setN (by rw [lM]; exact Nat.le_refl _) _) fun _ h => h.elim, Nat.le_refl _, by omega, by rw [unL_ge (Nat.le_refl _), List.getElem?_set_self (by omega)], by rw [unL_ge (by omega), List.getElem?_set_ne (by omega)]; exact gw, ho, rfl⟩, .inl ⟨rfl, rfl, rfl, rfl, rfl, rfl, rfl, rfl, trivial⟩⟩
    clear hok mx lx lM Pm
    rintro τ ⟨F3, dd, w, o, B3, ld, lw, hd, hw, ho, rfl⟩
    have hn3 := (B3.2 n lfn (fun h => h)).trans hn1
    have P3 := PF.but B3 ⟨fun h => h, fun h => h, fun h => h⟩
    have F3l := hF.keep (KT.ofBut (p := tyF) B3 fun _ _ _ h => h.elim)
    have B03 : But H F3 (XN5 c w1 w2 n) := bF.trans (B3.wk' fun _ h => h.elim)
    have l3 := lt_of hd
    have l4 := lt_of hn3
    have l5 := lt_of hw
    have lF3 := B3.1
    clear PF hF bF
    by_cases hcard : seeS k1.rx s1.r = true
    · have hst := hI.stop (.inr hcard)
      rw [hcard] at hd
      simp (maxSteps := 4000000) only [Try.results14, hd, l3, XX, Nat.reduceBEq, Nat.reduceLT, Nat.reduceAdd, Nat.reduceMul, Nat.reduceSub, Nat.reduceLeDiff, Nat.reduceEqDiff, Int.reduceToNat, Int.reduceLT, Int.reduceLE, Int.reduceAdd, Int.reduceSub, Int.reduceEq, reduceIte, Nat.reduceBNe, Int.reducePow, Nat.reducePow, Int.reduceMul, Int.reduceNeg, isB_i, isB_b, isB_y, isBv_i, isBv_b, eqCells_t, TT]
      rw [hst]
      exact ⟨_, es, rfl, F3l, hdn, P3, hn3, B03⟩
    · have hcf : seeS k1.rx s1.r = false := by simpa using hcard
      rw [hcf] at hd
      have hI2 : PollI N.toNat k s (b.toNat - 1) (givK k1 s1.r) (pollS k1 s1) (done ++ pollO k1 s1) := PollI.next (by rw [show b.toNat - 1 + 1 = b.toNat by omega]; exact hI) hcf
      have op := fopenA_spec (seeD k1.rx s1.r) [] (seeD k1.rx s1.r).length (Nat.le_refl _)
      simp (maxSteps := 4000000) only [Try.results14, hd, l3, XX, Nat.reduceBEq, Nat.reduceLT, Nat.reduceAdd, Nat.reduceMul, Nat.reduceSub, Nat.reduceLeDiff, Nat.reduceEqDiff, Int.reduceToNat, Int.reduceLT, Int.reduceLE, Int.reduceAdd, Int.reduceSub, Int.reduceEq, reduceIte, Nat.reduceBNe, Int.reducePow, Nat.reducePow, Int.reduceMul, Int.reduceNeg, isB_i, isB_b, isB_y, isBv_i, isBv_b, eqCells_t, TT]
      refine call_fz [.c (roB (seeD k1.rx s1.r) [] (seeD k1.rx s1.r).length)] op (fun t h' h => resF_noRo h) ⟨fz_c (fz_any (by rw [List.append_nil]; exact hw) ho), trivial⟩ ?_
      rintro _ _ ⟨z, o2, rfl, rfl, ho2⟩
      obtain ⟨q, hq⟩ : ∃ q, q = openR (seeD k1.rx s1.r) := ⟨_, rfl⟩
      have hmq : minQ k1 s1 = (decide (q.e = 0) && mineB s1.mac q.d q.s) := by rw [hq]; rfl
      have hpo : pollO k1 s1 = if minQ k1 s1 then [q] else [] := by rw [hq]; rfl
      rw [← hq] at ho2 ⊢
      clear hq op
      simp (maxSteps := 4000000) only [Try.results14, set_two, ids_bsC, ren_bsC, noRo_bsC, plain_bsC, lt_bsC, ids_byte, ren_byte, noRo_byte, plain_byte, lt_byte, List.append_assoc, List.getElem?_append_left, List.getElem?_append_right, List.length_append, List.length_set, List.set_append_left, gset, List.getElem?_set_ne, Nat.add_sub_cancel_left, Nat.sub_self, Nat.le_refl, Nat.le_add_right, List.replicate_one, List.flatten_cons, List.flatten_nil, rep_flat, XX, Nat.reduceBEq, Nat.reduceLT, Nat.reduceAdd, Nat.reduceMul, Nat.reduceSub, Nat.reduceLeDiff, Nat.reduceEqDiff, Int.reduceToNat, Int.reduceLT, Int.reduceLE, Int.reduceAdd, Int.reduceSub, Int.reduceEq, reduceIte, Nat.reduceBNe, Int.reducePow, Nat.reducePow, Int.reduceMul, Int.reduceNeg, isB_i, isB_b, isB_y, isBv_i, isBv_b, eqCells_t, TT]
      obtain ⟨wq, hwq⟩ : ∃ wq, wq = F3.length := ⟨_, rfl⟩
      rw [← hwq]
      refine gen_draw (fun F4 => F4[n]? = some (nicB s1 c) ∧ PC F4 c w1 w2 k1 ∧ FrL F4 H.length sc es ∧ But H F4 (XN5 c w1 w2 n) ∧ F4[wq]? = some (wB o2 (q.l ++ z)) ∧ F4[wq + 1]? = some ⟨true, 40, fraC q.d q.s q.k (slB wq q.l z)⟩ ∧ ∀ e ∈ es, e.w < wq) ⟨(List.getElem?_append_left l4).trans hn3, P3.app _, F3l.keep fun i b hi _ => (List.getElem?_append_left (lt_of hi)).trans hi, B03.app _, by rw [hwq, List.getElem?_append_right (Nat.le_refl _), Nat.sub_self]; rfl, by rw [hwq]; exact app_two, fun e he => by rw [hwq]; exact F3l.lt he⟩ ?_
      have lHw : H.length ≤ wq := by omega
      clear hd hw ho hn3 P3 F3l B03 l3 l4 l5 lF3 B3 hwq ld lw
      rintro F4 ⟨hn4, P4, FL, B4, hq4, hb4, hew⟩
      have l4 := lt_of hn4
      have l5 := lt_of hb4
      have nb : n ≠ wq + 1 := ty_ne hn4 hb4 (by show (80 : Nat) ≠ 40; decide)
      obtain ⟨ox, mx⟩ : ∃ o, (maskL [n, wq + 1] 0 F4)[n]? = some ⟨o, 80, (nicB s1 c).cells⟩ := maskL_at hn4
      obtain ⟨oy, my⟩ : ∃ o, (maskL [n, wq + 1] 0 F4)[wq + 1]? = some ⟨o, 40, fraC q.d q.s q.k (slB wq q.l z)⟩ := maskL_at hb4
      have hok := kept_cons hn4 rfl (kept_cons hb4 rfl kept_nil)
      have lx := lt_of mx
      have ly := lt_of my
      have mi := fmine_spec s1.mac q.d q.s q.k (roB q.l z (q.l.length + z.length))
      have nq : n ≠ wq := ty_ne hn4 hq4 nic_ty
      have hqm : (maskL [n, wq + 1] 0 F4)[wq]? = some (wB o2 (q.l ++ z)) := (mask_off (not2 nq (by omega))).trans hq4
      by_cases he : q.e = 0
      · have de : decide (q.e = 0) = true := by simpa using he
        refine draw_of cx_ok (by kernel_rfl) 400 [n, wq + 1] [(0, true), (1, true), (2, true), (3, true), (4, true), (5, true), (6, true), (7, true), (8, false), (9, true)] (by kernel_rfl) (by first | exact hok | simp [*]) ?_
        simp (maxSteps := 4000000) only [Try.results14, hn4, hb4, mx, my, lx, ly, l4, l5, de, XX, Nat.reduceBEq, Nat.reduceLT, Nat.reduceAdd, Nat.reduceMul, Nat.reduceSub, Nat.reduceLeDiff, Nat.reduceEqDiff, Int.reduceToNat, Int.reduceLT, Int.reduceLE, Int.reduceAdd, Int.reduceSub, Int.reduceEq, reduceIte, Nat.reduceBNe, Int.reducePow, Nat.reducePow, Int.reduceMul, Int.reduceNeg, isB_i, isB_b, isB_y, isBv_i, isBv_b, eqCells_t, TT]
        refine call_pureF [.agg (bsC s1.mac.l), .agg (fraC q.d q.s q.k (roB q.l z (q.l.length + z.length)))] mi ⟨.inl ⟨rfl, rfl⟩, fra_fz (fz_any hqm ho2), trivial⟩ ?_
        rintro _ rfl
        by_cases hm : mineB s1.mac q.d q.s = true
        · rw [hm] at hmq ⊢
          rw [de] at hmq
          replace hmq : minQ k1 s1 = true := hmq
          rw [hmq, if_pos rfl] at hpo
          simp (maxSteps := 4000000) only [Try.results14, unL_maskL, hn4, hb4, l4, l5, XX, Nat.reduceBEq, Nat.reduceLT, Nat.reduceAdd, Nat.reduceMul, Nat.reduceSub, Nat.reduceLeDiff, Nat.reduceEqDiff, Int.reduceToNat, Int.reduceLT, Int.reduceLE, Int.reduceAdd, Int.reduceSub, Int.reduceEq, reduceIte, Nat.reduceBNe, Int.reducePow, Nat.reducePow, Int.reduceMul, Int.reduceNeg, isB_i, isB_b, isB_y, isBv_i, isBv_b, eqCells_t, TT]
          rcases FL.row with ⟨rfl, rfl⟩ | ⟨iF, oF, rF, rfl, hiF, RF⟩
          · simp (maxSteps := 4000000) only [Try.results14, List.append_assoc, List.getElem?_append_left, List.getElem?_append_right, List.length_append, List.length_set, List.set_append_left, gset, List.getElem?_set_ne, Nat.add_sub_cancel_left, Nat.sub_self, Nat.le_refl, Nat.le_add_right, List.replicate_one, List.flatten_cons, List.flatten_nil, rep_flat, XX, Nat.reduceBEq, Nat.reduceLT, Nat.reduceAdd, Nat.reduceMul, Nat.reduceSub, Nat.reduceLeDiff, Nat.reduceEqDiff, Int.reduceToNat, Int.reduceLT, Int.reduceLE, Int.reduceAdd, Int.reduceSub, Int.reduceEq, reduceIte, Nat.reduceBNe, Int.reducePow, Nat.reducePow, Int.reduceMul, Int.reduceNeg, isB_i, isB_b, isB_y, isBv_i, isBv_b, eqCells_t, TT]
            refine ⟨by decide, ?_⟩
            refine FrL.first (e := ⟨q, wq, z, o2⟩) rfl B4.1 hq4 ho2 lHw ?_
            intro F5 sc2 FL2 B45
            have hn5 := (B45.2 n l4 (fun h => h)).trans hn4
            have P5 := P4.but B45 ⟨fun h => h, fun h => h, fun h => h⟩
            have B5 : But H F5 (XN5 c w1 w2 n) := B4.trans (B45.wk' fun _ h => h.elim)
            have l6 := lt_of hn5
            obtain ⟨es2, hes2⟩ : ∃ es2 : List FE, es2 = [⟨q, wq, z, o2⟩] := ⟨_, rfl⟩
            have hdn2 : es2.map FE.f = done ++ pollO k1 s1 := by rw [hes2, hpo, ← hdn]; rfl
            have hfr2 : es2.length ≤ ([] : List FE).length + 1 := by rw [hes2]; simp
            rw [← hes2] at FL2
            simp (maxSteps := 4000000) only [Try.results14, hn5, l6, XX, Nat.reduceBEq, Nat.reduceLT, Nat.reduceAdd, Nat.reduceMul, Nat.reduceSub, Nat.reduceLeDiff, Nat.reduceEqDiff, Int.reduceToNat, Int.reduceLT, Int.reduceLE, Int.reduceAdd, Int.reduceSub, Int.reduceEq, reduceIte, Nat.reduceBNe, Int.reducePow, Nat.reducePow, Int.reduceMul, Int.reduceNeg, isB_i, isB_b, isB_y, isBv_i, isBv_b, eqCells_t, TT]
            obtain ⟨s2, hs2⟩ : ∃ s2 : NS, s2 = { s1 with tk := incW s1.tk } := ⟨_, rfl⟩
            have hps : pollS k1 s1 = { s2 with r := (s1.r + 1) % k1.rx.length } := by rw [hs2]; unfold pollS; rw [hmq]; rfl
            have tS : ¬ tyF (nicB s1 c).ty := fun h => h.elim nic_tys.1 nic_tys.2.2
            refine gen_draw (fun F6 => F6[n]? = some (nicB s2 c) ∧ PC F6 c w1 w2 k1 ∧ FrL F6 H.length sc2 es2 ∧ But H F6 (XN5 c w1 w2 n)) ⟨by rw [hs2]; exact List.getElem?_set_self l6, P5.setn n1 n2 n3, FL2.keep (KT.set hn5 tS), B5.set (.inr (.inr (.inr rfl))) _⟩ ?_
            have r2 : s2.r = s1.r := by rw [hs2]
            clear hs2 hn5 P5 FL2 B5 l6 FL hn4 P4 B4 hq4 hb4 mx my hok lx ly mi hqm
            rintro F6 ⟨hn6, P6, FL6, B6⟩
            have l6 := lt_of hn6
            obtain ⟨ox, mx⟩ : ∃ o, (maskL [n] 0 F6)[n]? = some ⟨o, 80, (nicB s2 c).cells⟩ := maskL_at hn6
            have hok := kept_cons hn6 rfl kept_nil
            have lx := lt_of mx
            refine draw_of cx_ok (by kernel_rfl) 400 [n] [(0, true), (1, true), (2, true), (3, true), (4, true), (5, true), (6, true), (7, true), (8, false)] (by kernel_rfl) (by first | exact hok | simp [*]) ?_
            simp (maxSteps := 4000000) only [Try.results14, hn6, mx, l6, lx, XX, Nat.reduceBEq, Nat.reduceLT, Nat.reduceAdd, Nat.reduceMul, Nat.reduceSub, Nat.reduceLeDiff, Nat.reduceEqDiff, Int.reduceToNat, Int.reduceLT, Int.reduceLE, Int.reduceAdd, Int.reduceSub, Int.reduceEq, reduceIte, Nat.reduceBNe, Int.reducePow, Nat.reducePow, Int.reduceMul, Int.reduceNeg, isB_i, isB_b, isB_y, isBv_i, isBv_b, eqCells_t, TT]
            rw [r2]
            refine call_is ((P6.mask (not1 n1) (not1 n2) (not1 n3)).give ok1 s1.r) ?_
            rintro _ _ ⟨rfl, rfl⟩
            simp (maxSteps := 4000000) only [Try.results14, unL_setC0 (not1 n1) (not1 n2) (not1 n3), XX, Nat.reduceBEq, Nat.reduceLT, Nat.reduceAdd, Nat.reduceMul, Nat.reduceSub, Nat.reduceLeDiff, Nat.reduceEqDiff, Int.reduceToNat, Int.reduceLT, Int.reduceLE, Int.reduceAdd, Int.reduceSub, Int.reduceEq, reduceIte, Nat.reduceBNe, Int.reducePow, Nat.reducePow, Int.reduceMul, Int.reduceNeg, isB_i, isB_b, isB_y, isBv_i, isBv_b, eqCells_t, TT]
            have Pg := P6.set (givK k1 s1.r)
            have hg : (setC F6 c w1 w2 (givK k1 s1.r))[n]? = some (nicB s2 c) := by rw [setC_off n1 n2 n3]; exact hn6
            have FLg := FL6.keep (KT.setC (p := tyF) (k' := givK k1 s1.r) P6 (by decide) (by decide))
            have Bg : But H (setC F6 c w1 w2 (givK k1 s1.r)) (XN5 c w1 w2 n) := B6.trans (setC_but _ _ _ _ _ (.inl rfl) (.inr (.inl rfl)) (.inr (.inr (.inl rfl))))
            generalize setC F6 c w1 w2 (givK k1 s1.r) = F7 at *
            have l7 := lt_of hg
            have nx := next_spec s1.r k.rx.length (by rw [← hrx]; exact os1.r) ok.rx1
            simp (maxSteps := 4000000) only [Try.results14, hg, l7, XX, Nat.reduceBEq, Nat.reduceLT, Nat.reduceAdd, Nat.reduceMul, Nat.reduceSub, Nat.reduceLeDiff, Nat.reduceEqDiff, Int.reduceToNat, Int.reduceLT, Int.reduceLE, Int.reduceAdd, Int.reduceSub, Int.reduceEq, reduceIte, Nat.reduceBNe, Int.reducePow, Nat.reducePow, Int.reduceMul, Int.reduceNeg, isB_i, isB_b, isB_y, isBv_i, isBv_b, eqCells_t, TT]
            rw [r2]
            refine call_pureF [.c (i64 s1.r), .c (i64 k.rx.length)] nx ⟨.inl ⟨rfl, rfl⟩, .inl ⟨rfl, rfl⟩, trivial⟩ ?_
            rintro _ rfl
            have eb : IntKind.i64.wrap (b - 1) = b - 1 := by rw [w64] <;> omega
            simp (maxSteps := 4000000) only [Try.results14, hg, l7, eb, XX, Nat.reduceBEq, Nat.reduceLT, Nat.reduceAdd, Nat.reduceMul, Nat.reduceSub, Nat.reduceLeDiff, Nat.reduceEqDiff, Int.reduceToNat, Int.reduceLT, Int.reduceLE, Int.reduceAdd, Int.reduceSub, Int.reduceEq, reduceIte, Nat.reduceBNe, Int.reducePow, Nat.reducePow, Int.reduceMul, Int.reduceNeg, isB_i, isB_b, isB_y, isBv_i, isBv_b, eqCells_t, TT]
            have hgv := frN_give os1.r hcf
            obtain ⟨q1, q2⟩ := givK_len k1 s1.r
            have tS2 : ¬ tyF (nicB s2 c).ty := fun h => h.elim nic_tys.1 nic_tys.2.2
            refine ⟨(b - 1).toNat, by omega, _, ⟨b - 1, _, givK k1 s1.r, pollS k1 s1, sc2, es2, done ++ pollO k1 s1, rfl, by omega, by omega, by rw [show (b - 1).toNat = b.toNat - 1 by omega]; exact hI2, hdn2, FLg.keep (KT.set hg tS2), Pg.setn n1 n2 n3, givK_ok k1 ok1 _, pollS_ok ok1 os1, by rw [q1]; exact hrx, by omega, ?_, Bg.set (.inr (.inr (.inr rfl))) _, rfl⟩, .inl ⟨rfl, rfl, rfl, rfl, rfl, rfl, trivial⟩⟩
            rw [List.getElem?_set_self l7, hps, hrx]
          · have hRF := RF.row
            have lRF := lt_of hRF
            simp (maxSteps := 4000000) only [Try.results14, hb4, l5, hRF, lRF, List.append_assoc, List.getElem?_append_left, List.getElem?_append_right, List.length_append, List.length_set, List.set_append_left, gset, List.getElem?_set_ne, Nat.add_sub_cancel_left, Nat.sub_self, Nat.le_refl, Nat.le_add_right, List.replicate_one, List.flatten_cons, List.flatten_nil, rep_flat, XX, Nat.reduceBEq, Nat.reduceLT, Nat.reduceAdd, Nat.reduceMul, Nat.reduceSub, Nat.reduceLeDiff, Nat.reduceEqDiff, Int.reduceToNat, Int.reduceLT, Int.reduceLE, Int.reduceAdd, Int.reduceSub, Int.reduceEq, reduceIte, Nat.reduceBNe, Int.reducePow, Nat.reducePow, Int.reduceMul, Int.reduceNeg, isB_i, isB_b, isB_y, isBv_i, isBv_b, eqCells_t, TT]
            have fl := flatG_len (fe_len (es := es))
            have rl := repG_len (z := zeroFr) (sz := 14) rfl rF
            rw [List.length_map] at fl
            refine ⟨⟨by omega, by unfold maxLen; omega, by rw [fl, rl]; omega, fun hh => ⟨RF.own (by rw [List.length_map]; omega), by rw [fl, rl]; omega⟩⟩, ?_⟩
            refine FrL.push (e := ⟨q, wq, z, o2⟩) FL RF hiF rfl rfl B4.1 hq4 ho2 lHw (fun a ha => by have := hew a ha; show a.w ≠ wq; omega) ?_
            intro F5 sc2 FL2 B45
            have tf : (nicB s1 c).ty ≠ 40 := nic_tys.1
            have hn5 := (B45.2 n l4 (ty_ne hn4 hRF tf)).trans hn4
            have P5 := P4.but B45 ⟨ty_ne P4.hc hRF (by show (73 : Nat) ≠ 40; decide), ty_ne P4.h1 hRF (by show (76 : Nat) ≠ 40; decide), ty_ne P4.h2 hRF (by show (76 : Nat) ≠ 40; decide)⟩
            have B5 : But H F5 (XN5 c w1 w2 n) := ⟨Nat.le_trans B4.1 B45.1, fun i hi hx => (B45.2 i (by have := B4.1; omega) (by omega)).trans (B4.2 i hi hx)⟩
            have l6 := lt_of hn5
            obtain ⟨es2, hes2⟩ : ∃ es2 : List FE, es2 = es ++ [⟨q, wq, z, o2⟩] := ⟨_, rfl⟩
            have hdn2 : es2.map FE.f = done ++ pollO k1 s1 := by rw [hes2, hpo, List.map_append, hdn]; rfl
            have hfr2 : es2.length ≤ es.length + 1 := by rw [hes2]; simp
            rw [← hes2] at FL2
            simp (maxSteps := 4000000) only [Try.results14, hn5, l6, XX, Nat.reduceBEq, Nat.reduceLT, Nat.reduceAdd, Nat.reduceMul, Nat.reduceSub, Nat.reduceLeDiff, Nat.reduceEqDiff, Int.reduceToNat, Int.reduceLT, Int.reduceLE, Int.reduceAdd, Int.reduceSub, Int.reduceEq, reduceIte, Nat.reduceBNe, Int.reducePow, Nat.reducePow, Int.reduceMul, Int.reduceNeg, isB_i, isB_b, isB_y, isBv_i, isBv_b, eqCells_t, TT]
            obtain ⟨s2, hs2⟩ : ∃ s2 : NS, s2 = { s1 with tk := incW s1.tk } := ⟨_, rfl⟩
            have hps : pollS k1 s1 = { s2 with r := (s1.r + 1) % k1.rx.length } := by rw [hs2]; unfold pollS; rw [hmq]; rfl
            have tS : ¬ tyF (nicB s1 c).ty := fun h => h.elim nic_tys.1 nic_tys.2.2
            refine gen_draw (fun F6 => F6[n]? = some (nicB s2 c) ∧ PC F6 c w1 w2 k1 ∧ FrL F6 H.length sc2 es2 ∧ But H F6 (XN5 c w1 w2 n)) ⟨by rw [hs2]; exact List.getElem?_set_self l6, P5.setn n1 n2 n3, FL2.keep (KT.set hn5 tS), B5.set (.inr (.inr (.inr rfl))) _⟩ ?_
            have r2 : s2.r = s1.r := by rw [hs2]
            clear hs2 hn5 P5 FL2 B5 l6 FL hn4 P4 B4 hq4 hb4 mx my hok lx ly mi hqm
            rintro F6 ⟨hn6, P6, FL6, B6⟩
            have l6 := lt_of hn6
            obtain ⟨ox, mx⟩ : ∃ o, (maskL [n] 0 F6)[n]? = some ⟨o, 80, (nicB s2 c).cells⟩ := maskL_at hn6
            have hok := kept_cons hn6 rfl kept_nil
            have lx := lt_of mx
            refine draw_of cx_ok (by kernel_rfl) 400 [n] [(0, true), (1, true), (2, true), (3, true), (4, true), (5, true), (6, true), (7, true), (8, false)] (by kernel_rfl) (by first | exact hok | simp [*]) ?_
            simp (maxSteps := 4000000) only [Try.results14, hn6, mx, l6, lx, XX, Nat.reduceBEq, Nat.reduceLT, Nat.reduceAdd, Nat.reduceMul, Nat.reduceSub, Nat.reduceLeDiff, Nat.reduceEqDiff, Int.reduceToNat, Int.reduceLT, Int.reduceLE, Int.reduceAdd, Int.reduceSub, Int.reduceEq, reduceIte, Nat.reduceBNe, Int.reducePow, Nat.reducePow, Int.reduceMul, Int.reduceNeg, isB_i, isB_b, isB_y, isBv_i, isBv_b, eqCells_t, TT]
            rw [r2]
            refine call_is ((P6.mask (not1 n1) (not1 n2) (not1 n3)).give ok1 s1.r) ?_
            rintro _ _ ⟨rfl, rfl⟩
            simp (maxSteps := 4000000) only [Try.results14, unL_setC0 (not1 n1) (not1 n2) (not1 n3), XX, Nat.reduceBEq, Nat.reduceLT, Nat.reduceAdd, Nat.reduceMul, Nat.reduceSub, Nat.reduceLeDiff, Nat.reduceEqDiff, Int.reduceToNat, Int.reduceLT, Int.reduceLE, Int.reduceAdd, Int.reduceSub, Int.reduceEq, reduceIte, Nat.reduceBNe, Int.reducePow, Nat.reducePow, Int.reduceMul, Int.reduceNeg, isB_i, isB_b, isB_y, isBv_i, isBv_b, eqCells_t, TT]
            have Pg := P6.set (givK k1 s1.r)
            have hg : (setC F6 c w1 w2 (givK k1 s1.r))[n]? = some (nicB s2 c) := by rw [setC_off n1 n2 n3]; exact hn6
            have FLg := FL6.keep (KT.setC (p := tyF) (k' := givK k1 s1.r) P6 (by decide) (by decide))
            have Bg : But H (setC F6 c w1 w2 (givK k1 s1.r)) (XN5 c w1 w2 n) := B6.trans (setC_but _ _ _ _ _ (.inl rfl) (.inr (.inl rfl)) (.inr (.inr (.inl rfl))))
            generalize setC F6 c w1 w2 (givK k1 s1.r) = F7 at *
            have l7 := lt_of hg
            have nx := next_spec s1.r k.rx.length (by rw [← hrx]; exact os1.r) ok.rx1
            simp (maxSteps := 4000000) only [Try.results14, hg, l7, XX, Nat.reduceBEq, Nat.reduceLT, Nat.reduceAdd, Nat.reduceMul, Nat.reduceSub, Nat.reduceLeDiff, Nat.reduceEqDiff, Int.reduceToNat, Int.reduceLT, Int.reduceLE, Int.reduceAdd, Int.reduceSub, Int.reduceEq, reduceIte, Nat.reduceBNe, Int.reducePow, Nat.reducePow, Int.reduceMul, Int.reduceNeg, isB_i, isB_b, isB_y, isBv_i, isBv_b, eqCells_t, TT]
            rw [r2]
            refine call_pureF [.c (i64 s1.r), .c (i64 k.rx.length)] nx ⟨.inl ⟨rfl, rfl⟩, .inl ⟨rfl, rfl⟩, trivial⟩ ?_
            rintro _ rfl
            have eb : IntKind.i64.wrap (b - 1) = b - 1 := by rw [w64] <;> omega
            simp (maxSteps := 4000000) only [Try.results14, hg, l7, eb, XX, Nat.reduceBEq, Nat.reduceLT, Nat.reduceAdd, Nat.reduceMul, Nat.reduceSub, Nat.reduceLeDiff, Nat.reduceEqDiff, Int.reduceToNat, Int.reduceLT, Int.reduceLE, Int.reduceAdd, Int.reduceSub, Int.reduceEq, reduceIte, Nat.reduceBNe, Int.reducePow, Nat.reducePow, Int.reduceMul, Int.reduceNeg, isB_i, isB_b, isB_y, isBv_i, isBv_b, eqCells_t, TT]
            have hgv := frN_give os1.r hcf
            obtain ⟨q1, q2⟩ := givK_len k1 s1.r
            have tS2 : ¬ tyF (nicB s2 c).ty := fun h => h.elim nic_tys.1 nic_tys.2.2
            refine ⟨(b - 1).toNat, by omega, _, ⟨b - 1, _, givK k1 s1.r, pollS k1 s1, sc2, es2, done ++ pollO k1 s1, rfl, by omega, by omega, by rw [show (b - 1).toNat = b.toNat - 1 by omega]; exact hI2, hdn2, FLg.keep (KT.set hg tS2), Pg.setn n1 n2 n3, givK_ok k1 ok1 _, pollS_ok ok1 os1, by rw [q1]; exact hrx, by omega, ?_, Bg.set (.inr (.inr (.inr rfl))) _, rfl⟩, .inl ⟨rfl, rfl, rfl, rfl, rfl, rfl, trivial⟩⟩
            rw [List.getElem?_set_self l7, hps, hrx]
        · have hmf : mineB s1.mac q.d q.s = false := by simpa using hm
          rw [hmf] at hmq ⊢
          rw [de] at hmq
          simp (maxSteps := 4000000) only [Try.results14, unL_maskL, hn4, l4, XX, Nat.reduceBEq, Nat.reduceLT, Nat.reduceAdd, Nat.reduceMul, Nat.reduceSub, Nat.reduceLeDiff, Nat.reduceEqDiff, Int.reduceToNat, Int.reduceLT, Int.reduceLE, Int.reduceAdd, Int.reduceSub, Int.reduceEq, reduceIte, Nat.reduceBNe, Int.reducePow, Nat.reducePow, Int.reduceMul, Int.reduceNeg, isB_i, isB_b, isB_y, isBv_i, isBv_b, eqCells_t, TT]
          replace hmq : minQ k1 s1 = false := hmq
          obtain ⟨s2, hs2⟩ : ∃ s2 : NS, s2 = { s1 with th := incW s1.th } := ⟨_, rfl⟩
          have hps : pollS k1 s1 = { s2 with r := (s1.r + 1) % k1.rx.length } := by rw [hs2]; unfold pollS; rw [hmq]; rfl
          have hn5 := hn4
          have P5 := P4
          have B5 := B4
          have l6 := l4
          have FL2 := FL
          have hdn2 : es.map FE.f = done ++ pollO k1 s1 := by rw [hdn, hpo, hmq, if_neg (by decide), List.append_nil]
          obtain ⟨es2, hes2⟩ : ∃ es2, es2 = es := ⟨_, rfl⟩
          obtain ⟨sc2, hsc2⟩ : ∃ sc2, sc2 = sc := ⟨_, rfl⟩
          rw [← hes2, ← hsc2] at FL2
          rw [← hes2] at hdn2
          rw [← hsc2]
          have hfr2 : es2.length ≤ es.length + 1 := by rw [hes2]; omega
          have tS : ¬ tyF (nicB s1 c).ty := fun h => h.elim nic_tys.1 nic_tys.2.2
          refine gen_draw (fun F6 => F6[n]? = some (nicB s2 c) ∧ PC F6 c w1 w2 k1 ∧ FrL F6 H.length sc2 es2 ∧ But H F6 (XN5 c w1 w2 n)) ⟨by rw [hs2]; exact List.getElem?_set_self l6, P5.setn n1 n2 n3, FL2.keep (KT.set hn5 tS), B5.set (.inr (.inr (.inr rfl))) _⟩ ?_
          have r2 : s2.r = s1.r := by rw [hs2]
          clear hs2 hn5 P5 FL2 B5 l6 FL hn4 P4 B4 hq4 hb4 mx my hok lx ly mi hqm
          rintro F6 ⟨hn6, P6, FL6, B6⟩
          have l6 := lt_of hn6
          obtain ⟨ox, mx⟩ : ∃ o, (maskL [n] 0 F6)[n]? = some ⟨o, 80, (nicB s2 c).cells⟩ := maskL_at hn6
          have hok := kept_cons hn6 rfl kept_nil
          have lx := lt_of mx
          refine draw_of cx_ok (by kernel_rfl) 400 [n] [(0, true), (1, true), (2, true), (3, true), (4, true), (5, true), (6, true), (7, true), (8, false)] (by kernel_rfl) (by first | exact hok | simp [*]) ?_
          simp (maxSteps := 4000000) only [Try.results14, hn6, mx, l6, lx, XX, Nat.reduceBEq, Nat.reduceLT, Nat.reduceAdd, Nat.reduceMul, Nat.reduceSub, Nat.reduceLeDiff, Nat.reduceEqDiff, Int.reduceToNat, Int.reduceLT, Int.reduceLE, Int.reduceAdd, Int.reduceSub, Int.reduceEq, reduceIte, Nat.reduceBNe, Int.reducePow, Nat.reducePow, Int.reduceMul, Int.reduceNeg, isB_i, isB_b, isB_y, isBv_i, isBv_b, eqCells_t, TT]
          rw [r2]
          refine call_is ((P6.mask (not1 n1) (not1 n2) (not1 n3)).give ok1 s1.r) ?_
          rintro _ _ ⟨rfl, rfl⟩
          simp (maxSteps := 4000000) only [Try.results14, unL_setC0 (not1 n1) (not1 n2) (not1 n3), XX, Nat.reduceBEq, Nat.reduceLT, Nat.reduceAdd, Nat.reduceMul, Nat.reduceSub, Nat.reduceLeDiff, Nat.reduceEqDiff, Int.reduceToNat, Int.reduceLT, Int.reduceLE, Int.reduceAdd, Int.reduceSub, Int.reduceEq, reduceIte, Nat.reduceBNe, Int.reducePow, Nat.reducePow, Int.reduceMul, Int.reduceNeg, isB_i, isB_b, isB_y, isBv_i, isBv_b, eqCells_t, TT]
          have Pg := P6.set (givK k1 s1.r)
          have hg : (setC F6 c w1 w2 (givK k1 s1.r))[n]? = some (nicB s2 c) := by rw [setC_off n1 n2 n3]; exact hn6
          have FLg := FL6.keep (KT.setC (p := tyF) (k' := givK k1 s1.r) P6 (by decide) (by decide))
          have Bg : But H (setC F6 c w1 w2 (givK k1 s1.r)) (XN5 c w1 w2 n) := B6.trans (setC_but _ _ _ _ _ (.inl rfl) (.inr (.inl rfl)) (.inr (.inr (.inl rfl))))
          generalize setC F6 c w1 w2 (givK k1 s1.r) = F7 at *
          have l7 := lt_of hg
          have nx := next_spec s1.r k.rx.length (by rw [← hrx]; exact os1.r) ok.rx1
          simp (maxSteps := 4000000) only [Try.results14, hg, l7, XX, Nat.reduceBEq, Nat.reduceLT, Nat.reduceAdd, Nat.reduceMul, Nat.reduceSub, Nat.reduceLeDiff, Nat.reduceEqDiff, Int.reduceToNat, Int.reduceLT, Int.reduceLE, Int.reduceAdd, Int.reduceSub, Int.reduceEq, reduceIte, Nat.reduceBNe, Int.reducePow, Nat.reducePow, Int.reduceMul, Int.reduceNeg, isB_i, isB_b, isB_y, isBv_i, isBv_b, eqCells_t, TT]
          rw [r2]
          refine call_pureF [.c (i64 s1.r), .c (i64 k.rx.length)] nx ⟨.inl ⟨rfl, rfl⟩, .inl ⟨rfl, rfl⟩, trivial⟩ ?_
          rintro _ rfl
          have eb : IntKind.i64.wrap (b - 1) = b - 1 := by rw [w64] <;> omega
          simp (maxSteps := 4000000) only [Try.results14, hg, l7, eb, XX, Nat.reduceBEq, Nat.reduceLT, Nat.reduceAdd, Nat.reduceMul, Nat.reduceSub, Nat.reduceLeDiff, Nat.reduceEqDiff, Int.reduceToNat, Int.reduceLT, Int.reduceLE, Int.reduceAdd, Int.reduceSub, Int.reduceEq, reduceIte, Nat.reduceBNe, Int.reducePow, Nat.reducePow, Int.reduceMul, Int.reduceNeg, isB_i, isB_b, isB_y, isBv_i, isBv_b, eqCells_t, TT]
          have hgv := frN_give os1.r hcf
          obtain ⟨q1, q2⟩ := givK_len k1 s1.r
          have tS2 : ¬ tyF (nicB s2 c).ty := fun h => h.elim nic_tys.1 nic_tys.2.2
          refine ⟨(b - 1).toNat, by omega, _, ⟨b - 1, _, givK k1 s1.r, pollS k1 s1, sc2, es2, done ++ pollO k1 s1, rfl, by omega, by omega, by rw [show (b - 1).toNat = b.toNat - 1 by omega]; exact hI2, hdn2, FLg.keep (KT.set hg tS2), Pg.setn n1 n2 n3, givK_ok k1 ok1 _, pollS_ok ok1 os1, by rw [q1]; exact hrx, by omega, ?_, Bg.set (.inr (.inr (.inr rfl))) _, rfl⟩, .inl ⟨rfl, rfl, rfl, rfl, rfl, rfl, trivial⟩⟩
          rw [List.getElem?_set_self l7, hps, hrx]
      · have de : decide (q.e = 0) = false := by simpa using he
        refine draw_of cx_ok (by kernel_rfl) 400 [n, wq + 1] [(0, true), (1, true), (2, true), (3, true), (4, true), (5, true), (6, true), (7, true), (8, false), (9, true)] (by kernel_rfl) (by first | exact hok | simp [*]) ?_
        simp (maxSteps := 4000000) only [Try.results14, hn4, hb4, mx, my, lx, ly, l4, l5, de, XX, Nat.reduceBEq, Nat.reduceLT, Nat.reduceAdd, Nat.reduceMul, Nat.reduceSub, Nat.reduceLeDiff, Nat.reduceEqDiff, Int.reduceToNat, Int.reduceLT, Int.reduceLE, Int.reduceAdd, Int.reduceSub, Int.reduceEq, reduceIte, Nat.reduceBNe, Int.reducePow, Nat.reducePow, Int.reduceMul, Int.reduceNeg, isB_i, isB_b, isB_y, isBv_i, isBv_b, eqCells_t, TT]
        rw [de] at hmq
        simp (maxSteps := 4000000) only [Try.results14, unL_maskL, hn4, l4, XX, Nat.reduceBEq, Nat.reduceLT, Nat.reduceAdd, Nat.reduceMul, Nat.reduceSub, Nat.reduceLeDiff, Nat.reduceEqDiff, Int.reduceToNat, Int.reduceLT, Int.reduceLE, Int.reduceAdd, Int.reduceSub, Int.reduceEq, reduceIte, Nat.reduceBNe, Int.reducePow, Nat.reducePow, Int.reduceMul, Int.reduceNeg, isB_i, isB_b, isB_y, isBv_i, isBv_b, eqCells_t, TT]
        replace hmq : minQ k1 s1 = false := hmq
        obtain ⟨s2, hs2⟩ : ∃ s2 : NS, s2 = { s1 with th := incW s1.th } := ⟨_, rfl⟩
        have hps : pollS k1 s1 = { s2 with r := (s1.r + 1) % k1.rx.length } := by rw [hs2]; unfold pollS; rw [hmq]; rfl
        have hn5 := hn4
        have P5 := P4
        have B5 := B4
        have l6 := l4
        have FL2 := FL
        have hdn2 : es.map FE.f = done ++ pollO k1 s1 := by rw [hdn, hpo, hmq, if_neg (by decide), List.append_nil]
        obtain ⟨es2, hes2⟩ : ∃ es2, es2 = es := ⟨_, rfl⟩
        obtain ⟨sc2, hsc2⟩ : ∃ sc2, sc2 = sc := ⟨_, rfl⟩
        rw [← hes2, ← hsc2] at FL2
        rw [← hes2] at hdn2
        rw [← hsc2]
        have hfr2 : es2.length ≤ es.length + 1 := by rw [hes2]; omega
        have tS : ¬ tyF (nicB s1 c).ty := fun h => h.elim nic_tys.1 nic_tys.2.2
        refine gen_draw (fun F6 => F6[n]? = some (nicB s2 c) ∧ PC F6 c w1 w2 k1 ∧ FrL F6 H.length sc2 es2 ∧ But H F6 (XN5 c w1 w2 n)) ⟨by rw [hs2]; exact List.getElem?_set_self l6, P5.setn n1 n2 n3, FL2.keep (KT.set hn5 tS), B5.set (.inr (.inr (.inr rfl))) _⟩ ?_
        have r2 : s2.r = s1.r := by rw [hs2]
        clear hs2 hn5 P5 FL2 B5 l6 FL hn4 P4 B4 hq4 hb4 mx my hok lx ly mi hqm
        rintro F6 ⟨hn6, P6, FL6, B6⟩
        have l6 := lt_of hn6
        obtain ⟨ox, mx⟩ : ∃ o, (maskL [n] 0 F6)[n]? = some ⟨o, 80, (nicB s2 c).cells⟩ := maskL_at hn6
        have hok := kept_cons hn6 rfl kept_nil
        have lx := lt_of mx
        refine draw_of cx_ok (by kernel_rfl) 400 [n] [(0, true), (1, true), (2, true), (3, true), (4, true), (5, true), (6, true), (7, true), (8, false)] (by kernel_rfl) (by first | exact hok | simp [*]) ?_
        simp (maxSteps := 4000000) only [Try.results14, hn6, mx, l6, lx, XX, Nat.reduceBEq, Nat.reduceLT, Nat.reduceAdd, Nat.reduceMul, Nat.reduceSub, Nat.reduceLeDiff, Nat.reduceEqDiff, Int.reduceToNat, Int.reduceLT, Int.reduceLE, Int.reduceAdd, Int.reduceSub, Int.reduceEq, reduceIte, Nat.reduceBNe, Int.reducePow, Nat.reducePow, Int.reduceMul, Int.reduceNeg, isB_i, isB_b, isB_y, isBv_i, isBv_b, eqCells_t, TT]
        rw [r2]
        refine call_is ((P6.mask (not1 n1) (not1 n2) (not1 n3)).give ok1 s1.r) ?_
        rintro _ _ ⟨rfl, rfl⟩
        simp (maxSteps := 4000000) only [Try.results14, unL_setC0 (not1 n1) (not1 n2) (not1 n3), XX, Nat.reduceBEq, Nat.reduceLT, Nat.reduceAdd, Nat.reduceMul, Nat.reduceSub, Nat.reduceLeDiff, Nat.reduceEqDiff, Int.reduceToNat, Int.reduceLT, Int.reduceLE, Int.reduceAdd, Int.reduceSub, Int.reduceEq, reduceIte, Nat.reduceBNe, Int.reducePow, Nat.reducePow, Int.reduceMul, Int.reduceNeg, isB_i, isB_b, isB_y, isBv_i, isBv_b, eqCells_t, TT]
        have Pg := P6.set (givK k1 s1.r)
        have hg : (setC F6 c w1 w2 (givK k1 s1.r))[n]? = some (nicB s2 c) := by rw [setC_off n1 n2 n3]; exact hn6
        have FLg := FL6.keep (KT.setC (p := tyF) (k' := givK k1 s1.r) P6 (by decide) (by decide))
        have Bg : But H (setC F6 c w1 w2 (givK k1 s1.r)) (XN5 c w1 w2 n) := B6.trans (setC_but _ _ _ _ _ (.inl rfl) (.inr (.inl rfl)) (.inr (.inr (.inl rfl))))
        generalize setC F6 c w1 w2 (givK k1 s1.r) = F7 at *
        have l7 := lt_of hg
        have nx := next_spec s1.r k.rx.length (by rw [← hrx]; exact os1.r) ok.rx1
        simp (maxSteps := 4000000) only [Try.results14, hg, l7, XX, Nat.reduceBEq, Nat.reduceLT, Nat.reduceAdd, Nat.reduceMul, Nat.reduceSub, Nat.reduceLeDiff, Nat.reduceEqDiff, Int.reduceToNat, Int.reduceLT, Int.reduceLE, Int.reduceAdd, Int.reduceSub, Int.reduceEq, reduceIte, Nat.reduceBNe, Int.reducePow, Nat.reducePow, Int.reduceMul, Int.reduceNeg, isB_i, isB_b, isB_y, isBv_i, isBv_b, eqCells_t, TT]
        rw [r2]
        refine call_pureF [.c (i64 s1.r), .c (i64 k.rx.length)] nx ⟨.inl ⟨rfl, rfl⟩, .inl ⟨rfl, rfl⟩, trivial⟩ ?_
        rintro _ rfl
        have eb : IntKind.i64.wrap (b - 1) = b - 1 := by rw [w64] <;> omega
        simp (maxSteps := 4000000) only [Try.results14, hg, l7, eb, XX, Nat.reduceBEq, Nat.reduceLT, Nat.reduceAdd, Nat.reduceMul, Nat.reduceSub, Nat.reduceLeDiff, Nat.reduceEqDiff, Int.reduceToNat, Int.reduceLT, Int.reduceLE, Int.reduceAdd, Int.reduceSub, Int.reduceEq, reduceIte, Nat.reduceBNe, Int.reducePow, Nat.reducePow, Int.reduceMul, Int.reduceNeg, isB_i, isB_b, isB_y, isBv_i, isBv_b, eqCells_t, TT]
        have hgv := frN_give os1.r hcf
        obtain ⟨q1, q2⟩ := givK_len k1 s1.r
        have tS2 : ¬ tyF (nicB s2 c).ty := fun h => h.elim nic_tys.1 nic_tys.2.2
        refine ⟨(b - 1).toNat, by omega, _, ⟨b - 1, _, givK k1 s1.r, pollS k1 s1, sc2, es2, done ++ pollO k1 s1, rfl, by omega, by omega, by rw [show (b - 1).toNat = b.toNat - 1 by omega]; exact hI2, hdn2, FLg.keep (KT.set hg tS2), Pg.setn n1 n2 n3, givK_ok k1 ok1 _, pollS_ok ok1 os1, by rw [q1]; exact hrx, by omega, ?_, Bg.set (.inr (.inr (.inr rfl))) _, rfl⟩, .inl ⟨rfl, rfl, rfl, rfl, rfl, rfl, trivial⟩⟩
        rw [List.getElem?_set_self l7, hps, hrx]
  · have d1 : decide (0 < b) = false := by simpa using hpos
    have hst := hI.stop (.inl (by omega))
    simp (maxSteps := 4000000) only [Try.results14, d1, XX, Nat.reduceBEq, Nat.reduceLT, Nat.reduceAdd, Nat.reduceMul, Nat.reduceSub, Nat.reduceLeDiff, Nat.reduceEqDiff, Int.reduceToNat, Int.reduceLT, Int.reduceLE, Int.reduceAdd, Int.reduceSub, Int.reduceEq, reduceIte, Nat.reduceBNe, Int.reducePow, Nat.reducePow, Int.reduceMul, Int.reduceNeg, isB_i, isB_b, isB_y, isBv_i, isBv_b, eqCells_t, TT]
    rw [hst]
    exact ⟨_, es, rfl, hF, hdn, PF, hn1, bF⟩
end Go.Proofs.Ythbojoiogjdbeaa.Sx
namespace Go.Proofs.Ythbojoiogjdbeaa.Sx
open Go
set_option linter.unusedSimpArgs false
set_option linter.unusedVariables false
set_option maxRecDepth 10000
set_option maxHeartbeats 8000000
theorem rtyF {s : NS} {c : Nat} : ¬ tyF (rnicB s c).ty := fun h => h.elim (by show ¬ ((100 : Nat) = 40); decide) rnic_tys.2.2
theorem RSx.tys {S : Nat → Prop} {H : List SB} {rc rr rt : Nat} {k : CK} (R : RSx S H rc rr rt k) : (∃ b, H[rc]? = some b ∧ b.ty = 83) ∧ (∃ b, H[rr]? = some b ∧ b.ty = 85) ∧ (∃ b, H[rt]? = some b ∧ b.ty = 85) := by
  obtain ⟨lr0, lt0, cr0, ct0, RR, _, _⟩ := R
  exact ⟨⟨_, RR.hc, rfl⟩, ⟨_, RR.hr, rfl⟩, ⟨_, RR.ht, rfl⟩⟩
theorem RSx.ktF {S : Nat → Prop} {H H' : List SB} {rc rr rt : Nat} {k : CK} (R : RSx S H rc rr rt k) {p : Nat → Prop} (B : But H H' p) (hp : ∀ i, p i → i = rc ∨ i = rr ∨ i = rt) : KT tyF H H' := KT.ofBut B fun i b hi h => by
  obtain ⟨⟨b1, h1, t1⟩, ⟨b2, h2, t2⟩, ⟨b3, h3, t3⟩⟩ := R.tys
  rcases hp i h with rfl | rfl | rfl
  · rw [hi] at h1; cases h1; rw [t1]; decide
  · rw [hi] at h2; cases h2; rw [t2]; decide
  · rw [hi] at h3; cases h3; rw [t3]; decide
theorem RSx.unLm {S : Nat → Prop} {F h5 : List SB} {rc rr rt m : Nat} {k : CK} {s : NS} (R5 : RSx S h5 rc rr rt k) (hm : F[m]? = some (rnicB s rc)) {o : Bool} (h5m : h5[m]? = some ⟨o, 100, (rnicB s rc).cells⟩) : RSx S (unL [m] 0 F h5) rc rr rt k := R5.keep fun i b hi ht => by
  have hne : m ≠ i := by
    rintro rfl
    rw [h5m] at hi
    cases hi
    rcases ht with h | h | h
    · exact (rnic_tys (s := s) (c := rc)).1 h
    · exact (rnic_tys (s := s) (c := rc)).2.1 h
    · exact (rnic_tys (s := s) (c := rc)).2.2 h
  rw [unL_off (not1 hne)]; exact hi
theorem rpoll_spec {S : Nat → Prop} {H : List SB} (hS : ∀ i, S i → i < H.length) {rc rr rt m : Nat} {k : CK} {s : NS} (ok : k.ok) (R : RSx S H rc rr rt k) (hn : H[m]? = some (rnicB s rc)) (os : s.ok k) (N : Int) (hN : -9223372036854775808 ≤ N ∧ N < 9223372036854775808) :
    Spec cx.P 39 [.c (.ptr m 0), .c (i64 N)] H fun t h' => ∃ sc es, t = .c sc ∧ FrL h' H.length sc es ∧ es.map FE.f = (pollN N.toNat k s).2.2 ∧ RSx S h' rc rr rt (pollN N.toNat k s).1 ∧ h'[m]? = some (rnicB (pollN N.toNat k s).2.1 rc) ∧ But H h' (XR5 rc rr rt m) := by
  have ln := lt_of hn
  obtain ⟨nrc, nrr, nrt⟩ : m ≠ rc ∧ m ≠ rr ∧ m ≠ rt := by
    obtain ⟨lr0, lt0, cr0, ct0, RR, _, _⟩ := id R
    exact ⟨ty_ne hn RR.hc rnic_tys.1, ty_ne hn RR.hr rnic_tys.2.1, ty_ne hn RR.ht rnic_tys.2.1⟩
  have np : ∀ i, (i = rc ∨ i = rr ∨ i = rt) → [m].contains i = false := fun i hi => not1 (by rcases hi with rfl | rfl | rfl <;> assumption)
  have nm : ¬ (m = rc ∨ m = rr ∨ m = rt) := fun h => h.elim nrc fun h => h.elim nrr nrt
  obtain ⟨lr0, lt0, cr0, ct0, RR, _, _⟩ := id R
  refine spec_of_X cx_ok Try.func39 rfl (by kernel_rfl) (by kernel_rfl) (Nat.le_of_ble_eq_true rfl) 400 14 ?_
  simp (maxSteps := 4000000) only [Try.results39, XX, Nat.reduceBEq, Nat.reduceLT, Nat.reduceAdd, Nat.reduceMul, Nat.reduceSub, Nat.reduceLeDiff, Nat.reduceEqDiff, Int.reduceToNat, Int.reduceLT, Int.reduceLE, Int.reduceAdd, Int.reduceSub, Int.reduceEq, reduceIte, Nat.reduceBNe, Int.reducePow, Nat.reducePow, Int.reduceMul, Int.reduceNeg, isB_i, isB_b, isB_y, isBv_i, isBv_b, eqCells_t, TT]
  simp (maxSteps := 4000000) only [Try.results39, hn, ln, XX, Nat.reduceBEq, Nat.reduceLT, Nat.reduceAdd, Nat.reduceMul, Nat.reduceSub, Nat.reduceLeDiff, Nat.reduceEqDiff, Int.reduceToNat, Int.reduceLT, Int.reduceLE, Int.reduceAdd, Int.reduceSub, Int.reduceEq, reduceIte, Nat.reduceBNe, Int.reducePow, Nat.reducePow, Int.reduceMul, Int.reduceNeg, isB_i, isB_b, isB_y, isBv_i, isBv_b, eqCells_t, TT]
  refine call_is (rrings_spec RR) ?_
  rintro _ M2 ⟨rfl, hM⟩
  rw [hM]
  clear hM M2 RR
  simp (maxSteps := 4000000) only [Try.results39, XX, Nat.reduceBEq, Nat.reduceLT, Nat.reduceAdd, Nat.reduceMul, Nat.reduceSub, Nat.reduceLeDiff, Nat.reduceEqDiff, Int.reduceToNat, Int.reduceLT, Int.reduceLE, Int.reduceAdd, Int.reduceSub, Int.reduceEq, reduceIte, Nat.reduceBNe, Int.reducePow, Nat.reducePow, Int.reduceMul, Int.reduceNeg, isB_i, isB_b, isB_y, isBv_i, isBv_b, eqCells_t, TT]
  refine loop_any cx_ok 400 (fun μ σ => ∃ (b : Int) (F : List SB) (k1 : CK) (s1 : NS) (sc : SC) (es : List FE) (done : List FR), μ = (N - b).toNat ∧ 0 ≤ b ∧ b < 9223372036854775808 ∧ PollI N.toNat k s (N - b).toNat k1 s1 done ∧ es.map FE.f = done ∧ FrL F H.length sc es ∧ RSx S F rc rr rt k1 ∧ k1.ok ∧ s1.ok k1 ∧ k1.rx.length = k.rx.length ∧ es.length + frN k1.rx ≤ 64 ∧ F[m]? = some (rnicB s1 rc) ∧ But H F (XR5 rc rr rt m) ∧
      σ = ⟨⟨14, H.length⟩, [(0, .c (.ptr m 0)), (1, .c (i64 N)), (5, .c sc), (6, .c (i64 k.rx.length)), (8, .c (i64 b))], F⟩) N.toNat
    ⟨⟨14, H.length⟩, [(0, .c (.ptr m 0)), (1, .c (i64 N)), (5, .c noC), (6, .c (i64 k.rx.length)), (8, .c (i64 (0 : Int)))], H⟩ ⟨0, H, k, s, noC, [], [], by rw [Int.sub_zero], by omega, by omega, by rw [Int.sub_zero]; exact PollI.start _ _ _, rfl, FrL.nil _ _, R, ok, os, rfl, by have := frN_le k.rx; have := ok.rx1; show 0 + frN k.rx ≤ 64; omega, hn, But.rfl' _ _, rfl⟩ (.inl ⟨rfl, rfl, rfl, rfl, rfl, rfl, rfl, trivial⟩) ?_
  rintro μ σ ⟨b, F, k1, s1, sc, es, done, rfl, hb1, hb2, hI, hdn, hF, PF, ok1, os1, hrx, hfr, hn1, bF, rfl⟩
  have hSF : ∀ i, S i → i < F.length := fun i hi => by have := hS i hi; have := bF.1; omega
  by_cases hpos : b < N
  · have d1 : decide (b < N) = true := by simpa using hpos
    simp (maxSteps := 4000000) only [Try.results39, d1, XX, Nat.reduceBEq, Nat.reduceLT, Nat.reduceAdd, Nat.reduceMul, Nat.reduceSub, Nat.reduceLeDiff, Nat.reduceEqDiff, Int.reduceToNat, Int.reduceLT, Int.reduceLE, Int.reduceAdd, Int.reduceSub, Int.reduceEq, reduceIte, Nat.reduceBNe, Int.reducePow, Nat.reducePow, Int.reduceMul, Int.reduceNeg, isB_i, isB_b, isB_y, isBv_i, isBv_b, eqCells_t, TT]
    have lfn := lt_of hn1
    obtain ⟨ox, mx⟩ : ∃ o, (maskL [m] 0 F)[m]? = some ⟨o, 100, (rnicB s1 rc).cells⟩ := maskL_at hn1
    have hok := kept_cons hn1 rfl kept_nil
    have lx := lt_of mx
    have lM : (maskL [m] 0 F).length = F.length := maskL_len _ _ _
    have Pm := PF.maskm (one_L hn1 rnic_tys)
    have lHF := bF.1
    refine draw_cut cx_ok 400 (fun τ => ∃ (F3 : List SB) (dd : Nat) (y : SC), But F F3 (fun _ => False) ∧ F.length ≤ dd ∧ F3[dd]? = some (deB (seeS k1.rx s1.r) y) ∧ DX S F3 y (seeD k1.rx s1.r) ∧
        τ = ⟨⟨14, H.length⟩, [(0, .c (.ptr m 0)), (1, .c (i64 N)), (5, .c sc), (6, .c (i64 k.rx.length)), (8, .c (i64 b)), (9, .c (.ptr dd 0))], F3⟩) ?_ ?_
    · refine draw2_of cx_ok (by kernel_rfl) 400 [m] (.pair [(0, true), (1, true), (2, true), (3, true), (4, true), (5, true), (6, true), (7, true)] 8 12 (.done [(9, true), (10, true), (11, true), (12, false), (13, false), (14, true)]) (.done [(8, false), (9, true), (10, true), (11, true), (13, false), (14, true)])) (by kernel_rfl) (by first | exact hok | simp [*]) ?_
      simp (maxSteps := 4000000) only [Try.results39, PXT_done, PXT_pair, hn1, mx, lx, lfn, XX, Nat.reduceBEq, Nat.reduceLT, Nat.reduceAdd, Nat.reduceMul, Nat.reduceSub, Nat.reduceLeDiff, Nat.reduceEqDiff, Int.reduceToNat, Int.reduceLT, Int.reduceLE, Int.reduceAdd, Int.reduceSub, Int.reduceEq, reduceIte, Nat.reduceBNe, Int.reducePow, Nat.reducePow, Int.reduceMul, Int.reduceNeg, isB_i, isB_b, isB_y, isBv_i, isBv_b, eqCells_t, TT]
      refine ⟨?_, ?_⟩
      · refine call_is (rrxA_spec (fun i hi => by rw [lM]; exact hSF i hi) ok1 Pm s1.r) ?_
        rintro _ h3 ⟨y, rfl, D3, _, B3⟩
        simp (maxSteps := 4000000) only [Try.results39, PXT_done, append_at, append_set, append_len1, Nat.lt_add_one, XX, Nat.reduceBEq, Nat.reduceLT, Nat.reduceAdd, Nat.reduceMul, Nat.reduceSub, Nat.reduceLeDiff, Nat.reduceEqDiff, Int.reduceToNat, Int.reduceLT, Int.reduceLE, Int.reduceAdd, Int.reduceSub, Int.reduceEq, reduceIte, Nat.reduceBNe, Int.reducePow, Nat.reducePow, Int.reduceMul, Int.reduceNeg, isB_i, isB_b, isB_y, isBv_i, isBv_b, eqCells_t, TT]
        have l3 : F.length ≤ h3.length := by have := B3.1; rw [lM] at this; exact this
        refine ⟨_, ⟨_, h3.length, y, unL_but (B3.app _) fun _ h => h.elim, l3, by rw [unL_ge l3]; exact append_at _, (D3.app _).unL (fun i hi => ?_), rfl⟩, .inl ⟨rfl, rfl, rfl, rfl, rfl, rfl, rfl, rfl, trivial⟩⟩
        rw [List.mem_singleton] at hi
        subst hi
        exact ⟨_, ((List.getElem?_append_left (lt_of ((B3.2 _ (by rw [lM]; exact lfn) (fun h => h)).trans mx))).trans (B3.2 _ (by rw [lM]; exact lfn) (fun h => h))).trans mx, (rnic_tys (s := s1) (c := rc)).2.2⟩
      · refine call_is (rrxA_spec (fun i hi => by rw [List.length_append, lM]; have := hSF i hi; omega) ok1 (Pm.but ((But.rfl' _ _).app _) (p := fun _ => False) fun _ _ _ h => h.elim) s1.r) ?_
        rintro _ h3 ⟨y, rfl, D3, _, B3⟩
        have hd := (B3.2 (maskL [m] 0 F).length (by rw [List.length_append]; exact Nat.lt_succ_self _) (fun h => h)).trans (append_at _)
        have lh := lt_of hd
        have hm3 := (B3.2 m (by rw [List.length_append]; omega) (fun h => h)).trans ((List.getElem?_append_left lx).trans mx)
        have nmd : m ≠ (maskL [m] 0 F).length := by omega
        simp (maxSteps := 4000000) only [Try.results39, PXT_done, hd, lh, XX, Nat.reduceBEq, Nat.reduceLT, Nat.reduceAdd, Nat.reduceMul, Nat.reduceSub, Nat.reduceLeDiff, Nat.reduceEqDiff, Int.reduceToNat, Int.reduceLT, Int.reduceLE, Int.reduceAdd, Int.reduceSub, Int.reduceEq, reduceIte, Nat.reduceBNe, Int.reducePow, Nat.reducePow, Int.reduceMul, Int.reduceNeg, isB_i, isB_b, isB_y, isBv_i, isBv_b, eqCells_t, TT]
        have B4 : But F (unL [m] 0 F (h3.set (maskL [m] 0 F).length (deB (seeS k1.rx s1.r) y))) (fun _ => False) := unL_but ((((But.rfl' _ _).app _).trans B3).setN (Nat.le_refl _) _) fun _ h => h.elim
        refine ⟨_, ⟨_, (maskL [m] 0 F).length, y, B4, by rw [lM]; exact Nat.le_refl _, by rw [unL_ge (by rw [lM]; exact Nat.le_refl _), List.getElem?_set_self lh], (D3.set hd (by show (85 : Nat) ≠ 5; decide)).unL (fun i hi => ?_), rfl⟩, .inl ⟨rfl, rfl, rfl, rfl, rfl, rfl, rfl, rfl, trivial⟩⟩
        rw [List.mem_singleton] at hi
        subst hi
        exact ⟨_, (List.getElem?_set_ne (Ne.symm nmd)).trans hm3, (rnic_tys (s := s1) (c := rc)).2.2⟩
    clear hok mx lx lM Pm
    rintro τ ⟨F3, dd, y, B3, ld, hd, D3, rfl⟩
    have hn3 := (B3.2 m lfn (fun h => h)).trans hn1
    have P3 : RSx S F3 rc rr rt k1 := PF.but B3 fun _ _ _ h => h.elim
    have F3l := hF.keep (KT.ofBut (p := tyF) B3 fun _ _ _ h => h.elim)
    have B03 : But H F3 (XR5 rc rr rt m) := bF.trans (B3.wk' fun _ h => h.elim)
    have l3 := lt_of hd
    have l4 := lt_of hn3
    have lF3 := B3.1
    clear PF hF bF
    by_cases hcard : seeS k1.rx s1.r = true
    · have hst := hI.stop (.inr hcard)
      rw [hcard] at hd
      simp (maxSteps := 4000000) only [Try.results39, hd, l3, XX, Nat.reduceBEq, Nat.reduceLT, Nat.reduceAdd, Nat.reduceMul, Nat.reduceSub, Nat.reduceLeDiff, Nat.reduceEqDiff, Int.reduceToNat, Int.reduceLT, Int.reduceLE, Int.reduceAdd, Int.reduceSub, Int.reduceEq, reduceIte, Nat.reduceBNe, Int.reducePow, Nat.reducePow, Int.reduceMul, Int.reduceNeg, isB_i, isB_b, isB_y, isBv_i, isBv_b, eqCells_t, TT]
      rw [hst]
      exact ⟨_, es, rfl, F3l, hdn, P3, hn3, B03⟩
    · have hcf : seeS k1.rx s1.r = false := by simpa using hcard
      rw [hcf] at hd
      have hI2 : PollI N.toNat k s ((N - b).toNat - 1) (givK k1 s1.r) (pollS k1 s1) (done ++ pollO k1 s1) := PollI.next (by rw [show (N - b).toNat - 1 + 1 = (N - b).toNat by omega]; exact hI) hcf
      obtain ⟨sp, cc, hcc, hfz⟩ := D3.fz (r := fun i => F3.length + i) (n := 0)
      have op := ropenA_spec (seeD k1.rx s1.r) sp cc hcc
      simp (maxSteps := 4000000) only [Try.results39, hd, l3, XX, Nat.reduceBEq, Nat.reduceLT, Nat.reduceAdd, Nat.reduceMul, Nat.reduceSub, Nat.reduceLeDiff, Nat.reduceEqDiff, Int.reduceToNat, Int.reduceLT, Int.reduceLE, Int.reduceAdd, Int.reduceSub, Int.reduceEq, reduceIte, Nat.reduceBNe, Int.reducePow, Nat.reducePow, Int.reduceMul, Int.reduceNeg, isB_i, isB_b, isB_y, isBv_i, isBv_b, eqCells_t, TT]
      refine call_fz [.c (roB (seeD k1.rx s1.r) sp cc)] op (fun t h' h => resF_noRo h) ⟨fz_c hfz, trivial⟩ ?_
      rintro _ _ ⟨z, o2, rfl, rfl, ho2⟩
      obtain ⟨q, hq⟩ : ∃ q, q = openR (seeD k1.rx s1.r) := ⟨_, rfl⟩
      have hmq : minQ k1 s1 = (decide (q.e = 0) && mineB s1.mac q.d q.s) := by rw [hq]; rfl
      have hpo : pollO k1 s1 = if minQ k1 s1 then [q] else [] := by rw [hq]; rfl
      rw [← hq] at ho2 ⊢
      clear hq op hfz D3
      simp (maxSteps := 4000000) only [Try.results39, set_two, ids_bsC, ren_bsC, noRo_bsC, plain_bsC, lt_bsC, ids_byte, ren_byte, noRo_byte, plain_byte, lt_byte, List.append_assoc, List.getElem?_append_left, List.getElem?_append_right, List.length_append, List.length_set, List.set_append_left, gset, List.getElem?_set_ne, Nat.add_sub_cancel_left, Nat.sub_self, Nat.le_refl, Nat.le_add_right, List.replicate_one, List.flatten_cons, List.flatten_nil, rep_flat, XX, Nat.reduceBEq, Nat.reduceLT, Nat.reduceAdd, Nat.reduceMul, Nat.reduceSub, Nat.reduceLeDiff, Nat.reduceEqDiff, Int.reduceToNat, Int.reduceLT, Int.reduceLE, Int.reduceAdd, Int.reduceSub, Int.reduceEq, reduceIte, Nat.reduceBNe, Int.reducePow, Nat.reducePow, Int.reduceMul, Int.reduceNeg, isB_i, isB_b, isB_y, isBv_i, isBv_b, eqCells_t, TT]
      obtain ⟨wq, hwq⟩ : ∃ wq, wq = F3.length := ⟨_, rfl⟩
      rw [← hwq]
      refine gen_draw (fun F4 => F4[m]? = some (rnicB s1 rc) ∧ RSx S F4 rc rr rt k1 ∧ FrL F4 H.length sc es ∧ But H F4 (XR5 rc rr rt m) ∧ F4[wq]? = some (wB o2 (q.l ++ z)) ∧ F4[wq + 1]? = some ⟨true, 40, fraC q.d q.s q.k (slB wq q.l z)⟩ ∧ ∀ e ∈ es, e.w < wq) ⟨(List.getElem?_append_left l4).trans hn3, P3.but ((But.rfl' _ _).app _) (p := fun _ => False) fun _ _ _ h => h.elim, F3l.keep fun i b hi _ => (List.getElem?_append_left (lt_of hi)).trans hi, B03.app _, by rw [hwq, List.getElem?_append_right (Nat.le_refl _), Nat.sub_self]; rfl, by rw [hwq]; exact app_two, fun e he => by rw [hwq]; exact F3l.lt he⟩ ?_
      have lHw : H.length ≤ wq := by omega
      clear hd hn3 P3 F3l B03 l3 l4 lF3 B3 hwq ld
      rintro F4 ⟨hn4, P4, FL, B4, hq4, hb4, hew⟩
      have l4 := lt_of hn4
      have l5 := lt_of hb4
      have nb : m ≠ wq + 1 := ty_ne hn4 hb4 (by show (100 : Nat) ≠ 40; decide)
      obtain ⟨ox, mx⟩ : ∃ o, (maskL [m, wq + 1] 0 F4)[m]? = some ⟨o, 100, (rnicB s1 rc).cells⟩ := maskL_at hn4
      obtain ⟨oy, my⟩ : ∃ o, (maskL [m, wq + 1] 0 F4)[wq + 1]? = some ⟨o, 40, fraC q.d q.s q.k (slB wq q.l z)⟩ := maskL_at hb4
      have hok := kept_cons hn4 rfl (kept_cons hb4 rfl kept_nil)
      have lx := lt_of mx
      have ly := lt_of my
      have mi := rmine_spec s1.mac q.d q.s q.k (roB q.l z (q.l.length + z.length))
      have nq : m ≠ wq := ty_ne hn4 hq4 rnic_ty
      have hqm : (maskL [m, wq + 1] 0 F4)[wq]? = some (wB o2 (q.l ++ z)) := (mask_off (not2 nq (by omega))).trans hq4
      refine draw_of cx_ok (by kernel_rfl) 400 [m, wq + 1] [(0, true), (1, true), (2, true), (3, true), (4, true), (5, false), (6, true)] (by kernel_rfl) (by first | exact hok | simp [*]) ?_
      simp (maxSteps := 4000000) only [Try.results39, hn4, hb4, mx, my, lx, ly, l4, l5, XX, Nat.reduceBEq, Nat.reduceLT, Nat.reduceAdd, Nat.reduceMul, Nat.reduceSub, Nat.reduceLeDiff, Nat.reduceEqDiff, Int.reduceToNat, Int.reduceLT, Int.reduceLE, Int.reduceAdd, Int.reduceSub, Int.reduceEq, reduceIte, Nat.reduceBNe, Int.reducePow, Nat.reducePow, Int.reduceMul, Int.reduceNeg, isB_i, isB_b, isB_y, isBv_i, isBv_b, eqCells_t, TT]
      refine call_pureF [.agg (bsC s1.mac.l), .agg (fraC q.d q.s q.k (roB q.l z (q.l.length + z.length)))] mi ⟨.inl ⟨rfl, rfl⟩, fra_fz (fz_any hqm ho2), trivial⟩ ?_
      rintro _ rfl
      simp (maxSteps := 4000000) only [Try.results39, unL_maskL, XX, Nat.reduceBEq, Nat.reduceLT, Nat.reduceAdd, Nat.reduceMul, Nat.reduceSub, Nat.reduceLeDiff, Nat.reduceEqDiff, Int.reduceToNat, Int.reduceLT, Int.reduceLE, Int.reduceAdd, Int.reduceSub, Int.reduceEq, reduceIte, Nat.reduceBNe, Int.reducePow, Nat.reducePow, Int.reduceMul, Int.reduceNeg, isB_i, isB_b, isB_y, isBv_i, isBv_b, eqCells_t, TT]
      by_cases hm : minQ k1 s1 = true
      · have hm2 := hm
        rw [hmq] at hm2
        rw [hm, if_pos rfl] at hpo
        have hmt : (decide (q.e = 0)) = true ∧ mineB s1.mac q.d q.s = true := by simpa only [Bool.and_eq_true] using hm2
        rw [hmt.2]
        simp (maxSteps := 4000000) only [Try.results39, hmt.1, hn4, hb4, l4, l5, XX, Nat.reduceBEq, Nat.reduceLT, Nat.reduceAdd, Nat.reduceMul, Nat.reduceSub, Nat.reduceLeDiff, Nat.reduceEqDiff, Int.reduceToNat, Int.reduceLT, Int.reduceLE, Int.reduceAdd, Int.reduceSub, Int.reduceEq, reduceIte, Nat.reduceBNe, Int.reducePow, Nat.reducePow, Int.reduceMul, Int.reduceNeg, isB_i, isB_b, isB_y, isBv_i, isBv_b, eqCells_t, TT]
        rcases FL.row with ⟨rfl, rfl⟩ | ⟨iF, oF, rF, rfl, hiF, RF⟩
        · simp (maxSteps := 4000000) only [Try.results39, List.append_assoc, List.getElem?_append_left, List.getElem?_append_right, List.length_append, List.length_set, List.set_append_left, gset, List.getElem?_set_ne, Nat.add_sub_cancel_left, Nat.sub_self, Nat.le_refl, Nat.le_add_right, List.replicate_one, List.flatten_cons, List.flatten_nil, rep_flat, XX, Nat.reduceBEq, Nat.reduceLT, Nat.reduceAdd, Nat.reduceMul, Nat.reduceSub, Nat.reduceLeDiff, Nat.reduceEqDiff, Int.reduceToNat, Int.reduceLT, Int.reduceLE, Int.reduceAdd, Int.reduceSub, Int.reduceEq, reduceIte, Nat.reduceBNe, Int.reducePow, Nat.reducePow, Int.reduceMul, Int.reduceNeg, isB_i, isB_b, isB_y, isBv_i, isBv_b, eqCells_t, TT]
          refine ⟨by decide, ?_⟩
          refine FrL.first (e := ⟨q, wq, z, o2⟩) rfl B4.1 hq4 ho2 lHw ?_
          intro F5 sc2 FL2 B45
          have hn5 := (B45.2 m l4 (fun h => h)).trans hn4
          have P5 : RSx S F5 rc rr rt k1 := P4.but B45 fun _ _ _ h => h.elim
          have B5 : But H F5 (XR5 rc rr rt m) := B4.trans (B45.wk' fun _ h => h.elim)
          have l6 := lt_of hn5
          obtain ⟨es2, hes2⟩ : ∃ es2 : List FE, es2 = [⟨q, wq, z, o2⟩] := ⟨_, rfl⟩
          have hdn2 : es2.map FE.f = done ++ pollO k1 s1 := by rw [hes2, hpo, ← hdn]; rfl
          have hfr2 : es2.length ≤ ([] : List FE).length + 1 := by rw [hes2]; simp
          rw [← hes2] at FL2
          simp (maxSteps := 4000000) only [Try.results39, hn5, l6, XX, Nat.reduceBEq, Nat.reduceLT, Nat.reduceAdd, Nat.reduceMul, Nat.reduceSub, Nat.reduceLeDiff, Nat.reduceEqDiff, Int.reduceToNat, Int.reduceLT, Int.reduceLE, Int.reduceAdd, Int.reduceSub, Int.reduceEq, reduceIte, Nat.reduceBNe, Int.reducePow, Nat.reducePow, Int.reduceMul, Int.reduceNeg, isB_i, isB_b, isB_y, isBv_i, isBv_b, eqCells_t, TT]
          obtain ⟨s2, hs2⟩ : ∃ s2 : NS, s2 = { s1 with tk := incW s1.tk } := ⟨_, rfl⟩
          have hps : pollS k1 s1 = { s2 with r := (s1.r + 1) % k1.rx.length } := by rw [hs2]; unfold pollS; rw [hm]; rfl
          refine gen_draw (fun F6 => F6[m]? = some (rnicB s2 rc) ∧ RSx S F6 rc rr rt k1 ∧ FrL F6 H.length sc2 es2 ∧ But H F6 (XR5 rc rr rt m)) ⟨by rw [hs2]; exact List.getElem?_set_self l6, P5.setm hn5 rnic_tys, FL2.keep (KT.set hn5 rtyF), B5.set (.inr (.inr (.inr rfl))) _⟩ ?_
          have r2 : s2.r = s1.r := by rw [hs2]
          clear hs2 hn5 P5 FL2 B5 l6 FL hn4 P4 B4 hq4 hb4 mx my hok lx ly mi hqm
          rintro F6 ⟨hn6, P6, FL6, B6⟩
          have l6 := lt_of hn6
          obtain ⟨ox, mx⟩ : ∃ o, (maskL [m] 0 F6)[m]? = some ⟨o, 100, (rnicB s2 rc).cells⟩ := maskL_at hn6
          have hok := kept_cons hn6 rfl kept_nil
          have lx := lt_of mx
          have lM : (maskL [m] 0 F6).length = F6.length := maskL_len _ _ _
          refine draw_of cx_ok (by kernel_rfl) 400 [m] [(0, true), (1, true), (2, true), (3, true), (4, true), (5, true), (6, true), (7, true), (8, false)] (by kernel_rfl) (by first | exact hok | simp [*]) ?_
          simp (maxSteps := 4000000) only [Try.results39, hn6, mx, l6, lx, XX, Nat.reduceBEq, Nat.reduceLT, Nat.reduceAdd, Nat.reduceMul, Nat.reduceSub, Nat.reduceLeDiff, Nat.reduceEqDiff, Int.reduceToNat, Int.reduceLT, Int.reduceLE, Int.reduceAdd, Int.reduceSub, Int.reduceEq, reduceIte, Nat.reduceBNe, Int.reducePow, Nat.reducePow, Int.reduceMul, Int.reduceNeg, isB_i, isB_b, isB_y, isBv_i, isBv_b, eqCells_t, TT]
          rw [r2]
          refine call_is (rgiveA_spec ok1 (P6.maskm (one_L hn6 rnic_tys)) s1.r) ?_
          rintro _ h5 ⟨rfl, R5, B5⟩
          have h5m := (B5.2 m (by rw [lM]; exact l6) nm).trans mx
          have Rg := R5.unLm hn6 h5m
          have B56 := unL_but B5 np
          have hg := (B56.2 m l6 nm).trans hn6
          have FLg := FL6.keep (P6.ktF B56 fun _ h => h)
          have Bg : But H (unL [m] 0 F6 h5) (XR5 rc rr rt m) := B6.trans (B56.wk' fun i h => h.elim .inl fun h => h.elim (fun h => .inr (.inl h)) fun h => .inr (.inr (.inl h)))
          simp (maxSteps := 4000000) only [Try.results39, XX, Nat.reduceBEq, Nat.reduceLT, Nat.reduceAdd, Nat.reduceMul, Nat.reduceSub, Nat.reduceLeDiff, Nat.reduceEqDiff, Int.reduceToNat, Int.reduceLT, Int.reduceLE, Int.reduceAdd, Int.reduceSub, Int.reduceEq, reduceIte, Nat.reduceBNe, Int.reducePow, Nat.reducePow, Int.reduceMul, Int.reduceNeg, isB_i, isB_b, isB_y, isBv_i, isBv_b, eqCells_t, TT]
          generalize unL [m] 0 F6 h5 = F7 at *
          have l7 := lt_of hg
          have em : (IntKind.i64.wrap ((s2.r : Int) + 1)).tmod (k.rx.length : Int) = (((s1.r + 1) % k.rx.length : Nat) : Int) := by rw [r2]; exact next_mod (by rw [← hrx]; exact os1.r) ok.rx1
          have eb : IntKind.i64.wrap (b + 1) = b + 1 := by rw [w64] <;> omega
          simp (maxSteps := 4000000) only [Try.results39, hg, l7, em, eb, XX, Nat.reduceBEq, Nat.reduceLT, Nat.reduceAdd, Nat.reduceMul, Nat.reduceSub, Nat.reduceLeDiff, Nat.reduceEqDiff, Int.reduceToNat, Int.reduceLT, Int.reduceLE, Int.reduceAdd, Int.reduceSub, Int.reduceEq, reduceIte, Nat.reduceBNe, Int.reducePow, Nat.reducePow, Int.reduceMul, Int.reduceNeg, isB_i, isB_b, isB_y, isBv_i, isBv_b, eqCells_t, TT]
          have hgv := frN_give os1.r hcf
          obtain ⟨q1, q2⟩ := givK_len k1 s1.r
          refine ⟨by have := ok.rx0; omega, (N - (b + 1)).toNat, by omega, _, ⟨b + 1, _, givK k1 s1.r, pollS k1 s1, sc2, es2, done ++ pollO k1 s1, rfl, by omega, by omega, by rw [show (N - (b + 1)).toNat = (N - b).toNat - 1 by omega]; exact hI2, hdn2, FLg.keep (KT.set hg rtyF), Rg.setm hg rnic_tys, givK_ok k1 ok1 _, pollS_ok ok1 os1, by rw [q1]; exact hrx, by omega, ?_, Bg.set (.inr (.inr (.inr rfl))) _, rfl⟩, .inl ⟨rfl, rfl, rfl, rfl, rfl, rfl, rfl, trivial⟩⟩
          rw [List.getElem?_set_self l7, hps, hrx]
        · have hRF := RF.row
          have lRF := lt_of hRF
          simp (maxSteps := 4000000) only [Try.results39, hb4, l5, hRF, lRF, List.append_assoc, List.getElem?_append_left, List.getElem?_append_right, List.length_append, List.length_set, List.set_append_left, gset, List.getElem?_set_ne, Nat.add_sub_cancel_left, Nat.sub_self, Nat.le_refl, Nat.le_add_right, List.replicate_one, List.flatten_cons, List.flatten_nil, rep_flat, XX, Nat.reduceBEq, Nat.reduceLT, Nat.reduceAdd, Nat.reduceMul, Nat.reduceSub, Nat.reduceLeDiff, Nat.reduceEqDiff, Int.reduceToNat, Int.reduceLT, Int.reduceLE, Int.reduceAdd, Int.reduceSub, Int.reduceEq, reduceIte, Nat.reduceBNe, Int.reducePow, Nat.reducePow, Int.reduceMul, Int.reduceNeg, isB_i, isB_b, isB_y, isBv_i, isBv_b, eqCells_t, TT]
          have fl := flatG_len (fe_len (es := es))
          have rl := repG_len (z := zeroFr) (sz := 14) rfl rF
          rw [List.length_map] at fl
          refine ⟨⟨by omega, by unfold maxLen; omega, by rw [fl, rl]; omega, fun hh => ⟨RF.own (by rw [List.length_map]; omega), by rw [fl, rl]; omega⟩⟩, ?_⟩
          refine FrL.push (e := ⟨q, wq, z, o2⟩) FL RF hiF rfl rfl B4.1 hq4 ho2 lHw (fun a ha => by have := hew a ha; show a.w ≠ wq; omega) ?_
          intro F5 sc2 FL2 B45
          have hn5 := (B45.2 m l4 (ty_ne hn4 hRF (by show (100 : Nat) ≠ 40; decide))).trans hn4
          have P5 : RSx S F5 rc rr rt k1 := P4.but B45 fun i b hi h => by subst h; rw [hRF] at hi; cases hi; exact ⟨by show (40 : Nat) ≠ _; decide, by show (40 : Nat) ≠ _; decide, by show (40 : Nat) ≠ _; decide⟩
          have B5 : But H F5 (XR5 rc rr rt m) := ⟨Nat.le_trans B4.1 B45.1, fun i hi hx => (B45.2 i (by have := B4.1; omega) (by omega)).trans (B4.2 i hi hx)⟩
          have l6 := lt_of hn5
          obtain ⟨es2, hes2⟩ : ∃ es2 : List FE, es2 = es ++ [⟨q, wq, z, o2⟩] := ⟨_, rfl⟩
          have hdn2 : es2.map FE.f = done ++ pollO k1 s1 := by rw [hes2, hpo, List.map_append, hdn]; rfl
          have hfr2 : es2.length ≤ es.length + 1 := by rw [hes2]; simp
          rw [← hes2] at FL2
          simp (maxSteps := 4000000) only [Try.results39, hn5, l6, XX, Nat.reduceBEq, Nat.reduceLT, Nat.reduceAdd, Nat.reduceMul, Nat.reduceSub, Nat.reduceLeDiff, Nat.reduceEqDiff, Int.reduceToNat, Int.reduceLT, Int.reduceLE, Int.reduceAdd, Int.reduceSub, Int.reduceEq, reduceIte, Nat.reduceBNe, Int.reducePow, Nat.reducePow, Int.reduceMul, Int.reduceNeg, isB_i, isB_b, isB_y, isBv_i, isBv_b, eqCells_t, TT]
          obtain ⟨s2, hs2⟩ : ∃ s2 : NS, s2 = { s1 with tk := incW s1.tk } := ⟨_, rfl⟩
          have hps : pollS k1 s1 = { s2 with r := (s1.r + 1) % k1.rx.length } := by rw [hs2]; unfold pollS; rw [hm]; rfl
          refine gen_draw (fun F6 => F6[m]? = some (rnicB s2 rc) ∧ RSx S F6 rc rr rt k1 ∧ FrL F6 H.length sc2 es2 ∧ But H F6 (XR5 rc rr rt m)) ⟨by rw [hs2]; exact List.getElem?_set_self l6, P5.setm hn5 rnic_tys, FL2.keep (KT.set hn5 rtyF), B5.set (.inr (.inr (.inr rfl))) _⟩ ?_
          have r2 : s2.r = s1.r := by rw [hs2]
          clear hs2 hn5 P5 FL2 B5 l6 FL hn4 P4 B4 hq4 hb4 mx my hok lx ly mi hqm
          rintro F6 ⟨hn6, P6, FL6, B6⟩
          have l6 := lt_of hn6
          obtain ⟨ox, mx⟩ : ∃ o, (maskL [m] 0 F6)[m]? = some ⟨o, 100, (rnicB s2 rc).cells⟩ := maskL_at hn6
          have hok := kept_cons hn6 rfl kept_nil
          have lx := lt_of mx
          have lM : (maskL [m] 0 F6).length = F6.length := maskL_len _ _ _
          refine draw_of cx_ok (by kernel_rfl) 400 [m] [(0, true), (1, true), (2, true), (3, true), (4, true), (5, true), (6, true), (7, true), (8, false)] (by kernel_rfl) (by first | exact hok | simp [*]) ?_
          simp (maxSteps := 4000000) only [Try.results39, hn6, mx, l6, lx, XX, Nat.reduceBEq, Nat.reduceLT, Nat.reduceAdd, Nat.reduceMul, Nat.reduceSub, Nat.reduceLeDiff, Nat.reduceEqDiff, Int.reduceToNat, Int.reduceLT, Int.reduceLE, Int.reduceAdd, Int.reduceSub, Int.reduceEq, reduceIte, Nat.reduceBNe, Int.reducePow, Nat.reducePow, Int.reduceMul, Int.reduceNeg, isB_i, isB_b, isB_y, isBv_i, isBv_b, eqCells_t, TT]
          rw [r2]
          refine call_is (rgiveA_spec ok1 (P6.maskm (one_L hn6 rnic_tys)) s1.r) ?_
          rintro _ h5 ⟨rfl, R5, B5⟩
          have h5m := (B5.2 m (by rw [lM]; exact l6) nm).trans mx
          have Rg := R5.unLm hn6 h5m
          have B56 := unL_but B5 np
          have hg := (B56.2 m l6 nm).trans hn6
          have FLg := FL6.keep (P6.ktF B56 fun _ h => h)
          have Bg : But H (unL [m] 0 F6 h5) (XR5 rc rr rt m) := B6.trans (B56.wk' fun i h => h.elim .inl fun h => h.elim (fun h => .inr (.inl h)) fun h => .inr (.inr (.inl h)))
          simp (maxSteps := 4000000) only [Try.results39, XX, Nat.reduceBEq, Nat.reduceLT, Nat.reduceAdd, Nat.reduceMul, Nat.reduceSub, Nat.reduceLeDiff, Nat.reduceEqDiff, Int.reduceToNat, Int.reduceLT, Int.reduceLE, Int.reduceAdd, Int.reduceSub, Int.reduceEq, reduceIte, Nat.reduceBNe, Int.reducePow, Nat.reducePow, Int.reduceMul, Int.reduceNeg, isB_i, isB_b, isB_y, isBv_i, isBv_b, eqCells_t, TT]
          generalize unL [m] 0 F6 h5 = F7 at *
          have l7 := lt_of hg
          have em : (IntKind.i64.wrap ((s2.r : Int) + 1)).tmod (k.rx.length : Int) = (((s1.r + 1) % k.rx.length : Nat) : Int) := by rw [r2]; exact next_mod (by rw [← hrx]; exact os1.r) ok.rx1
          have eb : IntKind.i64.wrap (b + 1) = b + 1 := by rw [w64] <;> omega
          simp (maxSteps := 4000000) only [Try.results39, hg, l7, em, eb, XX, Nat.reduceBEq, Nat.reduceLT, Nat.reduceAdd, Nat.reduceMul, Nat.reduceSub, Nat.reduceLeDiff, Nat.reduceEqDiff, Int.reduceToNat, Int.reduceLT, Int.reduceLE, Int.reduceAdd, Int.reduceSub, Int.reduceEq, reduceIte, Nat.reduceBNe, Int.reducePow, Nat.reducePow, Int.reduceMul, Int.reduceNeg, isB_i, isB_b, isB_y, isBv_i, isBv_b, eqCells_t, TT]
          have hgv := frN_give os1.r hcf
          obtain ⟨q1, q2⟩ := givK_len k1 s1.r
          refine ⟨by have := ok.rx0; omega, (N - (b + 1)).toNat, by omega, _, ⟨b + 1, _, givK k1 s1.r, pollS k1 s1, sc2, es2, done ++ pollO k1 s1, rfl, by omega, by omega, by rw [show (N - (b + 1)).toNat = (N - b).toNat - 1 by omega]; exact hI2, hdn2, FLg.keep (KT.set hg rtyF), Rg.setm hg rnic_tys, givK_ok k1 ok1 _, pollS_ok ok1 os1, by rw [q1]; exact hrx, by omega, ?_, Bg.set (.inr (.inr (.inr rfl))) _, rfl⟩, .inl ⟨rfl, rfl, rfl, rfl, rfl, rfl, rfl, trivial⟩⟩
          rw [List.getElem?_set_self l7, hps, hrx]
      · have hmf : minQ k1 s1 = false := by simpa using hm
        rw [hmf, if_neg (by decide)] at hpo
        rw [hmq] at hmf
        have hd2 : (decide (q.e = 0) && mineB s1.mac q.d q.s) = false := hmf
        simp (maxSteps := 4000000) only [Try.results39, hd2, hn4, l4, XX, Nat.reduceBEq, Nat.reduceLT, Nat.reduceAdd, Nat.reduceMul, Nat.reduceSub, Nat.reduceLeDiff, Nat.reduceEqDiff, Int.reduceToNat, Int.reduceLT, Int.reduceLE, Int.reduceAdd, Int.reduceSub, Int.reduceEq, reduceIte, Nat.reduceBNe, Int.reducePow, Nat.reducePow, Int.reduceMul, Int.reduceNeg, isB_i, isB_b, isB_y, isBv_i, isBv_b, eqCells_t, TT]
        rw [← hmq] at hmf
        obtain ⟨s2, hs2⟩ : ∃ s2 : NS, s2 = { s1 with th := incW s1.th } := ⟨_, rfl⟩
        have hps : pollS k1 s1 = { s2 with r := (s1.r + 1) % k1.rx.length } := by rw [hs2]; unfold pollS; rw [hmf]; rfl
        have hn5 := hn4
        have P5 := P4
        have B5 := B4
        have l6 := l4
        have FL2 := FL
        have hdn2 : es.map FE.f = done ++ pollO k1 s1 := by rw [hdn, hpo, List.append_nil]
        obtain ⟨es2, hes2⟩ : ∃ es2, es2 = es := ⟨_, rfl⟩
        obtain ⟨sc2, hsc2⟩ : ∃ sc2, sc2 = sc := ⟨_, rfl⟩
        rw [← hes2, ← hsc2] at FL2
        rw [← hes2] at hdn2
        rw [← hsc2]
        have hfr2 : es2.length ≤ es.length + 1 := by rw [hes2]; omega
        refine gen_draw (fun F6 => F6[m]? = some (rnicB s2 rc) ∧ RSx S F6 rc rr rt k1 ∧ FrL F6 H.length sc2 es2 ∧ But H F6 (XR5 rc rr rt m)) ⟨by rw [hs2]; exact List.getElem?_set_self l6, P5.setm hn5 rnic_tys, FL2.keep (KT.set hn5 rtyF), B5.set (.inr (.inr (.inr rfl))) _⟩ ?_
        have r2 : s2.r = s1.r := by rw [hs2]
        clear hs2 hn5 P5 FL2 B5 l6 FL hn4 P4 B4 hq4 hb4 mx my hok lx ly mi hqm
        rintro F6 ⟨hn6, P6, FL6, B6⟩
        have l6 := lt_of hn6
        obtain ⟨ox, mx⟩ : ∃ o, (maskL [m] 0 F6)[m]? = some ⟨o, 100, (rnicB s2 rc).cells⟩ := maskL_at hn6
        have hok := kept_cons hn6 rfl kept_nil
        have lx := lt_of mx
        have lM : (maskL [m] 0 F6).length = F6.length := maskL_len _ _ _
        refine draw_of cx_ok (by kernel_rfl) 400 [m] [(0, true), (1, true), (2, true), (3, true), (4, true), (5, true), (6, true), (7, true), (8, false)] (by kernel_rfl) (by first | exact hok | simp [*]) ?_
        simp (maxSteps := 4000000) only [Try.results39, hn6, mx, l6, lx, XX, Nat.reduceBEq, Nat.reduceLT, Nat.reduceAdd, Nat.reduceMul, Nat.reduceSub, Nat.reduceLeDiff, Nat.reduceEqDiff, Int.reduceToNat, Int.reduceLT, Int.reduceLE, Int.reduceAdd, Int.reduceSub, Int.reduceEq, reduceIte, Nat.reduceBNe, Int.reducePow, Nat.reducePow, Int.reduceMul, Int.reduceNeg, isB_i, isB_b, isB_y, isBv_i, isBv_b, eqCells_t, TT]
        rw [r2]
        refine call_is (rgiveA_spec ok1 (P6.maskm (one_L hn6 rnic_tys)) s1.r) ?_
        rintro _ h5 ⟨rfl, R5, B5⟩
        have h5m := (B5.2 m (by rw [lM]; exact l6) nm).trans mx
        have Rg := R5.unLm hn6 h5m
        have B56 := unL_but B5 np
        have hg := (B56.2 m l6 nm).trans hn6
        have FLg := FL6.keep (P6.ktF B56 fun _ h => h)
        have Bg : But H (unL [m] 0 F6 h5) (XR5 rc rr rt m) := B6.trans (B56.wk' fun i h => h.elim .inl fun h => h.elim (fun h => .inr (.inl h)) fun h => .inr (.inr (.inl h)))
        simp (maxSteps := 4000000) only [Try.results39, XX, Nat.reduceBEq, Nat.reduceLT, Nat.reduceAdd, Nat.reduceMul, Nat.reduceSub, Nat.reduceLeDiff, Nat.reduceEqDiff, Int.reduceToNat, Int.reduceLT, Int.reduceLE, Int.reduceAdd, Int.reduceSub, Int.reduceEq, reduceIte, Nat.reduceBNe, Int.reducePow, Nat.reducePow, Int.reduceMul, Int.reduceNeg, isB_i, isB_b, isB_y, isBv_i, isBv_b, eqCells_t, TT]
        generalize unL [m] 0 F6 h5 = F7 at *
        have l7 := lt_of hg
        have em : (IntKind.i64.wrap ((s2.r : Int) + 1)).tmod (k.rx.length : Int) = (((s1.r + 1) % k.rx.length : Nat) : Int) := by rw [r2]; exact next_mod (by rw [← hrx]; exact os1.r) ok.rx1
        have eb : IntKind.i64.wrap (b + 1) = b + 1 := by rw [w64] <;> omega
        simp (maxSteps := 4000000) only [Try.results39, hg, l7, em, eb, XX, Nat.reduceBEq, Nat.reduceLT, Nat.reduceAdd, Nat.reduceMul, Nat.reduceSub, Nat.reduceLeDiff, Nat.reduceEqDiff, Int.reduceToNat, Int.reduceLT, Int.reduceLE, Int.reduceAdd, Int.reduceSub, Int.reduceEq, reduceIte, Nat.reduceBNe, Int.reducePow, Nat.reducePow, Int.reduceMul, Int.reduceNeg, isB_i, isB_b, isB_y, isBv_i, isBv_b, eqCells_t, TT]
        have hgv := frN_give os1.r hcf
        obtain ⟨q1, q2⟩ := givK_len k1 s1.r
        refine ⟨by have := ok.rx0; omega, (N - (b + 1)).toNat, by omega, _, ⟨b + 1, _, givK k1 s1.r, pollS k1 s1, sc2, es2, done ++ pollO k1 s1, rfl, by omega, by omega, by rw [show (N - (b + 1)).toNat = (N - b).toNat - 1 by omega]; exact hI2, hdn2, FLg.keep (KT.set hg rtyF), Rg.setm hg rnic_tys, givK_ok k1 ok1 _, pollS_ok ok1 os1, by rw [q1]; exact hrx, by omega, ?_, Bg.set (.inr (.inr (.inr rfl))) _, rfl⟩, .inl ⟨rfl, rfl, rfl, rfl, rfl, rfl, rfl, trivial⟩⟩
        rw [List.getElem?_set_self l7, hps, hrx]
  · have d1 : decide (b < N) = false := by simpa using hpos
    have hst := hI.stop (.inl (by omega))
    simp (maxSteps := 4000000) only [Try.results39, d1, XX, Nat.reduceBEq, Nat.reduceLT, Nat.reduceAdd, Nat.reduceMul, Nat.reduceSub, Nat.reduceLeDiff, Nat.reduceEqDiff, Int.reduceToNat, Int.reduceLT, Int.reduceLE, Int.reduceAdd, Int.reduceSub, Int.reduceEq, reduceIte, Nat.reduceBNe, Int.reducePow, Nat.reducePow, Int.reduceMul, Int.reduceNeg, isB_i, isB_b, isB_y, isBv_i, isBv_b, eqCells_t, TT]
    rw [hst]
    exact ⟨_, es, rfl, hF, hdn, PF, hn1, bF⟩
end Go.Proofs.Ythbojoiogjdbeaa.Sx
namespace Go.Proofs.Ythbojoiogjdbeaa.Sx
open Go
set_option linter.unusedSimpArgs false
set_option linter.unusedVariables false
theorem Spec.void {P : Program} {f : FuncId} {args : List SV} {h : List SB} {K K' : SV → List SB → Prop} (s : Spec P f args h K) (ty : TypeId)
    (hk : ∀ t h', K t h' → K' t h' ∨ ∃ t3, (∀ ρ y, t.rel ρ y → t3.rel ρ y) ∧ K' t3 (h' ++ [⟨false, ty, []⟩])) : Spec P f args h K' := by
  refine ⟨s.1, fun ρ w vs M hl hr => (s.2 ρ w vs M hl hr).mono ?_⟩
  rintro e w' ⟨y, t, h', ρ', rfl, st, hrel, hK⟩
  rcases hk t h' hK with h1 | ⟨t3, h1, h2⟩
  · exact ⟨y, t, h', ρ', rfl, st, hrel, h1⟩
  have n' := st.models.n
  have ln := st.le.h1
  let ρ2 : Rho := { ρ' with n := ρ'.n + 1, f := fun i => if i = ρ'.n then (w'.heap.size, 0) else ρ'.f i }
  have fe : ∀ i, i < ρ'.n → ρ2.f i = ρ'.f i := fun i hi => if_neg (by omega)
  have le2 : ρ'.le ρ2 := ⟨Nat.le_succ _, fe, rfl, rfl⟩
  have old : ∀ (i : Nat) (b : SB), (h' ++ [(⟨false, ty, []⟩ : SB)])[i]? = some b → (i < ρ'.n ∧ h'[i]? = some b) ∨ (i = ρ'.n ∧ b = ⟨false, ty, []⟩) := fun i b hb => by
    rcases Nat.lt_or_ge i h'.length with hi | hi
    · rw [List.getElem?_append_left hi] at hb
      exact .inl ⟨by omega, hb⟩
    · rw [List.getElem?_append_right hi] at hb
      have : i - h'.length = 0 := by have := (List.getElem?_eq_some_iff.1 hb).1; simpa using this
      rw [this] at hb
      cases hb
      exact .inr ⟨by omega, rfl⟩
  have m := st.models
  have sz : w.heap.size ≤ w'.heap.size := st.ext.size
  have mo : Models (h' ++ [⟨false, ty, []⟩]) ρ2 w' := by
    refine ⟨by show ρ'.n + 1 = _; rw [List.length_append, n']; rfl, fun i b hb ho => ?_, fun i b hb j c hc => ?_, fun i j bi bj hij hi hj ho hv => ?_, fun i b hb hv => ?_, m.zone, fun k i b hz hb ho => ?_⟩
    · rcases old i b hb with ⟨hi, hb'⟩ | ⟨_, rfl⟩
      · obtain ⟨g1, cs, g2, g3⟩ := m.own i b hb' ho
        rw [fe i hi]
        exact ⟨g1, cs, g2, g3.1, fun j c y hc hy => SC.rel_le le2 (g3.2 j c y hc hy)⟩
      · cases ho
    · rcases old i b hb with ⟨hi, hb'⟩ | ⟨_, rfl⟩
      · obtain ⟨y, g1, g2⟩ := m.ro i b hb' j c hc
        exact ⟨y, by unfold Rho.at at g1 ⊢; rw [fe i hi]; exact g1, SC.rel_le le2 g2⟩
      · simp at hc
    · rcases old i bi hi with ⟨hi1, hi2⟩ | ⟨_, rfl⟩
      · rcases old j bj hj with ⟨hj1, hj2⟩ | ⟨_, rfl⟩
        · rw [fe i hi1, fe j hj1]
          exact m.sep i j bi bj hij hi2 hj2 ho hv
        · cases hv
      · cases ho
    · rcases old i b hb with ⟨hi, hb'⟩ | ⟨_, rfl⟩
      · rw [fe i hi]; exact m.lt i b hb' hv
      · cases hv
    · rcases old i b hb with ⟨hi, hb'⟩ | ⟨_, rfl⟩
      · rw [fe i hi]; exact m.zsep k i b hz hb' ho
      · cases ho
  refine ⟨y, t3, _, ρ2, rfl, ⟨⟨by have := st.le.h1; show _ ≤ ρ'.n + 1; omega, fun i hi => (fe i (by omega)).trans (st.le.h2 i hi), st.le.h3, st.le.h4⟩, mo, fun i hi1 hi2 => ?_, st.ext, fun i b hi hb ho => ?_, fun i b hi hb hv => ?_⟩, h1 _ _ (SV.rel_le le2 hrel), h2⟩
  · by_cases hi : i = ρ'.n
    · show w.heap.size ≤ (if i = ρ'.n then (w'.heap.size, 0) else ρ'.f i).1
      rw [if_pos hi]; exact sz
    · rw [fe i (by have : i < ρ'.n + 1 := hi2; omega)]
      exact st.fresh i hi1 (by have : i < ρ'.n + 1 := hi2; omega)
  · rcases old i b hb with ⟨_, hb'⟩ | ⟨_, rfl⟩
    · exact st.flags i b hi hb' ho
    · cases ho
  · rcases old i b hb with ⟨_, hb'⟩ | ⟨_, rfl⟩
    · exact st.nonv i b hi hb' hv
    · cases hv
theorem nil_rel {i o : Nat} {e : Int} {k : IntKind} : ∀ (ρ : Rho) (y : Value), (SV.tup [(false, [.v (.slice none 0 0)]), (false, [.v (.int k e)])]).rel ρ y → (SV.tup [(false, [.sl i o 0 0]), (false, [.v (.int k e)])]).rel ρ y := by
  rintro ρ y ⟨ys, rfl, hl, hr⟩
  refine ⟨ys, rfl, hl, fun j c z hc hz => ?_⟩
  match j, hc with
  | 0, hc =>
    cases hc
    obtain ⟨h1, _⟩ := hr 0 _ z rfl hz
    exact .inl ⟨rfl, rfl, none, h1⟩
  | 1, hc =>
    cases hc
    exact hr 1 _ z rfl hz
end Go.Proofs.Ythbojoiogjdbeaa.Sx
namespace Go.Proofs.Ythbojoiogjdbeaa.Sx
open Go
set_option linter.unusedSimpArgs false
set_option linter.unusedVariables false
set_option maxRecDepth 10000
set_option maxHeartbeats 8000000
theorem gen_hp {xn : XN} {k : List KI} {nm : NB} {tm : List (Nat × SV)} {hp : List SB} {Q : XE → St → Prop} (p : List SB → Prop) (h0 : p hp) (h : ∀ H, p H → xn k ⟨nm, tm, H⟩ Q) : xn k ⟨nm, tm, hp⟩ Q := h hp h0
theorem gen_call {P : Program} {xn : XN} {f : FuncId} {args : List SV} {dst : Option Tmp} {k : List KI} {nm : NB} {tm : List (Nat × SV)} {hp : List SB} {Q : XE → St → Prop} (p : List SB → Prop) (h0 : p hp) (h : ∀ H, p H → CallGoal P xn f args dst k ⟨nm, tm, H⟩ Q) : CallGoal P xn f args dst k ⟨nm, tm, hp⟩ Q := h hp h0
abbrev pair5 (c n rc m bk : Nat) : SB := ⟨true, 60, [.ptr c 0, .ptr n 0, .ptr rc 0, .ptr m 0, .ptr bk 0]⟩
theorem DX.but {S : Nat → Prop} {H H' : List SB} {x : SC} {d : List UInt8} (D : DX S H x d) (K : But H H' (fun _ => False)) : DX S H' x d := D.keep fun i b hi _ => by rw [K.2 i (lt_of hi) fun h => h]; exact hi
theorem But.get {H H' : List SB} {p : Nat → Prop} (K : But H H' p) {i : Nat} {b : SB} (hi : H[i]? = some b) (hp : ¬ p i) : H'[i]? = some b := by rw [K.2 i (lt_of hi) hp]; exact hi
abbrev Nop : Nat → Prop := fun _ => False
theorem But.new {H : List SB} (Y : List SB) : But H (H ++ Y) Nop := (But.rfl' _ _).app _
theorem RSx.new {S : Nat → Prop} {H H' : List SB} {rc rr rt : Nat} {k : CK} (R : RSx S H rc rr rt k) (K : But H H' Nop) : RSx S H' rc rr rt k := R.but K fun _ _ _ h => h.elim
theorem PC.new {H H' : List SB} {c w1 w2 : Nat} {k : CK} (P : PC H c w1 w2 k) (K : But H H' Nop) : PC H' c w1 w2 k := P.but K ⟨fun h => h, fun h => h, fun h => h⟩
theorem cnt_spec {H : List SB} {c w1 w2 : Nat} {k : CK} (P : PC H c w1 w2 k) : Spec cx.P 48 [.c (.ptr c 0)] H fun t h' => t = .agg [i64 k.cin, i64 k.cdr, i64 k.cout] ∧ h' = H := by
  refine (P.spec (bs := []) (counts_spec k) (fun t h' ⟨h1, h2⟩ => by subst h1 h2; exact ⟨rfl, card_noRo _⟩) trivial).mono ?_
  rintro _ _ ⟨_, _, ⟨rfl, rfl⟩, rfl, rfl⟩
  rw [plug3', setC_same P]
  exact ⟨rfl, rfl⟩
theorem alike_spec {S : Nat → Prop} {H : List SB} (hS : ∀ i, S i → i < H.length) {p c w1 w2 n rc rr rt m bk : Nat} {k : CK} {s : NS} (ok : k.ok) (P : PC H c w1 w2 k) (R : RSx S H rc rr rt k) (hn : H[n]? = some (nicB s c)) (hm : H[m]? = some (rnicB s rc)) (hp : H[p]? = some (pair5 c n rc m bk)) :
    Spec cx.P 19 [.c (.ptr p 0)] H fun t h' => t = .c (bC true) ∧ But H h' Nop := by
  have lp := lt_of hp
  obtain ⟨lr0, lt0, cr0, ct0, RR, _, _⟩ := id R
  refine spec_of_X cx_ok Try.func19 rfl (by kernel_rfl) (by kernel_rfl) (Nat.le_of_ble_eq_true rfl) 400 19 ?_
  simp (maxSteps := 4000000) only [Try.results19, XX, Nat.reduceBEq, Nat.reduceLT, Nat.reduceAdd, Nat.reduceMul, Nat.reduceSub, Nat.reduceLeDiff, Nat.reduceEqDiff, Int.reduceToNat, Int.reduceLT, Int.reduceLE, Int.reduceAdd, Int.reduceSub, Int.reduceEq, reduceIte, Nat.reduceBNe, Int.reducePow, Nat.reducePow, Int.reduceMul, Int.reduceNeg, isB_i, isB_b, isB_y, isBv_i, isBv_b, eqCells_t, TT]
  simp (maxSteps := 4000000) only [Try.results19, hp, lp, XX, Nat.reduceBEq, Nat.reduceLT, Nat.reduceAdd, Nat.reduceMul, Nat.reduceSub, Nat.reduceLeDiff, Nat.reduceEqDiff, Int.reduceToNat, Int.reduceLT, Int.reduceLE, Int.reduceAdd, Int.reduceSub, Int.reduceEq, reduceIte, Nat.reduceBNe, Int.reducePow, Nat.reducePow, Int.reduceMul, Int.reduceNeg, isB_i, isB_b, isB_y, isBv_i, isBv_b, eqCells_t, TT]
  refine call_is (rrings_spec RR) ?_
  rintro _ M2 ⟨rfl, hM⟩
  rw [hM]
  clear hM M2 RR
  simp (maxSteps := 4000000) only [Try.results19, XX, Nat.reduceBEq, Nat.reduceLT, Nat.reduceAdd, Nat.reduceMul, Nat.reduceSub, Nat.reduceLeDiff, Nat.reduceEqDiff, Int.reduceToNat, Int.reduceLT, Int.reduceLE, Int.reduceAdd, Int.reduceSub, Int.reduceEq, reduceIte, Nat.reduceBNe, Int.reducePow, Nat.reducePow, Int.reduceMul, Int.reduceNeg, isB_i, isB_b, isB_y, isBv_i, isBv_b, eqCells_t, TT]
  refine loop_any cx_ok 400 (fun μ σ => ∃ (i : Nat) (G : List SB), μ = k.rx.length + k.tx.length - i ∧ i ≤ k.rx.length + k.tx.length ∧ But H G Nop ∧
      σ = ⟨⟨19, H.length⟩, [(0, .c (.ptr p 0)), (3, .c (i64 k.rx.length)), (4, .c (i64 k.tx.length)), (5, .c (i64 i))], G⟩) (k.rx.length + k.tx.length)
    ⟨⟨19, H.length⟩, [(0, .c (.ptr p 0)), (3, .c (i64 k.rx.length)), (4, .c (i64 k.tx.length)), (5, .c (i64 (0 : Nat)))], H⟩ ⟨0, H, rfl, Nat.zero_le _, But.rfl' _ _, rfl⟩ (.inl ⟨rfl, rfl, rfl, rfl, rfl, rfl, trivial⟩) ?_
  rintro μ σ ⟨i, G, rfl, hi, BG, rfl⟩
  have gp := BG.get hp (fun h => h)
  have lgp := lt_of gp
  have hSG : ∀ i, S i → i < G.length := fun i h => by have := hS i h; have := BG.1; omega
  by_cases hlt : i < k.rx.length ∨ i < k.tx.length
  · have d0 : (decide ((i : Int) < (k.rx.length : Int)) || decide ((i : Int) < (k.tx.length : Int))) = true := by simp only [Bool.or_eq_true, decide_eq_true_eq]; omega
    have rx1 := ok.rx1
    have tx1 := ok.tx1
    have e1 : IntKind.i64.wrap ((i : Int) + 1) = ((i + 1 : Nat) : Int) := by rw [w64] <;> omega
    simp (maxSteps := 4000000) only [Try.results19, d0, gp, lgp, XX, Nat.reduceBEq, Nat.reduceLT, Nat.reduceAdd, Nat.reduceMul, Nat.reduceSub, Nat.reduceLeDiff, Nat.reduceEqDiff, Int.reduceToNat, Int.reduceLT, Int.reduceLE, Int.reduceAdd, Int.reduceSub, Int.reduceEq, reduceIte, Nat.reduceBNe, Int.reducePow, Nat.reducePow, Int.reduceMul, Int.reduceNeg, isB_i, isB_b, isB_y, isBv_i, isBv_b, eqCells_t, TT]
    refine call_is ((P.new BG).rx ok i) ?_
    rintro _ h1 ⟨oa, rfl, hh1, hoa⟩
    obtain ⟨da, hda⟩ : ∃ da, da = seeD k.rx i := ⟨_, rfl⟩
    obtain ⟨sa, hsa⟩ : ∃ sa, sa = seeS k.rx i := ⟨_, rfl⟩
    rw [← hda, ← hsa]
    rw [← hda] at hh1 hoa
    have B1 : But H h1 Nop := by rw [hh1]; exact BG.app _
    have wa : h1[G.length]? = some (wB oa da) := by rw [hh1]; exact app_self
    clear hh1
    generalize G.length = ia at *
    have hp1 := B1.get hp (fun h => h)
    simp (maxSteps := 4000000) only [Try.results19, append_at, append_set, append_len1, Nat.lt_add_one, List.getElem?_append_left (lt_of hp1), hp1, lt_of hp1, Nat.lt_succ_of_lt (lt_of hp1), XX, Nat.reduceBEq, Nat.reduceLT, Nat.reduceAdd, Nat.reduceMul, Nat.reduceSub, Nat.reduceLeDiff, Nat.reduceEqDiff, Int.reduceToNat, Int.reduceLT, Int.reduceLE, Int.reduceAdd, Int.reduceSub, Int.reduceEq, reduceIte, Nat.reduceBNe, Int.reducePow, Nat.reducePow, Int.reduceMul, Int.reduceNeg, isB_i, isB_b, isB_y, isBv_i, isBv_b, eqCells_t, TT]
    obtain ⟨d6, hd6⟩ : ∃ d6, d6 = h1.length := ⟨_, rfl⟩
    rw [← hd6]
    refine gen_call (fun F => But H F Nop ∧ F[ia]? = some (wB oa da) ∧ F[d6]? = some (deB sa (.sl ia 0 da.length da.length))) ⟨B1.app _, (List.getElem?_append_left (lt_of wa)).trans wa, by rw [hd6]; exact app_self⟩ ?_
    clear hd6 hp1 B1 wa gp lgp
    rintro F1 ⟨B1, wa, w6⟩
    have hSF : ∀ i, S i → i < F1.length := fun i h => by have := hS i h; have := B1.1; omega
    refine call_is (rrxA_spec hSF ok (R.new B1) i) ?_
    rintro _ h2 ⟨ya, rfl, Da, _, B2⟩
    rw [← hda] at Da
    rw [← hsa]
    have wa2 := B2.get wa (fun h => h)
    have w62 := B2.get w6 (fun h => h)
    have B02 : But H h2 Nop := B1.trans B2
    have hp2 := B02.get hp (fun h => h)
    clear wa w6 B1 B2 hSF
    simp (maxSteps := 4000000) only [Try.results19, append_at, append_set, append_len1, Nat.lt_add_one, List.getElem?_append_left (lt_of hp2), hp2, lt_of hp2, Nat.lt_succ_of_lt (lt_of hp2), XX, Nat.reduceBEq, Nat.reduceLT, Nat.reduceAdd, Nat.reduceMul, Nat.reduceSub, Nat.reduceLeDiff, Nat.reduceEqDiff, Int.reduceToNat, Int.reduceLT, Int.reduceLE, Int.reduceAdd, Int.reduceSub, Int.reduceEq, reduceIte, Nat.reduceBNe, Int.reducePow, Nat.reducePow, Int.reduceMul, Int.reduceNeg, isB_i, isB_b, isB_y, isBv_i, isBv_b, eqCells_t, TT]
    obtain ⟨d8, hd8⟩ : ∃ d8, d8 = h2.length := ⟨_, rfl⟩
    rw [← hd8]
    refine gen_call (fun F => But H F Nop ∧ F[ia]? = some (wB oa da) ∧ F[d6]? = some (deB sa (.sl ia 0 da.length da.length)) ∧ F[d8]? = some (deB sa ya) ∧ DX S F ya da) ⟨B02.app _, (List.getElem?_append_left (lt_of wa2)).trans wa2, (List.getElem?_append_left (lt_of w62)).trans w62, by rw [hd8]; exact app_self, Da.app _⟩ ?_
    clear hd8 hp2 B02 wa2 w62 Da
    rintro F2 ⟨B2, wa, w6, w8, Da⟩
    refine call_is ((P.new B2).tx ok i) ?_
    rintro _ h3 ⟨ob, rfl, hh3, hob⟩
    obtain ⟨db, hdb⟩ : ∃ db, db = seeD k.tx i := ⟨_, rfl⟩
    obtain ⟨sb, hsb⟩ : ∃ sb, sb = seeS k.tx i := ⟨_, rfl⟩
    rw [← hdb, ← hsb]
    rw [← hdb] at hh3 hob
    have B3 : But F2 h3 Nop := by rw [hh3]; exact But.new _
    have wb : h3[F2.length]? = some (wB ob db) := by rw [hh3]; exact app_self
    clear hh3
    generalize F2.length = ib at *
    have wa3 := B3.get wa (fun h => h)
    have w63 := B3.get w6 (fun h => h)
    have w83 := B3.get w8 (fun h => h)
    have Da3 := Da.but B3
    have B03 : But H h3 Nop := B2.trans B3
    have hp3 := B03.get hp (fun h => h)
    clear wa w6 w8 Da B2 B3
    simp (maxSteps := 4000000) only [Try.results19, append_at, append_set, append_len1, Nat.lt_add_one, List.getElem?_append_left (lt_of hp3), hp3, lt_of hp3, Nat.lt_succ_of_lt (lt_of hp3), XX, Nat.reduceBEq, Nat.reduceLT, Nat.reduceAdd, Nat.reduceMul, Nat.reduceSub, Nat.reduceLeDiff, Nat.reduceEqDiff, Int.reduceToNat, Int.reduceLT, Int.reduceLE, Int.reduceAdd, Int.reduceSub, Int.reduceEq, reduceIte, Nat.reduceBNe, Int.reducePow, Nat.reducePow, Int.reduceMul, Int.reduceNeg, isB_i, isB_b, isB_y, isBv_i, isBv_b, eqCells_t, TT]
    obtain ⟨d10, hd10⟩ : ∃ d10, d10 = h3.length := ⟨_, rfl⟩
    rw [← hd10]
    refine gen_call (fun F => But H F Nop ∧ F[ia]? = some (wB oa da) ∧ F[d6]? = some (deB sa (.sl ia 0 da.length da.length)) ∧ F[d8]? = some (deB sa ya) ∧ DX S F ya da ∧ F[ib]? = some (wB ob db) ∧ F[d10]? = some (deB sb (.sl ib 0 db.length db.length))) ⟨B03.app _, (List.getElem?_append_left (lt_of wa3)).trans wa3, (List.getElem?_append_left (lt_of w63)).trans w63, (List.getElem?_append_left (lt_of w83)).trans w83, Da3.app _, (List.getElem?_append_left (lt_of wb)).trans wb, by rw [hd10]; exact app_self⟩ ?_
    clear hd10 hp3 B03 wa3 w63 w83 Da3 wb
    rintro F3 ⟨B3, wa, w6, w8, Da, wb, w10⟩
    have hSF : ∀ i, S i → i < F3.length := fun i h => by have := hS i h; have := B3.1; omega
    refine call_is (rtxA_spec hSF ok (R.new B3) i) ?_
    rintro _ h4 ⟨yb, rfl, Db, _, B4⟩
    rw [← hdb] at Db
    rw [← hsb]
    have wa4 := B4.get wa (fun h => h)
    have w64 := B4.get w6 (fun h => h)
    have w84 := B4.get w8 (fun h => h)
    have wb4 := B4.get wb (fun h => h)
    have w104 := B4.get w10 (fun h => h)
    have Da4 := Da.but B4
    have B04 : But H h4 Nop := B3.trans B4
    clear wa w6 w8 Da wb w10 B3 B4 hSF hda hdb hsa hsb
    have tk : ∀ a b : List UInt8, (bsC (a ++ b)).take a.length = bsC a := fun a b => by rw [bs_take, List.take_left' rfl]
    have tk0 : ∀ a : List UInt8, (bsC a).take a.length = bsC a := fun a => by rw [bs_take, List.take_length]
    have dsa : decide (sa = sa) = true := by simp
    have dsb : decide (sb = sb) = true := by simp
    simp (maxSteps := 4000000) only [Try.results19, append_at, append_set, append_len1, Nat.lt_add_one, XX, Nat.reduceBEq, Nat.reduceLT, Nat.reduceAdd, Nat.reduceMul, Nat.reduceSub, Nat.reduceLeDiff, Nat.reduceEqDiff, Int.reduceToNat, Int.reduceLT, Int.reduceLE, Int.reduceAdd, Int.reduceSub, Int.reduceEq, reduceIte, Nat.reduceBNe, Int.reducePow, Nat.reducePow, Int.reduceMul, Int.reduceNeg, isB_i, isB_b, isB_y, isBv_i, isBv_b, eqCells_t, TT]
    have Da5 := Da4.app [deB sb yb]
    have Db5 := Db.app [deB sb yb]
    have B5 : But H (h4 ++ [deB sb yb]) Nop := B04.app _
    have wa5 := (List.getElem?_append_left (l₂ := [deB sb yb]) (lt_of wa4)).trans wa4
    have w65 := (List.getElem?_append_left (l₂ := [deB sb yb]) (lt_of w64)).trans w64
    have w85 := (List.getElem?_append_left (l₂ := [deB sb yb]) (lt_of w84)).trans w84
    have wb5 := (List.getElem?_append_left (l₂ := [deB sb yb]) (lt_of wb4)).trans wb4
    have w105 := (List.getElem?_append_left (l₂ := [deB sb yb]) (lt_of w104)).trans w104
    have w125 : (h4 ++ [deB sb yb])[h4.length]? = some (deB sb yb) := app_self
    obtain ⟨d12, hd12⟩ : ∃ d12, d12 = h4.length := ⟨_, rfl⟩
    obtain ⟨F, hF⟩ : ∃ F, F = h4 ++ [({ own := true, ty := 85, cells := [bC sb, yb] } : SB)] := ⟨_, rfl⟩
    rw [← hF] at Da5 Db5 B5 wa5 w65 w85 wb5 w105 w125 ⊢
    rw [← hd12] at w125 ⊢
    clear wa4 w64 w84 wb4 w104 Da4 B04 Db hF hd12
    have wa := wa5
    have w6 := w65
    have w8 := w85
    have wb := wb5
    have w10 := w105
    have w12 := w125
    have Da := Da5
    have Db := Db5
    clear wa5 w65 w85 wb5 w105 w125 Da5 Db5
    have la := lt_of wa
    have l6 := lt_of w6
    have l8 := lt_of w8
    have lb := lt_of wb
    have l10 := lt_of w10
    have l12 := lt_of w12
    have q : ∀ a b : List UInt8, a.length ≤ (bsC (a ++ b)).length ∧ ∀ c ∈ bsC a, isByte c = true := fun a b => ⟨by simp, isByte_bsC a⟩
    have q0 : ∀ a : List UInt8, a.length ≤ (bsC a).length ∧ ∀ c ∈ bsC a, isByte c = true := fun a => ⟨by simp, isByte_bsC a⟩
    have em : (.string ByteArray.empty : Value) = .string ⟨([] : List UInt8).toArray⟩ := rfl
    have s0 : strOf ([] : List SC) = ⟨([] : List UInt8).toArray⟩ := rfl
    have ee : decide (([] : List UInt8) = []) = true := rfl
    rcases Da with ⟨rfl, rfl⟩ | ⟨u, z, o, rfl, hu, _, _⟩ <;> rcases Db with ⟨rfl, rfl⟩ | ⟨u', z', o', rfl, hu', _, _⟩
    · simp (maxSteps := 4000000) only [Try.results19, wa, w6, w8, wb, w10, w12, la, l6, l8, lb, l10, l12, tk, tk0, dsa, dsb, s0, strOf_bsC, str_eq, em, ee, e1, List.length_nil, List.map_nil, List.take_nil, XX, Nat.reduceBEq, Nat.reduceLT, Nat.reduceAdd, Nat.reduceMul, Nat.reduceSub, Nat.reduceLeDiff, Nat.reduceEqDiff, Int.reduceToNat, Int.reduceLT, Int.reduceLE, Int.reduceAdd, Int.reduceSub, Int.reduceEq, reduceIte, Nat.reduceBNe, Int.reducePow, Nat.reducePow, Int.reduceMul, Int.reduceNeg, isB_i, isB_b, isB_y, isBv_i, isBv_b, eqCells_t, TT]
      exact ⟨(fun _ h => nomatch h), (fun _ h => nomatch h), k.rx.length + k.tx.length - (i + 1), by omega, _, ⟨i + 1, F, rfl, by omega, B5, rfl⟩, .inl ⟨rfl, rfl, rfl, rfl, rfl, rfl, trivial⟩⟩
    · have lu' := lt_of hu'
      simp (maxSteps := 4000000) only [Try.results19, wa, w6, w8, wb, w10, w12, la, l6, l8, lb, l10, l12, hu', lu', tk, tk0, dsa, dsb, s0, strOf_bsC, str_eq, em, ee, e1, List.length_nil, List.map_nil, List.take_nil, XX, Nat.reduceBEq, Nat.reduceLT, Nat.reduceAdd, Nat.reduceMul, Nat.reduceSub, Nat.reduceLeDiff, Nat.reduceEqDiff, Int.reduceToNat, Int.reduceLT, Int.reduceLE, Int.reduceAdd, Int.reduceSub, Int.reduceEq, reduceIte, Nat.reduceBNe, Int.reducePow, Nat.reducePow, Int.reduceMul, Int.reduceNeg, isB_i, isB_b, isB_y, isBv_i, isBv_b, eqCells_t, TT]
      exact ⟨(fun _ h => nomatch h), q0 _, q _ _, k.rx.length + k.tx.length - (i + 1), by omega, _, ⟨i + 1, F, rfl, by omega, B5, rfl⟩, .inl ⟨rfl, rfl, rfl, rfl, rfl, rfl, trivial⟩⟩
    · have lu := lt_of hu
      simp (maxSteps := 4000000) only [Try.results19, wa, w6, w8, wb, w10, w12, la, l6, l8, lb, l10, l12, hu, lu, tk, tk0, dsa, dsb, s0, strOf_bsC, str_eq, em, ee, e1, List.length_nil, List.map_nil, List.take_nil, XX, Nat.reduceBEq, Nat.reduceLT, Nat.reduceAdd, Nat.reduceMul, Nat.reduceSub, Nat.reduceLeDiff, Nat.reduceEqDiff, Int.reduceToNat, Int.reduceLT, Int.reduceLE, Int.reduceAdd, Int.reduceSub, Int.reduceEq, reduceIte, Nat.reduceBNe, Int.reducePow, Nat.reducePow, Int.reduceMul, Int.reduceNeg, isB_i, isB_b, isB_y, isBv_i, isBv_b, eqCells_t, TT]
      exact ⟨q0 _, q _ _, (fun _ h => nomatch h), k.rx.length + k.tx.length - (i + 1), by omega, _, ⟨i + 1, F, rfl, by omega, B5, rfl⟩, .inl ⟨rfl, rfl, rfl, rfl, rfl, rfl, trivial⟩⟩
    · have lu := lt_of hu
      have lu' := lt_of hu'
      simp (maxSteps := 4000000) only [Try.results19, wa, w6, w8, wb, w10, w12, la, l6, l8, lb, l10, l12, hu, hu', lu, lu', tk, tk0, dsa, dsb, strOf_bsC, str_eq, em, e1, XX, Nat.reduceBEq, Nat.reduceLT, Nat.reduceAdd, Nat.reduceMul, Nat.reduceSub, Nat.reduceLeDiff, Nat.reduceEqDiff, Int.reduceToNat, Int.reduceLT, Int.reduceLE, Int.reduceAdd, Int.reduceSub, Int.reduceEq, reduceIte, Nat.reduceBNe, Int.reducePow, Nat.reducePow, Int.reduceMul, Int.reduceNeg, isB_i, isB_b, isB_y, isBv_i, isBv_b, eqCells_t, TT]
      exact ⟨q0 _, q _ _, q0 _, q _ _, k.rx.length + k.tx.length - (i + 1), by omega, _, ⟨i + 1, F, rfl, by omega, B5, rfl⟩, .inl ⟨rfl, rfl, rfl, rfl, rfl, rfl, trivial⟩⟩
  · have d0 : (decide ((i : Int) < (k.rx.length : Int)) || decide ((i : Int) < (k.tx.length : Int))) = false := by simp only [Bool.or_eq_false_iff, decide_eq_false_iff_not]; omega
    have gn := BG.get hn (fun h => h)
    have gm := BG.get hm (fun h => h)
    simp (maxSteps := 4000000) only [Try.results19, d0, gp, lgp, XX, Nat.reduceBEq, Nat.reduceLT, Nat.reduceAdd, Nat.reduceMul, Nat.reduceSub, Nat.reduceLeDiff, Nat.reduceEqDiff, Int.reduceToNat, Int.reduceLT, Int.reduceLE, Int.reduceAdd, Int.reduceSub, Int.reduceEq, reduceIte, Nat.reduceBNe, Int.reducePow, Nat.reducePow, Int.reduceMul, Int.reduceNeg, isB_i, isB_b, isB_y, isBv_i, isBv_b, eqCells_t, TT]
    refine call_is (own_spec gn) ?_
    rintro _ h1 ⟨rfl, x1, hx1⟩
    have B1 : But H h1 Nop := by rw [hx1]; exact BG.app _
    clear hx1
    have hp1 := B1.get hp (fun h => h)
    simp (maxSteps := 4000000) only [Try.results19, append_at, append_set, append_len1, Nat.lt_add_one, List.getElem?_append_left (lt_of hp1), hp1, lt_of hp1, Nat.lt_succ_of_lt (lt_of hp1), XX, Nat.reduceBEq, Nat.reduceLT, Nat.reduceAdd, Nat.reduceMul, Nat.reduceSub, Nat.reduceLeDiff, Nat.reduceEqDiff, Int.reduceToNat, Int.reduceLT, Int.reduceLE, Int.reduceAdd, Int.reduceSub, Int.reduceEq, reduceIte, Nat.reduceBNe, Int.reducePow, Nat.reducePow, Int.reduceMul, Int.reduceNeg, isB_i, isB_b, isB_y, isBv_i, isBv_b, eqCells_t, TT]
    obtain ⟨d14, hd14⟩ : ∃ d14, d14 = h1.length := ⟨_, rfl⟩
    rw [← hd14]
    refine gen_call (fun F => But H F Nop ∧ F[d14]? = some ⟨true, 24, macC s.mac⟩) ⟨B1.app _, by rw [hd14]; exact app_self⟩ ?_
    clear hd14 hp1 B1 gn gm gp lgp
    rintro F1 ⟨B1, w14⟩
    refine call_is (stats_spec (B1.get hn (fun h => h))) ?_
    rintro _ h2 ⟨rfl, x2, hx2⟩
    have B12 : But F1 h2 Nop := by rw [hx2]; exact But.new _
    clear hx2
    have w14' := B12.get w14 (fun h => h)
    have B2 : But H h2 Nop := B1.trans B12
    have hp2 := B2.get hp (fun h => h)
    clear w14 B12 B1
    simp (maxSteps := 4000000) only [Try.results19, append_at, append_set, append_len1, Nat.lt_add_one, List.getElem?_append_left (lt_of hp2), hp2, lt_of hp2, Nat.lt_succ_of_lt (lt_of hp2), XX, Nat.reduceBEq, Nat.reduceLT, Nat.reduceAdd, Nat.reduceMul, Nat.reduceSub, Nat.reduceLeDiff, Nat.reduceEqDiff, Int.reduceToNat, Int.reduceLT, Int.reduceLE, Int.reduceAdd, Int.reduceSub, Int.reduceEq, reduceIte, Nat.reduceBNe, Int.reducePow, Nat.reducePow, Int.reduceMul, Int.reduceNeg, isB_i, isB_b, isB_y, isBv_i, isBv_b, eqCells_t, TT]
    obtain ⟨d15, hd15⟩ : ∃ d15, d15 = h2.length := ⟨_, rfl⟩
    rw [← hd15]
    refine gen_call (fun F => But H F Nop ∧ F[d14]? = some ⟨true, 24, macC s.mac⟩ ∧ F[d15]? = some ⟨true, 65, [i64 s.tk, i64 s.th, i64 s.se, i64 s.rf]⟩) ⟨B2.app _, (List.getElem?_append_left (lt_of w14')).trans w14', by rw [hd15]; exact app_self⟩ ?_
    clear hd15 hp2 B2 w14'
    rintro F2 ⟨B2, w14, w15⟩
    refine call_is (rstats_spec (B2.get hm (fun h => h))) ?_
    rintro _ h3 ⟨rfl, x3, hx3⟩
    have B23 : But F2 h3 Nop := by rw [hx3]; exact But.new _
    clear hx3
    have w14' := B23.get w14 (fun h => h)
    have w15' := B23.get w15 (fun h => h)
    have B3 : But H h3 Nop := B2.trans B23
    have hp3 := B3.get hp (fun h => h)
    clear w14 w15 B23 B2
    simp (maxSteps := 4000000) only [Try.results19, append_at, append_set, append_len1, Nat.lt_add_one, List.getElem?_append_left (lt_of hp3), hp3, lt_of hp3, Nat.lt_succ_of_lt (lt_of hp3), XX, Nat.reduceBEq, Nat.reduceLT, Nat.reduceAdd, Nat.reduceMul, Nat.reduceSub, Nat.reduceLeDiff, Nat.reduceEqDiff, Int.reduceToNat, Int.reduceLT, Int.reduceLE, Int.reduceAdd, Int.reduceSub, Int.reduceEq, reduceIte, Nat.reduceBNe, Int.reducePow, Nat.reducePow, Int.reduceMul, Int.reduceNeg, isB_i, isB_b, isB_y, isBv_i, isBv_b, eqCells_t, TT]
    obtain ⟨d16, hd16⟩ : ∃ d16, d16 = h3.length := ⟨_, rfl⟩
    rw [← hd16]
    refine gen_call (fun F => But H F Nop ∧ F[d14]? = some ⟨true, 24, macC s.mac⟩ ∧ F[d15]? = some ⟨true, 65, [i64 s.tk, i64 s.th, i64 s.se, i64 s.rf]⟩ ∧ F[d16]? = some ⟨true, 65, [i64 s.tk, i64 s.th, i64 s.se, i64 s.rf]⟩) ⟨B3.app _, (List.getElem?_append_left (lt_of w14')).trans w14', (List.getElem?_append_left (lt_of w15')).trans w15', by rw [hd16]; exact app_self⟩ ?_
    clear hd16 hp3 B3 w14' w15'
    rintro F3 ⟨B3, w14, w15, w16⟩
    refine call_is (cnt_spec (P.new B3)) ?_
    rintro _ h4 ⟨rfl, hh4⟩
    rw [hh4]
    clear hh4 h4
    have hp4 := B3.get hp (fun h => h)
    simp (maxSteps := 4000000) only [Try.results19, append_at, append_set, append_len1, Nat.lt_add_one, List.getElem?_append_left (lt_of hp4), hp4, lt_of hp4, Nat.lt_succ_of_lt (lt_of hp4), XX, Nat.reduceBEq, Nat.reduceLT, Nat.reduceAdd, Nat.reduceMul, Nat.reduceSub, Nat.reduceLeDiff, Nat.reduceEqDiff, Int.reduceToNat, Int.reduceLT, Int.reduceLE, Int.reduceAdd, Int.reduceSub, Int.reduceEq, reduceIte, Nat.reduceBNe, Int.reducePow, Nat.reducePow, Int.reduceMul, Int.reduceNeg, isB_i, isB_b, isB_y, isBv_i, isBv_b, eqCells_t, TT]
    obtain ⟨d17, hd17⟩ : ∃ d17, d17 = F3.length := ⟨_, rfl⟩
    rw [← hd17]
    refine gen_call (fun F => But H F Nop ∧ F[d14]? = some ⟨true, 24, macC s.mac⟩ ∧ F[d15]? = some ⟨true, 65, [i64 s.tk, i64 s.th, i64 s.se, i64 s.rf]⟩ ∧ F[d16]? = some ⟨true, 65, [i64 s.tk, i64 s.th, i64 s.se, i64 s.rf]⟩ ∧ F[d17]? = some ⟨true, 71, [i64 k.cin, i64 k.cdr, i64 k.cout]⟩) ⟨B3.app _, (List.getElem?_append_left (lt_of w14)).trans w14, (List.getElem?_append_left (lt_of w15)).trans w15, (List.getElem?_append_left (lt_of w16)).trans w16, by rw [hd17]; exact app_self⟩ ?_
    clear hd17 hp4 B3 w14 w15 w16
    rintro F4 ⟨B4, w14, w15, w16, w17⟩
    obtain ⟨lr0, lt0, cr0, ct0, RR, _, _⟩ := id (R.new B4)
    refine call_is (rcounts_spec RR) ?_
    rintro _ h5 ⟨rfl, x5, hx5⟩
    have B45 : But F4 h5 Nop := by rw [hx5]; exact But.new _
    clear hx5
    have y14 := B45.get w14 (fun h => h)
    have y15 := B45.get w15 (fun h => h)
    have y16 := B45.get w16 (fun h => h)
    have y17 := B45.get w17 (fun h => h)
    have B5 : But H h5 Nop := B4.trans B45
    clear w14 w15 w16 w17 B45 B4 RR
    simp (maxSteps := 4000000) only [Try.results19, append_at, append_set, append_len1, Nat.lt_add_one, XX, Nat.reduceBEq, Nat.reduceLT, Nat.reduceAdd, Nat.reduceMul, Nat.reduceSub, Nat.reduceLeDiff, Nat.reduceEqDiff, Int.reduceToNat, Int.reduceLT, Int.reduceLE, Int.reduceAdd, Int.reduceSub, Int.reduceEq, reduceIte, Nat.reduceBNe, Int.reducePow, Nat.reducePow, Int.reduceMul, Int.reduceNeg, isB_i, isB_b, isB_y, isBv_i, isBv_b, eqCells_t, TT]
    obtain ⟨d18, hd18⟩ : ∃ d18, d18 = h5.length := ⟨_, rfl⟩
    rw [← hd18]
    refine gen_draw (fun F => But H F Nop ∧ F[d14]? = some ⟨true, 24, macC s.mac⟩ ∧ F[d15]? = some ⟨true, 65, [i64 s.tk, i64 s.th, i64 s.se, i64 s.rf]⟩ ∧ F[d16]? = some ⟨true, 65, [i64 s.tk, i64 s.th, i64 s.se, i64 s.rf]⟩ ∧ F[d17]? = some ⟨true, 71, [i64 k.cin, i64 k.cdr, i64 k.cout]⟩ ∧ F[d18]? = some ⟨true, 71, [i64 k.cin, i64 k.cdr, i64 k.cout]⟩) ⟨B5.app _, (List.getElem?_append_left (lt_of y14)).trans y14, (List.getElem?_append_left (lt_of y15)).trans y15, (List.getElem?_append_left (lt_of y16)).trans y16, (List.getElem?_append_left (lt_of y17)).trans y17, by rw [hd18]; exact app_self⟩ ?_
    clear hd18 B5 y14 y15 y16 y17
    rintro F5 ⟨B5, w14, w15, w16, w17, w18⟩
    have hp5 := B5.get hp (fun h => h)
    have hm5 := B5.get hm (fun h => h)
    have l14 := lt_of w14
    have l15 := lt_of w15
    have l16 := lt_of w16
    have l17 := lt_of w17
    have l18 := lt_of w18
    have lp5 := lt_of hp5
    have lm5 := lt_of hm5
    have em := eqM s.mac s.mac
    have dm : decide (s.mac = s.mac) = true := by simp
    have hok := kept_cons hp5 rfl (kept_cons hm5 rfl (kept_cons w14 rfl (kept_cons w15 rfl (kept_cons w16 rfl (kept_cons w17 rfl (kept_cons w18 rfl kept_nil))))))
    obtain ⟨o1, m1⟩ : ∃ o, (maskL [p, m, d14, d15, d16, d17, d18] 0 F5)[p]? = some ⟨o, 60, (pair5 c n rc m bk).cells⟩ := maskL_at hp5
    obtain ⟨o2, m2⟩ : ∃ o, (maskL [p, m, d14, d15, d16, d17, d18] 0 F5)[m]? = some ⟨o, 100, (rnicB s rc).cells⟩ := maskL_at hm5
    obtain ⟨o3, m3⟩ : ∃ o, (maskL [p, m, d14, d15, d16, d17, d18] 0 F5)[d14]? = some ⟨o, 24, macC s.mac⟩ := maskL_at w14
    obtain ⟨o4, m4⟩ : ∃ o, (maskL [p, m, d14, d15, d16, d17, d18] 0 F5)[d15]? = some ⟨o, 65, [i64 s.tk, i64 s.th, i64 s.se, i64 s.rf]⟩ := maskL_at w15
    obtain ⟨o5, m5⟩ : ∃ o, (maskL [p, m, d14, d15, d16, d17, d18] 0 F5)[d16]? = some ⟨o, 65, [i64 s.tk, i64 s.th, i64 s.se, i64 s.rf]⟩ := maskL_at w16
    obtain ⟨o6, m6⟩ : ∃ o, (maskL [p, m, d14, d15, d16, d17, d18] 0 F5)[d17]? = some ⟨o, 71, [i64 k.cin, i64 k.cdr, i64 k.cout]⟩ := maskL_at w17
    obtain ⟨o7, m7⟩ : ∃ o, (maskL [p, m, d14, d15, d16, d17, d18] 0 F5)[d18]? = some ⟨o, 71, [i64 k.cin, i64 k.cdr, i64 k.cout]⟩ := maskL_at w18
    refine draw_of cx_ok (by kernel_rfl) 400 [p, m, d14, d15, d16, d17, d18] [(0, true), (1, true), (2, true), (3, true), (4, true), (5, true), (6, true), (7, true), (8, true), (9, true), (10, true), (11, true), (12, true), (13, true), (14, true), (15, true), (16, true), (17, true), (18, true), (19, true)] (by kernel_rfl) (by first | exact hok | simp [*]) ?_
    simp (maxSteps := 4000000) only [Try.results19, hp5, hm5, w14, w15, w16, w17, w18, l14, l15, l16, l17, l18, lp5, lm5, m1, m2, m3, m4, m5, m6, m7, lt_of m1, lt_of m2, lt_of m3, lt_of m4, lt_of m5, lt_of m6, lt_of m7, em, dm, unL_maskL, XX, Nat.reduceBEq, Nat.reduceLT, Nat.reduceAdd, Nat.reduceMul, Nat.reduceSub, Nat.reduceLeDiff, Nat.reduceEqDiff, Int.reduceToNat, Int.reduceLT, Int.reduceLE, Int.reduceAdd, Int.reduceSub, Int.reduceEq, reduceIte, Nat.reduceBNe, Int.reducePow, Nat.reducePow, Int.reduceMul, Int.reduceNeg, isB_i, isB_b, isB_y, isBv_i, isBv_b, eqCells_t, TT]
    exact B5
end Go.Proofs.Ythbojoiogjdbeaa.Sx
namespace Go.Proofs.Ythbojoiogjdbeaa.Sx
open Go
set_option linter.unusedSimpArgs false
set_option linter.unusedVariables false
set_option maxRecDepth 10000
set_option maxHeartbeats 8000000
structure Q5 (S : Nat → Prop) (G : List SB) (c w1 w2 n rc rr rt m bk : Nat) (k kr : CK) (s sr : NS) (es : List OE) : Prop where
  J : J4 S G c w1 w2 rc rr rt bk k kr es
  hn : G[n]? = some (nicB s c)
  hm : G[m]? = some (rnicB sr rc)
def tyQ (t : TypeId) : Prop := tyP t ∨ t = 80 ∨ t = 100
section
variable {S : Nat → Prop} {G h' : List SB} {c w1 w2 n rc rr rt m bk : Nat} {k kr k' : CK} {s sr s' : NS} {es : List OE}
theorem Q5.keep {G' : List SB} (q : Q5 S G c w1 w2 n rc rr rt m bk k kr s sr es) (hl : G.length ≤ G'.length) (K : ∀ (i : Nat) (b : SB), G[i]? = some b → tyQ b.ty → G'[i]? = some b) : Q5 S G' c w1 w2 n rc rr rt m bk k kr s sr es :=
  ⟨q.J.keep hl fun i b hi ht => K i b hi (.inl ht), K _ _ q.hn (.inr (.inl rfl)), K _ _ q.hm (.inr (.inr rfl))⟩
theorem Q5.new (q : Q5 S G c w1 w2 n rc rr rt m bk k kr s sr es) (B : But G h' Nop) : Q5 S h' c w1 w2 n rc rr rt m bk k kr s sr es :=
  q.keep B.1 fun i b hi _ => B.get hi fun h => h
theorem Q5.mask {L : List Nat} (q : Q5 S G c w1 w2 n rc rr rt m bk k kr s sr es) (hL : ∀ i, L.contains i = true → ∃ b : SB, G[i]? = some b ∧ ¬ tyQ b.ty) : Q5 S (maskL L 0 G) c w1 w2 n rc rr rt m bk k kr s sr es :=
  q.keep (by rw [maskL_len]; exact Nat.le_refl _) fun i b hi ht => by
    cases hc : L.contains i with
    | false => rw [mask_off hc]; exact hi
    | true =>
      obtain ⟨b', h1, h2⟩ := hL i hc
      rw [hi] at h1
      cases h1
      exact absurd ht h2
theorem Q5.unm {L : List Nat} {F : List SB} (q : Q5 S h' c w1 w2 n rc rr rt m bk k kr s sr es) (hL : ∀ i, L.contains i = true → ∃ b : SB, h'[i]? = some b ∧ ¬ tyQ b.ty) : Q5 S (unL L 0 F h') c w1 w2 n rc rr rt m bk k kr s sr es :=
  q.keep (by rw [unL_len]; exact Nat.le_refl _) fun i b hi ht => by
    cases hc : L.contains i with
    | false => rw [unL_off hc]; exact hi
    | true =>
      obtain ⟨b', h1, h2⟩ := hL i hc
      rw [hi] at h1
      cases h1
      exact absurd ht h2
theorem xn_ty (P : PC G c w1 w2 k) (hn : G[n]? = some (nicB s c)) {i : Nat} {b : SB} (hi : G[i]? = some b) (h : XN5 c w1 w2 n i) : b.ty = 73 ∨ b.ty = 76 ∨ b.ty = 80 := by
  rcases h with rfl | rfl | rfl | rfl
  · rw [P.hc] at hi; cases hi; exact .inl rfl
  · rw [P.h1] at hi; cases hi; exact .inr (.inl rfl)
  · rw [P.h2] at hi; cases hi; exact .inr (.inl rfl)
  · rw [hn] at hi; cases hi; exact .inr (.inr rfl)
theorem xr_ty (R : RSx S G rc rr rt kr) (hm : G[m]? = some (rnicB sr rc)) {i : Nat} {b : SB} (hi : G[i]? = some b) (h : XR5 rc rr rt m i) : b.ty = 83 ∨ b.ty = 85 ∨ b.ty = 100 := by
  obtain ⟨⟨b1, h1, t1⟩, ⟨b2, h2, t2⟩, ⟨b3, h3, t3⟩⟩ := R.tys
  rcases h with rfl | rfl | rfl | rfl
  · rw [h1] at hi; cases hi; exact .inl t1
  · rw [h2] at hi; cases hi; exact .inr (.inl t2)
  · rw [h3] at hi; cases hi; exact .inr (.inl t3)
  · rw [hm] at hi; cases hi; exact .inr (.inr rfl)
/-- A call at the program's. -/
theorem Q5.prog (q : Q5 S G c w1 w2 n rc rr rt m bk k kr s sr es) (B : But G h' (XN5 c w1 w2 n)) (P' : PC h' c w1 w2 k') (hn' : h'[n]? = some (nicB s' c)) : Q5 (fun i => S i ∨ (G.length ≤ i ∧ i < h'.length)) h' c w1 w2 n rc rr rt m bk k' kr s' sr es := by
  have off : ∀ (i : Nat) (b : SB), G[i]? = some b → b.ty ≠ 73 → b.ty ≠ 76 → b.ty ≠ 80 → h'[i]? = some b := fun i b hi a1 a2 a3 => B.get hi fun h => by
    rcases xn_ty q.J.C q.hn hi h with e | e | e
    · exact a1 e
    · exact a2 e
    · exact a3 e
  have gr : RSx (fun i => S i ∨ (G.length ≤ i ∧ i < h'.length)) G rc rr rt kr := q.J.R.grow fun i hi => hi.elim .inl fun h => .inr h.1
  refine ⟨⟨P', gr.keep fun i b hi h => off i b hi ?_ ?_ ?_, q.J.B.keep fun i b hi h => off i b hi ?_ ?_ ?_, q.J.O.keep' fun i b hi h => off i b hi ?_ ?_ ?_, fun e he => .inl (q.J.sub e he), fun i hi => ?_⟩, hn', off _ _ q.hm ?_ ?_ ?_⟩
  · rcases h with h | h | h <;> rw [h] <;> decide
  · rcases h with h | h | h <;> rw [h] <;> decide
  · rcases h with h | h | h <;> rw [h] <;> decide
  · rcases h with h | h | h <;> rw [h] <;> decide
  · rcases h with h | h | h <;> rw [h] <;> decide
  · rcases h with h | h | h <;> rw [h] <;> decide
  · rw [h]; decide
  · rw [h]; decide
  · rw [h]; decide
  · rcases hi with h | h
    · have := q.J.hS i h; have := B.1; omega
    · exact h.2
  · show (100 : Nat) ≠ _; decide
  · show (100 : Nat) ≠ _; decide
  · show (100 : Nat) ≠ _; decide
/-- A call at the document's. -/
theorem Q5.ref {kr' : CK} {sr' : NS} (q : Q5 S G c w1 w2 n rc rr rt m bk k kr s sr es) (B : But G h' (XR5 rc rr rt m)) (R' : RSx S h' rc rr rt kr') (hm' : h'[m]? = some (rnicB sr' rc)) : Q5 S h' c w1 w2 n rc rr rt m bk k kr' s sr' es := by
  have off : ∀ (i : Nat) (b : SB), G[i]? = some b → b.ty ≠ 83 → b.ty ≠ 85 → b.ty ≠ 100 → h'[i]? = some b := fun i b hi a1 a2 a3 => B.get hi fun h => by
    rcases xr_ty q.J.R q.hm hi h with e | e | e
    · exact a1 e
    · exact a2 e
    · exact a3 e
  refine ⟨⟨q.J.C.keep fun i b hi h => off i b hi ?_ ?_ ?_, R', q.J.B.keep fun i b hi h => off i b hi ?_ ?_ ?_, q.J.O.keep' fun i b hi h => off i b hi ?_ ?_ ?_, q.J.sub, fun i hi => Nat.lt_of_lt_of_le (q.J.hS i hi) B.1⟩, off _ _ q.hn ?_ ?_ ?_, hm'⟩
  · rcases h with h | h <;> rw [h] <;> decide
  · rcases h with h | h <;> rw [h] <;> decide
  · rcases h with h | h <;> rw [h] <;> decide
  · rcases h with h | h | h <;> rw [h] <;> decide
  · rcases h with h | h | h <;> rw [h] <;> decide
  · rcases h with h | h | h <;> rw [h] <;> decide
  · rw [h]; decide
  · rw [h]; decide
  · rw [h]; decide
  · show (80 : Nat) ≠ _; decide
  · show (80 : Nat) ≠ _; decide
  · show (80 : Nat) ≠ _; decide
/-- A list is taken. -/
theorem Q5.take (q : Q5 S G c w1 w2 n rc rr rt m bk k kr s sr es) (hl : es.length ≤ 4398046511104) (e : OE) (h1 : G[e.w]? = some (wB e.o (e.l ++ e.p))) (h2 : 0 < e.l.length + e.p.length → e.o = true) (h3 : e.l.length ≤ 1514) (h4 : ∀ f ∈ es, f.w ≠ e.w) (h5 : S e.w) :
    Spec cx.P 41 [.c (.ptr bk 0), .c (.sl e.w 0 e.l.length (e.l.length + e.p.length))] G fun t h' => t = .tup [] ∧ Q5 S h' c w1 w2 n rc rr rt m bk k kr s sr (es ++ [e]) ∧ KeepB G h' := by
  refine (takeA_spec q.J.B hl e.w e.l e.p e.o h1 h3).mono fun t h' ⟨g1, g2, g3⟩ => ⟨g1, ⟨q.J.take e h1 h2 (by omega) h4 h5 g2 g3, ?_, ?_⟩, g3⟩
  · exact g3.2 _ _ q.hn (by show (80 : Nat) ≠ _; decide) (by show (80 : Nat) ≠ _; decide) (by show (80 : Nat) ≠ _; decide)
  · exact g3.2 _ _ q.hm (by show (100 : Nat) ≠ _; decide) (by show (100 : Nat) ≠ _; decide) (by show (100 : Nat) ≠ _; decide)
end
end Go.Proofs.Ythbojoiogjdbeaa.Sx
namespace Go.Proofs.Ythbojoiogjdbeaa.Sx
open Go
set_option linter.unusedSimpArgs false
set_option linter.unusedVariables false
set_option maxRecDepth 10000
set_option maxHeartbeats 8000000
/-- One thing that is done. -/
structure OpS where
  k : Int
  i : Int
  l : List UInt8
  sp : List UInt8
  c : Nat
  d : M6
  sk : Int
  l2 : List UInt8
  sp2 : List UInt8
  c2 : Nat
abbrev opC5 (o : OpS) : List SC := [i64 o.k, i64 o.i, roB o.l o.sp o.c, byteC o.d.a, byteC o.d.b, byteC o.d.c, byteC o.d.d, byteC o.d.e, byteC o.d.f, i64 o.sk, roB o.l2 o.sp2 o.c2]
abbrev opB5 (o : OpS) : SB := ⟨true, 37, opC5 o⟩
structure OpS.ok (o : OpS) : Prop where
  k : -9223372036854775808 ≤ o.k ∧ o.k < 9223372036854775808
  i : -9223372036854775808 ≤ o.i ∧ o.i < 9223372036854775808
  c : o.l.length ≤ o.c
  m : o.l.length ≤ 140737488355328
  c2 : o.l2.length ≤ o.c2
  m2 : o.l2.length ≤ 140737488355328
def StepR (p c w1 w2 n rc rr rt m bk : Nat) (k : CK) (es : List OE) (t : SV) (h' : List SB) : Prop :=
  t = .c (bC true) ∧ ∃ S' k' s' es', Q5 S' h' c w1 w2 n rc rr rt m bk k' k' s' s' es' ∧ k'.ok ∧ s'.ok k' ∧ h'[p]? = some (pair5 c n rc m bk) ∧ es'.length + frN k'.rx ≤ es.length + frN k.rx + 1
theorem pair_tyQ : ¬ tyQ 60 := by unfold tyQ tyP; decide
theorem op_tyQ : ¬ tyQ 37 := by unfold tyQ tyP; decide
theorem send_tyQ : ¬ tyQ 35 := by unfold tyQ tyP; decide
/-- Kept windows stay so, whatever else is written. -/
theorem kept2 {G h' : List SB} {p g : Nat} {a b : SB} {q : Nat → Prop} (hp : G[p]? = some a) (hg : G[g]? = some b) (ta : ¬ tyQ a.ty) (tb : ¬ tyQ b.ty) (B : But (maskL [p, g] 0 G) h' q) (hq : ¬ q p ∧ ¬ q g) : ∀ i, [p, g].contains i = true → ∃ x : SB, h'[i]? = some x ∧ ¬ tyQ x.ty := fun i hi => by
  rw [List.contains_iff_mem, List.mem_cons, List.mem_singleton] at hi
  rcases hi with rfl | rfl
  · obtain ⟨o, ho⟩ := maskL_at (L := [i, g]) hp
    exact ⟨_, B.get ho hq.1, ta⟩
  · obtain ⟨o, ho⟩ := maskL_at (L := [p, i]) hg
    exact ⟨_, B.get ho hq.2, tb⟩
theorem arrK_fr {k : CK} (ok : k.ok) (b : List UInt8) : frN (arrK k b).rx ≤ frN k.rx + 1 ∧ (arrK k b).rx.length = k.rx.length ∧ (arrK k b).tx.length = k.tx.length := by
  unfold arrK
  split
  · exact ⟨by omega, rfl, rfl⟩
  · split
    · rename_i h1 h2
      refine ⟨?_, List.length_set, rfl⟩
      have hi := ok.rn
      have e1 : k.rx = k.rx.take k.rn ++ (k.rx.getD k.rn noSl :: k.rx.drop (k.rn + 1)) := by
        have h2 : k.rx.getD k.rn noSl = k.rx[k.rn] := by rw [List.getD_eq_getElem?_getD, List.getElem?_eq_getElem hi]; rfl
        rw [h2, ← List.drop_eq_getElem_cons hi, List.take_append_drop]
      dsimp only
      unfold frN
      rw [List.set_eq_take_append_cons_drop, if_pos hi]
      conv => rhs; rw [e1]
      rw [List.countP_append, List.countP_append, List.countP_cons, List.countP_cons]
      split <;> split <;> omega
    · exact ⟨by dsimp only; omega, rfl, rfl⟩
theorem depK_fr (k : CK) : (depK k).rx = k.rx ∧ (depK k).tx.length = k.tx.length := by
  unfold depK
  split
  · exact ⟨rfl, List.length_set⟩
  · exact ⟨rfl, rfl⟩
theorem tyQ_xn {t : TypeId} (h : t = 73 ∨ t = 76 ∨ t = 80) : tyQ t := by
  unfold tyQ tyP
  rcases h with rfl | rfl | rfl <;> decide
theorem tyQ_xr {t : TypeId} (h : t = 83 ∨ t = 85 ∨ t = 100) : tyQ t := by
  unfold tyQ tyP
  rcases h with rfl | rfl | rfl <;> decide
section
variable {S : Nat → Prop} {G h' : List SB} {p g c w1 w2 n rc rr rt m bk : Nat} {k kr : CK} {s sr : NS} {es : List OE} {a b : SB}
theorem prog_unm {k' : CK} {s' : NS} (Q : Q5 S G c w1 w2 n rc rr rt m bk k kr s sr es) (gp : G[p]? = some a) (gg : G[g]? = some b) (ta : ¬ tyQ a.ty) (tb : ¬ tyQ b.ty) (B : But (maskL [p, g] 0 G) h' (XN5 c w1 w2 n)) (P' : PC h' c w1 w2 k') (hn' : h'[n]? = some (nicB s' c)) :
    Q5 (fun i => S i ∨ (G.length ≤ i ∧ i < h'.length)) (unL [p, g] 0 G h') c w1 w2 n rc rr rt m bk k' kr s' sr es ∧ (unL [p, g] 0 G h')[p]? = some a ∧ (unL [p, g] 0 G h')[g]? = some b ∧ But G (unL [p, g] 0 G h') (XN5 c w1 w2 n) := by
  have np : ¬ XN5 c w1 w2 n p := fun h => ta (tyQ_xn (xn_ty Q.J.C Q.hn gp h))
  have ng : ¬ XN5 c w1 w2 n g := fun h => tb (tyQ_xn (xn_ty Q.J.C Q.hn gg h))
  have Bu : But G (unL [p, g] 0 G h') (XN5 c w1 w2 n) := unL_but B fun i hi => not2 (fun e => np (e ▸ hi)) (fun e => ng (e ▸ hi))
  have Qm := Q.mask (two_L (p := fun t => ¬ tyQ t) gp ta gg tb)
  have q1 := (Qm.prog B P' hn').unm (F := G) (kept2 gp gg ta tb B ⟨np, ng⟩)
  rw [maskL_len] at q1
  exact ⟨q1, Bu.get gp np, Bu.get gg ng, Bu⟩
theorem ref_unm {kr' : CK} {sr' : NS} (Q : Q5 S G c w1 w2 n rc rr rt m bk k kr s sr es) (gp : G[p]? = some a) (gg : G[g]? = some b) (ta : ¬ tyQ a.ty) (tb : ¬ tyQ b.ty) (B : But (maskL [p, g] 0 G) h' (XR5 rc rr rt m)) (R' : RSx S h' rc rr rt kr') (hm' : h'[m]? = some (rnicB sr' rc)) :
    Q5 S (unL [p, g] 0 G h') c w1 w2 n rc rr rt m bk k kr' s sr' es ∧ (unL [p, g] 0 G h')[p]? = some a ∧ (unL [p, g] 0 G h')[g]? = some b ∧ But G (unL [p, g] 0 G h') (XR5 rc rr rt m) := by
  have np : ¬ XR5 rc rr rt m p := fun h => ta (tyQ_xr (xr_ty Q.J.R Q.hm gp h))
  have ng : ¬ XR5 rc rr rt m g := fun h => tb (tyQ_xr (xr_ty Q.J.R Q.hm gg h))
  have Bu : But G (unL [p, g] 0 G h') (XR5 rc rr rt m) := unL_but B fun i hi => not2 (fun e => np (e ▸ hi)) (fun e => ng (e ▸ hi))
  have Qm := Q.mask (two_L (p := fun t => ¬ tyQ t) gp ta gg tb)
  have q1 := (Qm.ref B R' hm').unm (F := G) (kept2 gp gg ta tb B ⟨np, ng⟩)
  exact ⟨q1, Bu.get gp np, Bu.get gg ng, Bu⟩
theorem Q5.nn (Q : Q5 S G c w1 w2 n rc rr rt m bk k kr s sr es) : n ≠ c ∧ n ≠ w1 ∧ n ≠ w2 :=
  ⟨ty_ne Q.hn Q.J.C.hc (by show (80 : Nat) ≠ 73; decide), ty_ne Q.hn Q.J.C.h1 (by show (80 : Nat) ≠ 76; decide), ty_ne Q.hn Q.J.C.h2 (by show (80 : Nat) ≠ 76; decide)⟩
theorem Q5.mm (Q : Q5 S G c w1 w2 n rc rr rt m bk k kr s sr es) : ¬ (m = rc ∨ m = rr ∨ m = rt) := fun h => by
  obtain ⟨lr0, lt0, cr0, ct0, RR, _, _⟩ := id Q.J.R
  rcases h with h | h | h
  · exact ty_ne Q.hm RR.hc rnic_tys.1 h
  · exact ty_ne Q.hm RR.hr rnic_tys.2.1 h
  · exact ty_ne Q.hm RR.ht rnic_tys.2.1 h
theorem xr_wk {i : Nat} (h : i = rc ∨ i = rr ∨ i = rt) : XR5 rc rr rt m i := h.elim .inl fun h => h.elim (fun h => .inr (.inl h)) fun h => .inr (.inr (.inl h))
end
section
variable {S : Nat → Prop} {H : List SB} {p c w1 w2 n rc rr rt m bk : Nat} {k : CK} {s : NS} {es : List OE}
theorem stepN_spec (q : Q5 S H c w1 w2 n rc rr rt m bk k k s s es) (ok : k.ok) (os : s.ok k) (hp : H[p]? = some (pair5 c n rc m bk)) (o : OpS) (h : o.k ≠ 1 ∧ o.k ≠ 2 ∧ o.k ≠ 3 ∧ o.k ≠ 4) :
    Spec cx.P 18 [.c (.ptr p 0), .agg (opC5 o)] H (StepR p c w1 w2 n rc rr rt m bk k es) := by
  have d1 : decide (o.k = 1) = false := by simpa using h.1
  have d2 : decide (o.k = 2) = false := by simpa using h.2.1
  have d3 : decide (o.k = 3) = false := by simpa using h.2.2.1
  have d4 : decide (o.k = 4) = false := by simpa using h.2.2.2
  refine spec_of_X cx_ok Try.func18 rfl (by kernel_rfl) (by kernel_rfl) (Nat.le_of_ble_eq_true rfl) 400 17 ?_
  simp (maxSteps := 4000000) only [Try.results18, XX, Nat.reduceBEq, Nat.reduceLT, Nat.reduceAdd, Nat.reduceMul, Nat.reduceSub, Nat.reduceLeDiff, Nat.reduceEqDiff, Int.reduceToNat, Int.reduceLT, Int.reduceLE, Int.reduceAdd, Int.reduceSub, Int.reduceEq, reduceIte, Nat.reduceBNe, Int.reducePow, Nat.reducePow, Int.reduceMul, Int.reduceNeg, isB_i, isB_b, isB_y, isBv_i, isBv_b, eqCells_t, TT]
  simp (maxSteps := 4000000) only [Try.results18, app_self, d1, d2, d3, d4, List.length_append, List.length_cons, List.length_nil, XX, Nat.reduceBEq, Nat.reduceLT, Nat.reduceAdd, Nat.reduceMul, Nat.reduceSub, Nat.reduceLeDiff, Nat.reduceEqDiff, Int.reduceToNat, Int.reduceLT, Int.reduceLE, Int.reduceAdd, Int.reduceSub, Int.reduceEq, reduceIte, Nat.reduceBNe, Int.reducePow, Nat.reducePow, Int.reduceMul, Int.reduceNeg, isB_i, isB_b, isB_y, isBv_i, isBv_b, eqCells_t, TT]
  exact ⟨rfl, S, k, s, es, q.new (But.new _), ok, os, (But.new _).get hp (fun h => h), by omega⟩
theorem step1_spec5 (q : Q5 S H c w1 w2 n rc rr rt m bk k k s s es) (ok : k.ok) (os : s.ok k) (hp : H[p]? = some (pair5 c n rc m bk)) (o : OpS) (oo : o.ok) (h : o.k = 1) :
    Spec cx.P 18 [.c (.ptr p 0), .agg (opC5 o)] H (StepR p c w1 w2 n rc rr rt m bk k es) := by
  obtain ⟨ok1, oi1, ol, osp, oc, od, osk, ol2, osp2, oc2⟩ := o
  dsimp only at h
  subst h
  refine spec_of_X cx_ok Try.func18 rfl (by kernel_rfl) (by kernel_rfl) (Nat.le_of_ble_eq_true rfl) 400 17 ?_
  simp (maxSteps := 4000000) only [Try.results18, XX, Nat.reduceBEq, Nat.reduceLT, Nat.reduceAdd, Nat.reduceMul, Nat.reduceSub, Nat.reduceLeDiff, Nat.reduceEqDiff, Int.reduceToNat, Int.reduceLT, Int.reduceLE, Int.reduceAdd, Int.reduceSub, Int.reduceEq, reduceIte, Nat.reduceBNe, Int.reducePow, Nat.reducePow, Int.reduceMul, Int.reduceNeg, isB_i, isB_b, isB_y, isBv_i, isBv_b, eqCells_t, TT]
  simp (maxSteps := 4000000) only [Try.results18, app_self, List.length_append, List.length_cons, List.length_nil, XX, Nat.reduceBEq, Nat.reduceLT, Nat.reduceAdd, Nat.reduceMul, Nat.reduceSub, Nat.reduceLeDiff, Nat.reduceEqDiff, Int.reduceToNat, Int.reduceLT, Int.reduceLE, Int.reduceAdd, Int.reduceSub, Int.reduceEq, reduceIte, Nat.reduceBNe, Int.reducePow, Nat.reducePow, Int.reduceMul, Int.reduceNeg, isB_i, isB_b, isB_y, isBv_i, isBv_b, eqCells_t, TT]
  refine gen_draw (fun G => Q5 S G c w1 w2 n rc rr rt m bk k k s s es ∧ G[p]? = some (pair5 c n rc m bk) ∧ G[H.length]? = some (opB5 ⟨1, oi1, ol, osp, oc, od, osk, ol2, osp2, oc2⟩)) ⟨q.new (But.new _), (But.new _).get hp (fun h => h), app_self⟩ ?_
  generalize H.length = g
  rintro G ⟨Q, gp, gg⟩
  have lp := lt_of gp
  have lg := lt_of gg
  obtain ⟨ox, mx⟩ : ∃ o, (maskL [p, g] 0 G)[p]? = some ⟨o, 60, (pair5 c n rc m bk).cells⟩ := maskL_at gp
  obtain ⟨oy, my⟩ : ∃ o, (maskL [p, g] 0 G)[g]? = some ⟨o, 37, opC5 ⟨1, oi1, ol, osp, oc, od, osk, ol2, osp2, oc2⟩⟩ := maskL_at gg
  have hok := kept_cons gp rfl (kept_cons gg rfl kept_nil)
  have lx := lt_of mx
  have ly := lt_of my
  have Qm := Q.mask (two_L (p := fun t => ¬ tyQ t) gp pair_tyQ gg op_tyQ)
  refine draw_of cx_ok (by kernel_rfl) 400 [p, g] [(0, true), (1, true), (2, true), (3, true), (4, true), (5, true), (6, false), (7, true)] (by kernel_rfl) (by first | exact hok | simp [*]) ?_
  simp (maxSteps := 4000000) only [Try.results18, gp, gg, mx, my, lx, ly, lp, lg, XX, Nat.reduceBEq, Nat.reduceLT, Nat.reduceAdd, Nat.reduceMul, Nat.reduceSub, Nat.reduceLeDiff, Nat.reduceEqDiff, Int.reduceToNat, Int.reduceLT, Int.reduceLE, Int.reduceAdd, Int.reduceSub, Int.reduceEq, reduceIte, Nat.reduceBNe, Int.reducePow, Nat.reducePow, Int.reduceMul, Int.reduceNeg, isB_i, isB_b, isB_y, isBv_i, isBv_b, eqCells_t, TT]
  refine call_is (Qm.J.C.arrive ok (.inl rfl)) ?_
  rintro _ h3 ⟨rfl, hh3⟩
  obtain ⟨nn1, nn2, nn3⟩ := Qm.nn
  obtain ⟨Q1, gp1, gg1, _⟩ := prog_unm (h' := h3) (s' := s) Q gp gg pair_tyQ op_tyQ (by rw [hh3]; exact setC_but _ _ _ _ _ (.inl rfl) (.inr (.inl rfl)) (.inr (.inr (.inl rfl)))) (by rw [hh3]; exact Qm.J.C.set _) (by rw [hh3, setC_off nn1 nn2 nn3]; exact Qm.hn)
  clear hh3 Qm mx my hok lx ly lp lg
  simp (maxSteps := 4000000) only [Try.results18, XX, Nat.reduceBEq, Nat.reduceLT, Nat.reduceAdd, Nat.reduceMul, Nat.reduceSub, Nat.reduceLeDiff, Nat.reduceEqDiff, Int.reduceToNat, Int.reduceLT, Int.reduceLE, Int.reduceAdd, Int.reduceSub, Int.reduceEq, reduceIte, Nat.reduceBNe, Int.reducePow, Nat.reducePow, Int.reduceMul, Int.reduceNeg, isB_i, isB_b, isB_y, isBv_i, isBv_b, eqCells_t, TT]
  generalize unL [p, g] 0 G h3 = G1 at *
  have lp := lt_of gp1
  have lg := lt_of gg1
  obtain ⟨ox, mx⟩ : ∃ o, (maskL [p, g] 0 G1)[p]? = some ⟨o, 60, (pair5 c n rc m bk).cells⟩ := maskL_at gp1
  obtain ⟨oy, my⟩ : ∃ o, (maskL [p, g] 0 G1)[g]? = some ⟨o, 37, opC5 ⟨1, oi1, ol, osp, oc, od, osk, ol2, osp2, oc2⟩⟩ := maskL_at gg1
  have hok := kept_cons gp1 rfl (kept_cons gg1 rfl kept_nil)
  have lx := lt_of mx
  have ly := lt_of my
  have Qm := Q1.mask (two_L (p := fun t => ¬ tyQ t) gp1 pair_tyQ gg1 op_tyQ)
  refine draw_of cx_ok (by kernel_rfl) 400 [p, g] [(0, true), (1, true), (2, true), (3, true), (4, true), (5, true), (6, false), (7, true)] (by kernel_rfl) (by first | exact hok | simp [*]) ?_
  simp (maxSteps := 4000000) only [Try.results18, gp1, gg1, mx, my, lx, ly, lp, lg, XX, Nat.reduceBEq, Nat.reduceLT, Nat.reduceAdd, Nat.reduceMul, Nat.reduceSub, Nat.reduceLeDiff, Nat.reduceEqDiff, Int.reduceToNat, Int.reduceLT, Int.reduceLE, Int.reduceAdd, Int.reduceSub, Int.reduceEq, reduceIte, Nat.reduceBNe, Int.reducePow, Nat.reducePow, Int.reduceMul, Int.reduceNeg, isB_i, isB_b, isB_y, isBv_i, isBv_b, eqCells_t, TT]
  refine call_is (rarriveA_spec Qm.J.hS ok Qm.J.R ol osp oc oo.c) ?_
  rintro _ h5 ⟨rfl, R5, B5⟩
  obtain ⟨Q2, gp2, gg2, _⟩ := ref_unm (h' := h5) (sr' := s) Q1 gp1 gg1 pair_tyQ op_tyQ (B5.wk' fun _ h => xr_wk h) R5 ((B5.2 m (lt_of Qm.hm) Qm.mm).trans Qm.hm)
  have da : (arrB k ol == arrB k ol) = true := by simp
  simp (maxSteps := 4000000) only [Try.results18, da, XX, Nat.reduceBEq, Nat.reduceLT, Nat.reduceAdd, Nat.reduceMul, Nat.reduceSub, Nat.reduceLeDiff, Nat.reduceEqDiff, Int.reduceToNat, Int.reduceLT, Int.reduceLE, Int.reduceAdd, Int.reduceSub, Int.reduceEq, reduceIte, Nat.reduceBNe, Int.reducePow, Nat.reducePow, Int.reduceMul, Int.reduceNeg, isB_i, isB_b, isB_y, isBv_i, isBv_b, eqCells_t, TT]
  obtain ⟨f1, f2, f3⟩ := arrK_fr ok ol
  exact ⟨rfl, _, _, s, es, Q2, arrK_ok k ok ol, ⟨by rw [f2]; exact os.r, by rw [f3]; exact os.t⟩, gp2, by omega⟩
end
end Go.Proofs.Ythbojoiogjdbeaa.Sx
namespace Go.Proofs.Ythbojoiogjdbeaa.Sx
open Go
set_option linter.unusedSimpArgs false
set_option linter.unusedVariables false
set_option maxRecDepth 10000
set_option maxHeartbeats 8000000
section
variable {S : Nat → Prop} {H : List SB} {p c w1 w2 n rc rr rt m bk : Nat} {k : CK} {s : NS} {es : List OE}
theorem step2_spec5 (q : Q5 S H c w1 w2 n rc rr rt m bk k k s s es) (ok : k.ok) (os : s.ok k) (hp : H[p]? = some (pair5 c n rc m bk)) (o : OpS) (oo : o.ok) (h : o.k = 2) :
    Spec cx.P 18 [.c (.ptr p 0), .agg (opC5 o)] H (StepR p c w1 w2 n rc rr rt m bk k es) := by
  obtain ⟨ok1, oi1, ol, osp, oc, od, osk, ol2, osp2, oc2⟩ := o
  dsimp only at h
  subst h
  have hp0 : ∀ x : SB, (H ++ [x])[p]? = some (pair5 c n rc m bk) := fun x => (But.new _).get hp fun h => h
  have lp0 : p < H.length + 1 := by have := lt_of hp; omega
  refine spec_of_X cx_ok Try.func18 rfl (by kernel_rfl) (by kernel_rfl) (Nat.le_of_ble_eq_true rfl) 400 17 ?_
  simp (maxSteps := 4000000) only [Try.results18, XX, Nat.reduceBEq, Nat.reduceLT, Nat.reduceAdd, Nat.reduceMul, Nat.reduceSub, Nat.reduceLeDiff, Nat.reduceEqDiff, Int.reduceToNat, Int.reduceLT, Int.reduceLE, Int.reduceAdd, Int.reduceSub, Int.reduceEq, reduceIte, Nat.reduceBNe, Int.reducePow, Nat.reducePow, Int.reduceMul, Int.reduceNeg, isB_i, isB_b, isB_y, isBv_i, isBv_b, eqCells_t, TT]
  simp (maxSteps := 4000000) only [Try.results18, app_self, hp0, lp0, List.length_append, List.length_cons, List.length_nil, XX, Nat.reduceBEq, Nat.reduceLT, Nat.reduceAdd, Nat.reduceMul, Nat.reduceSub, Nat.reduceLeDiff, Nat.reduceEqDiff, Int.reduceToNat, Int.reduceLT, Int.reduceLE, Int.reduceAdd, Int.reduceSub, Int.reduceEq, reduceIte, Nat.reduceBNe, Int.reducePow, Nat.reducePow, Int.reduceMul, Int.reduceNeg, isB_i, isB_b, isB_y, isBv_i, isBv_b, eqCells_t, TT]
  refine gen_call (fun G => Q5 S G c w1 w2 n rc rr rt m bk k k s s es ∧ G[p]? = some (pair5 c n rc m bk)) ⟨q.new (But.new _), hp0 _⟩ ?_
  rintro G ⟨Q, gp⟩
  refine call_is (Q.J.C.dep ok) ?_
  rintro _ h3 ⟨o, rfl, hh3, ho⟩
  obtain ⟨nn1, nn2, nn3⟩ := Q.nn
  have np : ¬ XN5 c w1 w2 n p := fun h => pair_tyQ (tyQ_xn (xn_ty Q.J.C Q.hn gp h))
  have B3 : But G h3 (XN5 c w1 w2 n) := by rw [hh3]; exact (setC_but _ _ _ _ _ (.inl rfl) (.inr (.inl rfl)) (.inr (.inr (.inl rfl)))).app _
  have Q1 := Q.prog (k' := depK k) (s' := s) B3 (by rw [hh3]; exact (Q.J.C.set _).app _) (by rw [hh3, List.getElem?_append_left (by rw [setC_len]; exact lt_of Q.hn), setC_off nn1 nn2 nn3]; exact Q.hn)
  have gp1 := B3.get gp np
  have wa : h3[G.length]? = some (wB o (depD k)) := by rw [hh3, List.getElem?_append_right (by rw [setC_len]; exact Nat.le_refl _), setC_len, Nat.sub_self]; rfl
  have lp1 := lt_of gp1
  clear hh3
  generalize G.length = g at *
  simp (maxSteps := 4000000) only [Try.results18, gp1, lp1, XX, Nat.reduceBEq, Nat.reduceLT, Nat.reduceAdd, Nat.reduceMul, Nat.reduceSub, Nat.reduceLeDiff, Nat.reduceEqDiff, Int.reduceToNat, Int.reduceLT, Int.reduceLE, Int.reduceAdd, Int.reduceSub, Int.reduceEq, reduceIte, Nat.reduceBNe, Int.reducePow, Nat.reducePow, Int.reduceMul, Int.reduceNeg, isB_i, isB_b, isB_y, isBv_i, isBv_b, eqCells_t, TT]
  refine call_is (rdepartA_spec ok Q1.J.R) ?_
  rintro _ h5 ⟨y, rfl, Dy, R5, B5⟩
  have Q2 := Q1.ref (sr' := s) (B5.wk' fun _ h => xr_wk h) R5 ((B5.2 m (lt_of Q1.hm) Q1.mm).trans Q1.hm)
  have npr : ¬ XR5 rc rr rt m p := fun h => pair_tyQ (tyQ_xr (xr_ty Q1.J.R Q1.hm gp1 h))
  have gp2 := (B5.wk' fun _ h => xr_wk h).get gp1 npr
  have wa2 : h5[g]? = some (wB o (depD k)) := (B5.wk' fun _ h => xr_wk (m := m) h).get wa (fun h => by
    have := xr_ty Q1.J.R Q1.hm wa h
    revert this
    show (5 : Nat) = _ ∨ (5 : Nat) = _ ∨ (5 : Nat) = _ → False
    decide)
  obtain ⟨f1, f2⟩ := depK_fr k
  have fin : ∃ S' k' s' es', Q5 S' h5 c w1 w2 n rc rr rt m bk k' k' s' s' es' ∧ k'.ok ∧ s'.ok k' ∧ h5[p]? = some (pair5 c n rc m bk) ∧ es'.length + frN k'.rx ≤ es.length + frN k.rx + 1 :=
    ⟨_, _, s, es, Q2, depK_ok k ok, ⟨by rw [f1]; exact os.r, by rw [f2]; exact os.t⟩, gp2, by rw [f1]; omega⟩
  have la := lt_of wa2
  have tk : ∀ a b : List UInt8, (bsC (a ++ b)).take a.length = bsC a := fun a b => by rw [bs_take, List.take_left' rfl]
  have tk0 : ∀ a : List UInt8, (bsC a).take a.length = bsC a := fun a => by rw [bs_take, List.take_length]
  have qq : ∀ a b : List UInt8, a.length ≤ (bsC (a ++ b)).length ∧ ∀ c ∈ bsC a, isByte c = true := fun a b => ⟨by simp, isByte_bsC a⟩
  have q0 : ∀ a : List UInt8, a.length ≤ (bsC a).length ∧ ∀ c ∈ bsC a, isByte c = true := fun a => ⟨by simp, isByte_bsC a⟩
  have em : (.string ByteArray.empty : Value) = .string ⟨([] : List UInt8).toArray⟩ := rfl
  have s0 : strOf ([] : List SC) = ⟨([] : List UInt8).toArray⟩ := rfl
  have ee : decide (([] : List UInt8) = []) = true := rfl
  have db : (depB k == depB k) = true := by simp
  clear Q2 Q1 Q R5 B5 B3 f1 f2
  generalize depD k = da at *
  rcases Dy with ⟨rfl, rfl⟩ | ⟨u, z, o2, rfl, hu, _, _⟩
  · simp (maxSteps := 4000000) only [Try.results18, wa2, la, s0, em, ee, db, str_eq, List.length_nil, List.map_nil, List.take_nil, XX, Nat.reduceBEq, Nat.reduceLT, Nat.reduceAdd, Nat.reduceMul, Nat.reduceSub, Nat.reduceLeDiff, Nat.reduceEqDiff, Int.reduceToNat, Int.reduceLT, Int.reduceLE, Int.reduceAdd, Int.reduceSub, Int.reduceEq, reduceIte, Nat.reduceBNe, Int.reducePow, Nat.reducePow, Int.reduceMul, Int.reduceNeg, isB_i, isB_b, isB_y, isBv_i, isBv_b, eqCells_t, TT]
    exact ⟨(fun _ h => nomatch h), rfl, fin⟩
  · have lu := lt_of hu
    have dda : decide (da = da) = true := by simp
    simp (maxSteps := 4000000) only [Try.results18, wa2, la, hu, lu, tk, tk0, dda, db, strOf_bsC, str_eq, XX, Nat.reduceBEq, Nat.reduceLT, Nat.reduceAdd, Nat.reduceMul, Nat.reduceSub, Nat.reduceLeDiff, Nat.reduceEqDiff, Int.reduceToNat, Int.reduceLT, Int.reduceLE, Int.reduceAdd, Int.reduceSub, Int.reduceEq, reduceIte, Nat.reduceBNe, Int.reducePow, Nat.reducePow, Int.reduceMul, Int.reduceNeg, isB_i, isB_b, isB_y, isBv_i, isBv_b, eqCells_t, TT]
    exact ⟨q0 _, qq _ _, rfl, fin⟩
/-- A Send whose bytes stand in a window, also where there are none. -/
theorem send5w_spec {H : List SB} {n c w1 w2 : Nat} {k : CK} {s : NS} (P : PC H c w1 w2 k) (ok : k.ok) (hn : H[n]? = some (nicB s c)) (os : s.ok k) (d : M6) (kd : Int) {x : SC} {l sp : List UInt8} {cc : Nat} (hx : Rd H x l sp cc) :
    Spec cx.P 16 [.c (.ptr n 0), .agg (macC d ++ [i64 kd, x])] H fun t h' => ∃ w z o, t = .tup [(false, [slB w (sendD k s (sealR d s.mac kd l)) z]), (false, [i64 (sendE k s (sealR d s.mac kd l))])] ∧ H.length ≤ w ∧ h'[w]? = some (wB o (sendD k s (sealR d s.mac kd l) ++ z)) ∧ (0 < (sendD k s (sealR d s.mac kd l)).length + z.length → o = true) ∧ PC h' c w1 w2 (sendK k s (sealR d s.mac kd l)) ∧ h'[n]? = some (nicB (sendN k s (sealR d s.mac kd l)) c) ∧ But H h' (XN5 c w1 w2 n) := by
  refine (send5_spec P ok hn os d kd hx).void 5 ?_
  rintro t h' ⟨x', rfl, hO, P', hn', B'⟩
  rcases hO with ⟨rfl, hD⟩ | ⟨w, z, o, rfl, h1, h2, h3⟩
  · rw [hD]
    refine .inr ⟨.tup [(false, [.sl h'.length 0 0 0]), (false, [i64 (sendE k s (sealR d s.mac kd l))])], nil_rel, h'.length, [], false, rfl, B'.1, app_self, fun h => absurd h (by simp), P'.app _, (List.getElem?_append_left (lt_of hn')).trans hn', B'.app _⟩
  · exact .inl ⟨w, z, o, rfl, h1, h2, h3, P', hn', B'⟩
end
end Go.Proofs.Ythbojoiogjdbeaa.Sx
namespace Go.Proofs.Ythbojoiogjdbeaa.Sx
open Go
set_option linter.unusedSimpArgs false
set_option linter.unusedVariables false
set_option maxRecDepth 10000
set_option maxHeartbeats 8000000
abbrev sdB (d : M6) (kd : Int) (x : SC) : SB := ⟨true, 35, macC d ++ [i64 kd, x]⟩
section
variable {S : Nat → Prop} {H : List SB} {p c w1 w2 n rc rr rt m bk : Nat} {k kr : CK} {s sr : NS} {es : List OE}
/-- New windows are the owner's. -/
theorem Q5.mine {h' : List SB} (q : Q5 S H c w1 w2 n rc rr rt m bk k kr s sr es) (B : But H h' Nop) : Q5 (fun i => S i ∨ (H.length ≤ i ∧ i < h'.length)) h' c w1 w2 n rc rr rt m bk k kr s sr es :=
  q.prog (B.wk' fun _ h => h.elim) (q.J.C.new B) (B.get q.hn fun h => h)
theorem Q5.set {g : Nat} {a y : SB} (q : Q5 S H c w1 w2 n rc rr rt m bk k kr s sr es) (hg : H[g]? = some a) (ha : ¬ tyQ a.ty) : Q5 S (H.set g y) c w1 w2 n rc rr rt m bk k kr s sr es :=
  q.keep (by rw [List.length_set]; exact Nat.le_refl _) fun i b hi ht => by
    rw [List.getElem?_set_ne (fun e => by subst e; rw [hg] at hi; cases hi; exact ha ht)]; exact hi
theorem Q5.setB {w : Nat} {a y : SB} (q : Q5 S H c w1 w2 n rc rr rt m bk k kr s sr es) (hw : H[w]? = some a) (ha : a.ty = 5) (hS : S w) (hne : ∀ e ∈ es, e.w ≠ w) : Q5 S (H.set w y) c w1 w2 n rc rr rt m bk k kr s sr es :=
  ⟨q.J.setB hw ha hS hne y, by rw [List.getElem?_set_ne (ty_ne hw q.hn (by rw [ha]; show (5 : Nat) ≠ 80; decide))]; exact q.hn, by rw [List.getElem?_set_ne (ty_ne hw q.hm (by rw [ha]; show (5 : Nat) ≠ 100; decide))]; exact q.hm⟩
theorem layK_rx (k : CK) (i : Int) (b : List UInt8) : (layK k i b).rx = k.rx := by
  unfold layK
  split
  · split
    · rfl
    · split
      · rfl
      · split
        · rfl
        · rfl
  · rfl
theorem sendK_fr {k : CK} {s : NS} (ok : k.ok) (os : s.ok k) (q : List UInt8 × Int) : (sendK k s q).rx = k.rx ∧ (sendK k s q).ok ∧ (sendN k s q).ok (sendK k s q) := by
  unfold sendK sendN
  split
  · refine ⟨layK_rx _ _ _, layK_ok k ok _ _, ?_, ?_⟩
    · rw [layK_rx]; exact os.r
    · rw [(layK_tx k s.t q.1).1]; exact Nat.mod_lt _ ok.tx0
  · exact ⟨rfl, ok, os.r, os.t⟩
theorem sends_spec (q : Q5 S H c w1 w2 n rc rr rt m bk k k s s es) (ok : k.ok) (os : s.ok k) (hp : H[p]? = some (pair5 c n rc m bk)) (hes : es.length ≤ 4398046511104) (d : M6) (kd : Int) (l sp : List UInt8) (cc : Nat) (hc : l.length ≤ cc) (hl : l.length ≤ 140737488355328) :
    Spec cx.P 42 [.c (.ptr p 0), .agg (macC d ++ [i64 kd, roB l sp cc])] H (StepR p c w1 w2 n rc rr rt m bk k es) := by
  have le := lent_spec l sp cc hl
  refine spec_of_X cx_ok Try.func42 rfl (by kernel_rfl) (by kernel_rfl) (Nat.le_of_ble_eq_true rfl) 400 11 ?_
  simp (maxSteps := 4000000) only [Try.results42, XX, Nat.reduceBEq, Nat.reduceLT, Nat.reduceAdd, Nat.reduceMul, Nat.reduceSub, Nat.reduceLeDiff, Nat.reduceEqDiff, Int.reduceToNat, Int.reduceLT, Int.reduceLE, Int.reduceAdd, Int.reduceSub, Int.reduceEq, reduceIte, Nat.reduceBNe, Int.reducePow, Nat.reducePow, Int.reduceMul, Int.reduceNeg, isB_i, isB_b, isB_y, isBv_i, isBv_b, eqCells_t, TT]
  simp (maxSteps := 4000000) only [Try.results42, app_self, List.length_append, List.length_cons, List.length_nil, XX, Nat.reduceBEq, Nat.reduceLT, Nat.reduceAdd, Nat.reduceMul, Nat.reduceSub, Nat.reduceLeDiff, Nat.reduceEqDiff, Int.reduceToNat, Int.reduceLT, Int.reduceLE, Int.reduceAdd, Int.reduceSub, Int.reduceEq, reduceIte, Nat.reduceBNe, Int.reducePow, Nat.reducePow, Int.reduceMul, Int.reduceNeg, isB_i, isB_b, isB_y, isBv_i, isBv_b, eqCells_t, TT]
  refine gen_call (fun G => Q5 S G c w1 w2 n rc rr rt m bk k k s s es ∧ G[p]? = some (pair5 c n rc m bk) ∧ G[H.length]? = some (sdB d kd (roB l sp cc))) ⟨q.new (But.new _), (But.new _).get hp (fun h => h), app_self⟩ ?_
  generalize H.length = g
  rintro G ⟨Q, gp, gg⟩
  refine call_fz [.c (roB l sp cc)] le (fun t h' h => lent_noRo h) ⟨.inl ⟨rfl, rfl⟩, trivial⟩ ?_
  rintro _ _ ⟨rfl, rfl⟩
  obtain ⟨w, hw⟩ : ∃ w, w = G.length := ⟨_, rfl⟩
  have hew : ∀ e ∈ es, e.w ≠ w := fun e he => by have := Q.J.hS _ (Q.J.sub e he); omega
  have gp1 := (But.new [wB true (l ++ [71, 72])]).get gp (fun h => h)
  have gg1 := (But.new [wB true (l ++ [71, 72])]).get gg (fun h => h)
  have gw1 : (G ++ [wB true (l ++ [71, 72])])[w]? = some (wB true (l ++ [71, 72])) := by rw [hw]; exact app_self
  obtain ⟨S1, Sw, Q1⟩ : ∃ S1 : Nat → Prop, S1 w ∧ Q5 S1 (G ++ [wB true (l ++ [71, 72])]) c w1 w2 n rc rr rt m bk k k s s es := ⟨_, .inr ⟨by omega, lt_of gw1⟩, Q.mine (But.new _)⟩
  have lg1 := lt_of gg1
  simp (maxSteps := 4000000) only [Try.results42, ids_bsC, ren_bsC, noRo_bsC, plain_bsC, lt_bsC, ids_byte, ren_byte, noRo_byte, plain_byte, lt_byte, gg1, lg1, XX, Nat.reduceBEq, Nat.reduceLT, Nat.reduceAdd, Nat.reduceMul, Nat.reduceSub, Nat.reduceLeDiff, Nat.reduceEqDiff, Int.reduceToNat, Int.reduceLT, Int.reduceLE, Int.reduceAdd, Int.reduceSub, Int.reduceEq, reduceIte, Nat.reduceBNe, Int.reducePow, Nat.reducePow, Int.reduceMul, Int.reduceNeg, isB_i, isB_b, isB_y, isBv_i, isBv_b, eqCells_t, TT]
  rw [← hw]
  have ngw : g ≠ w := ty_ne gg1 gw1 (by show (35 : Nat) ≠ 5; decide)
  have ngp : g ≠ p := ty_ne gg1 gp1 (by show (35 : Nat) ≠ 60; decide)
  refine gen_draw (fun F => Q5 S1 F c w1 w2 n rc rr rt m bk k k s s es ∧ F[p]? = some (pair5 c n rc m bk) ∧ F[g]? = some (sdB d kd (.sl w 0 l.length (l.length + 2))) ∧ F[w]? = some (wB true (l ++ [71, 72]))) ⟨Q1.set gg1 send_tyQ, (List.getElem?_set_ne ngp).trans gp1, List.getElem?_set_self lg1, (List.getElem?_set_ne ngw).trans gw1⟩ ?_
  clear Q Q1 gp gp1 gg gg1 gw1 lg1 hw le
  rintro F ⟨Q, gp, gg, gw⟩
  have lp := lt_of gp
  have lg := lt_of gg
  obtain ⟨ox, mx⟩ : ∃ o, (maskL [p, g] 0 F)[p]? = some ⟨o, 60, (pair5 c n rc m bk).cells⟩ := maskL_at gp
  obtain ⟨oy, my⟩ : ∃ o, (maskL [p, g] 0 F)[g]? = some ⟨o, 35, macC d ++ [i64 kd, .sl w 0 l.length (l.length + 2)]⟩ := maskL_at gg
  have hok := kept_cons gp rfl (kept_cons gg rfl kept_nil)
  have lx := lt_of mx
  have ly := lt_of my
  have Qm := Q.mask (two_L (p := fun t => ¬ tyQ t) gp pair_tyQ gg send_tyQ)
  have npw : p ≠ w := ty_ne gp gw (by show (60 : Nat) ≠ 5; decide)
  have mw : (maskL [p, g] 0 F)[w]? = some (wB true (l ++ [71, 72])) := (mask_off (not2 npw ngw)).trans gw
  refine draw_of cx_ok (by kernel_rfl) 400 [p, g] [(0, true), (1, true), (2, true), (3, true), (4, true), (5, false), (6, true), (7, true), (8, true), (9, true), (10, true)] (by kernel_rfl) (by first | exact hok | simp [*]) ?_
  simp (maxSteps := 4000000) only [Try.results42, gp, gg, mx, my, lx, ly, lp, lg, XX, Nat.reduceBEq, Nat.reduceLT, Nat.reduceAdd, Nat.reduceMul, Nat.reduceSub, Nat.reduceLeDiff, Nat.reduceEqDiff, Int.reduceToNat, Int.reduceLT, Int.reduceLE, Int.reduceAdd, Int.reduceSub, Int.reduceEq, reduceIte, Nat.reduceBNe, Int.reducePow, Nat.reducePow, Int.reduceMul, Int.reduceNeg, isB_i, isB_b, isB_y, isBv_i, isBv_b, eqCells_t, TT]
  refine call_is (send5w_spec Qm.J.C ok Qm.hn os d kd (.inr (.inl ⟨w, _, rfl, mw, rfl, rfl, rfl⟩))) ?_
  rintro _ h3 ⟨u, z, o, rfl, hu, gu, ho, P3, hn3, B3⟩
  rw [maskL_len] at hu
  obtain ⟨Q3, gp3, gg3, Bu⟩ := prog_unm Q gp gg pair_tyQ send_tyQ B3 P3 hn3
  have nwx : ¬ XN5 c w1 w2 n w := fun h => by
    have := xn_ty Q.J.C Q.hn gw h
    revert this
    show (5 : Nat) = _ ∨ (5 : Nat) = _ ∨ (5 : Nat) = _ → False
    decide
  have gw3 := Bu.get gw nwx
  have gu3 : (unL [p, g] 0 F h3)[u]? = some (wB o (sendD k s (sealR d s.mac kd l) ++ z)) := by rw [unL_ge hu]; exact gu
  have heu : ∀ e ∈ es, e.w ≠ u := fun e he => by have := Q.J.hS _ (Q.J.sub e he); omega
  have nuw : u ≠ w := by have := lt_of gw; omega
  obtain ⟨S3, Su, Sw3, Q3⟩ : ∃ S3 : Nat → Prop, S3 u ∧ S3 w ∧ Q5 S3 (unL [p, g] 0 F h3) c w1 w2 n rc rr rt m bk (sendK k s (sealR d s.mac kd l)) k (sendN k s (sealR d s.mac kd l)) s es := ⟨_, .inr ⟨hu, lt_of gu⟩, .inl Sw, Q3⟩
  have hqd : (sendD k s (sealR d s.mac kd l)).length ≤ 1514 := by
    by_cases h2 : (sealR d s.mac kd l).2 = 0
    · have := (sealR_ok h2).2
      unfold sendD
      split
      · exact this
      · simp
    · have := sealR_err h2
      unfold sendD
      split
      · rw [this]; simp
      · simp
  clear Bu B3 P3 hn3 Qm mx my hok lx ly lp lg mw gu hu Q
  simp (maxSteps := 4000000) only [Try.results42, XX, Nat.reduceBEq, Nat.reduceLT, Nat.reduceAdd, Nat.reduceMul, Nat.reduceSub, Nat.reduceLeDiff, Nat.reduceEqDiff, Int.reduceToNat, Int.reduceLT, Int.reduceLE, Int.reduceAdd, Int.reduceSub, Int.reduceEq, reduceIte, Nat.reduceBNe, Int.reducePow, Nat.reducePow, Int.reduceMul, Int.reduceNeg, isB_i, isB_b, isB_y, isBv_i, isBv_b, eqCells_t, TT]
  generalize unL [p, g] 0 F h3 = F3 at *
  have lg3 := lt_of gg3
  simp (maxSteps := 4000000) only [Try.results42, gg3, lg3, XX, Nat.reduceBEq, Nat.reduceLT, Nat.reduceAdd, Nat.reduceMul, Nat.reduceSub, Nat.reduceLeDiff, Nat.reduceEqDiff, Int.reduceToNat, Int.reduceLT, Int.reduceLE, Int.reduceAdd, Int.reduceSub, Int.reduceEq, reduceIte, Nat.reduceBNe, Int.reducePow, Nat.reducePow, Int.reduceMul, Int.reduceNeg, isB_i, isB_b, isB_y, isBv_i, isBv_b, eqCells_t, TT]
  refine call_is (asLentA_spec l sp cc hl gw3) ?_
  rintro _ _ ⟨rfl, rfl⟩
  have Q4 := Q3.setB (y := wB true (List.replicate (l.length + 2) 83)) gw3 rfl Sw3 hew
  have gp4 := (List.getElem?_set_ne (a := wB true (List.replicate (l.length + 2) 83)) (Ne.symm npw)).trans gp3
  have gg4 := (List.getElem?_set_ne (a := wB true (List.replicate (l.length + 2) 83)) (Ne.symm ngw)).trans gg3
  have gu4 := (List.getElem?_set_ne (a := wB true (List.replicate (l.length + 2) 83)) (Ne.symm nuw)).trans gu3
  clear Q3 gp3 gg3 gu3 gw3 lg3
  generalize F3.set w (wB true (List.replicate (l.length + 2) 83)) = F4 at *
  have lg4 := lt_of gg4
  simp (maxSteps := 4000000) only [Try.results42, gg4, lg4, XX, Nat.reduceBEq, Nat.reduceLT, Nat.reduceAdd, Nat.reduceMul, Nat.reduceSub, Nat.reduceLeDiff, Nat.reduceEqDiff, Int.reduceToNat, Int.reduceLT, Int.reduceLE, Int.reduceAdd, Int.reduceSub, Int.reduceEq, reduceIte, Nat.reduceBNe, Int.reducePow, Nat.reducePow, Int.reduceMul, Int.reduceNeg, isB_i, isB_b, isB_y, isBv_i, isBv_b, eqCells_t, TT]
  have ngu : g ≠ u := ty_ne gg4 gu4 (by show (35 : Nat) ≠ 5; decide)
  refine gen_draw (fun F => Q5 S3 F c w1 w2 n rc rr rt m bk (sendK k s (sealR d s.mac kd l)) k (sendN k s (sealR d s.mac kd l)) s es ∧ F[p]? = some (pair5 c n rc m bk) ∧ F[g]? = some (sdB d kd (roB l sp cc)) ∧ F[u]? = some (wB o (sendD k s (sealR d s.mac kd l) ++ z))) ⟨Q4.set gg4 send_tyQ, (List.getElem?_set_ne ngp).trans gp4, List.getElem?_set_self lg4, (List.getElem?_set_ne ngu).trans gu4⟩ ?_
  clear Q4 gp4 gg4 gu4 lg4
  rintro F ⟨Q, gp, gg, gu⟩
  have lp := lt_of gp
  have lg := lt_of gg
  obtain ⟨ox, mx⟩ : ∃ o, (maskL [p, g] 0 F)[p]? = some ⟨o, 60, (pair5 c n rc m bk).cells⟩ := maskL_at gp
  obtain ⟨oy, my⟩ : ∃ o, (maskL [p, g] 0 F)[g]? = some ⟨o, 35, macC d ++ [i64 kd, roB l sp cc]⟩ := maskL_at gg
  have hok := kept_cons gp rfl (kept_cons gg rfl kept_nil)
  have lx := lt_of mx
  have ly := lt_of my
  have Qm := Q.mask (two_L (p := fun t => ¬ tyQ t) gp pair_tyQ gg send_tyQ)
  refine draw_of cx_ok (by kernel_rfl) 400 [p, g] [(0, true), (1, true), (2, true), (3, true), (4, true), (5, false), (6, true), (7, true), (8, true), (9, true), (10, true)] (by kernel_rfl) (by first | exact hok | simp [*]) ?_
  simp (maxSteps := 4000000) only [Try.results42, gp, gg, mx, my, lx, ly, lp, lg, XX, Nat.reduceBEq, Nat.reduceLT, Nat.reduceAdd, Nat.reduceMul, Nat.reduceSub, Nat.reduceLeDiff, Nat.reduceEqDiff, Int.reduceToNat, Int.reduceLT, Int.reduceLE, Int.reduceAdd, Int.reduceSub, Int.reduceEq, reduceIte, Nat.reduceBNe, Int.reducePow, Nat.reducePow, Int.reduceMul, Int.reduceNeg, isB_i, isB_b, isB_y, isBv_i, isBv_b, eqCells_t, TT]
  refine call_is (rsend5_spec Qm.J.hS ok Qm.J.R Qm.hm os d kd (.inl rfl)) ?_
  rintro _ h5 ⟨x', rfl, hO, R5, hm5, B5⟩
  obtain ⟨Q5', gp5, gg5, Bu⟩ := ref_unm Q gp gg pair_tyQ send_tyQ B5 R5 hm5
  have nux : ¬ XR5 rc rr rt m u := fun h => by
    have := xr_ty Q.J.R Q.hm gu h
    revert this
    show (5 : Nat) = _ ∨ (5 : Nat) = _ ∨ (5 : Nat) = _ → False
    decide
  have gu5 := Bu.get gu nux
  have hO5 : Out F (unL [p, g] 0 F h5) x' (sendD k s (sealR d s.mac kd l)) := by
    rcases hO with h | ⟨v, z2, o2, rfl, hv, gv, ho2⟩
    · exact .inl h
    · rw [maskL_len] at hv
      exact .inr ⟨v, z2, o2, rfl, hv, by rw [unL_ge hv]; exact gv, ho2⟩
  clear hO Bu B5 R5 hm5 Qm mx my hok lx ly lp lg gp gg
  simp (maxSteps := 4000000) only [Try.results42, XX, Nat.reduceBEq, Nat.reduceLT, Nat.reduceAdd, Nat.reduceMul, Nat.reduceSub, Nat.reduceLeDiff, Nat.reduceEqDiff, Int.reduceToNat, Int.reduceLT, Int.reduceLE, Int.reduceAdd, Int.reduceSub, Int.reduceEq, reduceIte, Nat.reduceBNe, Int.reducePow, Nat.reducePow, Int.reduceMul, Int.reduceNeg, isB_i, isB_b, isB_y, isBv_i, isBv_b, eqCells_t, TT]
  have lF := lt_of gu
  generalize unL [p, g] 0 F h5 = F5 at *
  have lp5 := lt_of gp5
  simp (maxSteps := 4000000) only [Try.results42, gp5, lp5, XX, Nat.reduceBEq, Nat.reduceLT, Nat.reduceAdd, Nat.reduceMul, Nat.reduceSub, Nat.reduceLeDiff, Nat.reduceEqDiff, Int.reduceToNat, Int.reduceLT, Int.reduceLE, Int.reduceAdd, Int.reduceSub, Int.reduceEq, reduceIte, Nat.reduceBNe, Int.reducePow, Nat.reducePow, Int.reduceMul, Int.reduceNeg, isB_i, isB_b, isB_y, isBv_i, isBv_b, eqCells_t, TT]
  refine call_is (Q5'.take hes ⟨u, sendD k s (sealR d s.mac kd l), z, o⟩ gu5 ho hqd heu Su) ?_
  rintro _ h7 ⟨rfl, Q7, K7⟩
  have tu : ∀ {i : Nat} {o' : Bool} {u' : List UInt8}, F5[i]? = some (wB o' u') → h7[i]? = some (wB o' u') := fun h => K7.2 _ _ h (by show (5 : Nat) ≠ _; decide) (by show (5 : Nat) ≠ _; decide) (by show (5 : Nat) ≠ _; decide)
  have gp7 := K7.2 _ _ gp5 (by show (60 : Nat) ≠ _; decide) (by show (60 : Nat) ≠ _; decide) (by show (60 : Nat) ≠ _; decide)
  have gu7 := tu gu5
  obtain ⟨f1, f2, f3⟩ := sendK_fr ok os (sealR d s.mac kd l)
  have fin : ∃ S' k' s' es', Q5 S' h7 c w1 w2 n rc rr rt m bk k' k' s' s' es' ∧ k'.ok ∧ s'.ok k' ∧ h7[p]? = some (pair5 c n rc m bk) ∧ es'.length + frN k'.rx ≤ es.length + frN k.rx + 1 :=
    ⟨_, _, _, _, Q7, f2, f3, gp7, by rw [f1, List.length_append, List.length_singleton]; omega⟩
  have lu := lt_of gu7
  have tk : ∀ a b : List UInt8, (bsC (a ++ b)).take a.length = bsC a := fun a b => by rw [bs_take, List.take_left' rfl]
  have qq : ∀ a b : List UInt8, a.length ≤ (bsC (a ++ b)).length ∧ ∀ c ∈ bsC a, isByte c = true := fun a b => ⟨by simp, isByte_bsC a⟩
  have em : (.string ByteArray.empty : Value) = .string ⟨([] : List UInt8).toArray⟩ := rfl
  have s0 : strOf ([] : List SC) = ⟨([] : List UInt8).toArray⟩ := rfl
  have ee : decide (([] : List UInt8) = []) = true := rfl
  have de : decide (sendE k s (sealR d s.mac kd l) = sendE k s (sealR d s.mac kd l)) = true := by simp
  clear Q7 K7 Q5' Q gp5 gu5 gu gp7 f1 f2 f3 heu hqd
  generalize sendE k s (sealR d s.mac kd l) = E at *
  generalize sendD k s (sealR d s.mac kd l) = D at *
  rcases hO5 with ⟨rfl, rfl⟩ | ⟨v, z2, o2, rfl, hv, gv, ho2⟩
  · simp (maxSteps := 4000000) only [Try.results42, gu7, lu, s0, em, ee, de, str_eq, strOf_bsC, List.length_nil, List.map_nil, List.take_nil, List.take_zero, XX, Nat.reduceBEq, Nat.reduceLT, Nat.reduceAdd, Nat.reduceMul, Nat.reduceSub, Nat.reduceLeDiff, Nat.reduceEqDiff, Int.reduceToNat, Int.reduceLT, Int.reduceLE, Int.reduceAdd, Int.reduceSub, Int.reduceEq, reduceIte, Nat.reduceBNe, Int.reducePow, Nat.reducePow, Int.reduceMul, Int.reduceNeg, isB_i, isB_b, isB_y, isBv_i, isBv_b, eqCells_t, TT]
    exact ⟨⟨Nat.zero_le _, (fun _ h => nomatch h)⟩, rfl, fin⟩
  · have gv7 := tu gv
    have lv := lt_of gv7
    have dD : decide (D = D) = true := by simp
    simp (maxSteps := 4000000) only [Try.results42, gu7, lu, gv7, lv, tk, dD, de, strOf_bsC, str_eq, XX, Nat.reduceBEq, Nat.reduceLT, Nat.reduceAdd, Nat.reduceMul, Nat.reduceSub, Nat.reduceLeDiff, Nat.reduceEqDiff, Int.reduceToNat, Int.reduceLT, Int.reduceLE, Int.reduceAdd, Int.reduceSub, Int.reduceEq, reduceIte, Nat.reduceBNe, Int.reducePow, Nat.reducePow, Int.reduceMul, Int.reduceNeg, isB_i, isB_b, isB_y, isBv_i, isBv_b, eqCells_t, TT]
    exact ⟨qq _ _, qq _ _, rfl, fin⟩
theorem step4_spec5 (q : Q5 S H c w1 w2 n rc rr rt m bk k k s s es) (ok : k.ok) (os : s.ok k) (hp : H[p]? = some (pair5 c n rc m bk)) (hes : es.length ≤ 4398046511104) (o : OpS) (oo : o.ok) (h : o.k = 4) :
    Spec cx.P 18 [.c (.ptr p 0), .agg (opC5 o)] H (StepR p c w1 w2 n rc rr rt m bk k es) := by
  obtain ⟨ok1, oi1, ol, osp, oc, od, osk, ol2, osp2, oc2⟩ := o
  dsimp only at h
  subst h
  refine spec_of_X cx_ok Try.func18 rfl (by kernel_rfl) (by kernel_rfl) (Nat.le_of_ble_eq_true rfl) 400 17 ?_
  simp (maxSteps := 4000000) only [Try.results18, XX, Nat.reduceBEq, Nat.reduceLT, Nat.reduceAdd, Nat.reduceMul, Nat.reduceSub, Nat.reduceLeDiff, Nat.reduceEqDiff, Int.reduceToNat, Int.reduceLT, Int.reduceLE, Int.reduceAdd, Int.reduceSub, Int.reduceEq, reduceIte, Nat.reduceBNe, Int.reducePow, Nat.reducePow, Int.reduceMul, Int.reduceNeg, isB_i, isB_b, isB_y, isBv_i, isBv_b, eqCells_t, TT]
  simp (maxSteps := 4000000) only [Try.results18, app_self, List.length_append, List.length_cons, List.length_nil, XX, Nat.reduceBEq, Nat.reduceLT, Nat.reduceAdd, Nat.reduceMul, Nat.reduceSub, Nat.reduceLeDiff, Nat.reduceEqDiff, Int.reduceToNat, Int.reduceLT, Int.reduceLE, Int.reduceAdd, Int.reduceSub, Int.reduceEq, reduceIte, Nat.reduceBNe, Int.reducePow, Nat.reducePow, Int.reduceMul, Int.reduceNeg, isB_i, isB_b, isB_y, isBv_i, isBv_b, eqCells_t, TT]
  refine call_is (sends_spec (q.new (But.new _)) ok os ((But.new _).get hp fun h => h) hes od osk ol2 osp2 oc2 oo.c2 oo.m2) ?_
  rintro _ h' ⟨rfl, fin⟩
  simp (maxSteps := 4000000) only [Try.results18, XX, Nat.reduceBEq, Nat.reduceLT, Nat.reduceAdd, Nat.reduceMul, Nat.reduceSub, Nat.reduceLeDiff, Nat.reduceEqDiff, Int.reduceToNat, Int.reduceLT, Int.reduceLE, Int.reduceAdd, Int.reduceSub, Int.reduceEq, reduceIte, Nat.reduceBNe, Int.reducePow, Nat.reducePow, Int.reduceMul, Int.reduceNeg, isB_i, isB_b, isB_y, isBv_i, isBv_b, eqCells_t, TT]
  exact ⟨rfl, fin⟩
end
end Go.Proofs.Ythbojoiogjdbeaa.Sx
namespace Go.Proofs.Ythbojoiogjdbeaa.Sx
open Go
set_option linter.unusedSimpArgs false
set_option linter.unusedVariables false
set_option maxRecDepth 10000
set_option maxHeartbeats 8000000
theorem openR_le (l : List UInt8) : (openR l).l.length ≤ 1514 := by
  unfold openR
  split
  · simp
  · split
    · simp
    · rename_i h1 h2
      split
      · split
        · simp
        · simp only [List.length_cons] at h1 h2 ⊢; omega
      · simp
theorem pollN_le : ∀ (N : Nat) (k : CK) (s : NS), ∀ f ∈ (pollN N k s).2.2, f.l.length ≤ 1514
  | 0, k, s, f, hf => by simp [pollN] at hf
  | N + 1, k, s, f, hf => by
    rw [pollN] at hf
    split at hf
    · simp at hf
    · rcases List.mem_append.1 hf with h | h
      · unfold pollO at h
        split at h
        · rw [List.mem_singleton] at h; rw [h]; exact openR_le _
        · simp at h
      · exact pollN_le N _ _ f h
theorem pollN_ok : ∀ (N : Nat) (k : CK) (s : NS), k.ok → s.ok k → (pollN N k s).1.ok ∧ (pollN N k s).2.1.ok (pollN N k s).1 ∧ (pollN N k s).2.2.length + frN (pollN N k s).1.rx ≤ frN k.rx
  | 0, k, s, ok, os => ⟨ok, os, by simp [pollN]⟩
  | N + 1, k, s, ok, os => by
    rw [pollN]
    split
    · exact ⟨ok, os, by simp⟩
    · rename_i hs
      have hs' : seeS k.rx s.r = false := by simpa using hs
      have h1 := frN_give os.r hs'
      have h2 := pollO_len k s
      obtain ⟨g1, g2, g3⟩ := pollN_ok N (givK k s.r) (pollS k s) (givK_ok k ok _) (pollS_ok ok os)
      exact ⟨g1, g2, by dsimp only; rw [List.length_append]; omega⟩
theorem kept2p {pr : TypeId → Prop} {G h' : List SB} {p g : Nat} {a b : SB} {q : Nat → Prop} (hp : G[p]? = some a) (hg : G[g]? = some b) (ta : ¬ pr a.ty) (tb : ¬ pr b.ty) (B : But (maskL [p, g] 0 G) h' q) (hq : ¬ q p ∧ ¬ q g) : ∀ i, [p, g].contains i = true → ∃ x : SB, h'[i]? = some x ∧ ¬ pr x.ty := fun i hi => by
  rw [List.contains_iff_mem, List.mem_cons, List.mem_singleton] at hi
  rcases hi with rfl | rfl
  · obtain ⟨o, ho⟩ := maskL_at (L := [i, g]) hp
    exact ⟨_, B.get ho hq.1, ta⟩
  · obtain ⟨o, ho⟩ := maskL_at (L := [p, i]) hg
    exact ⟨_, B.get ho hq.2, tb⟩
theorem pair_tyF : ¬ tyF 60 := by decide
theorem op_tyF : ¬ tyF 37 := by decide
/-- A taken list of a frame. -/
abbrev FE.oe (e : FE) : OE := ⟨e.w, e.f.l, e.z, e.o⟩
theorem fe_at {es1 es2 : List FE} (h : es1.map FE.f = es2.map FE.f) {i : Nat} {a b : FE} (ha : es1[i]? = some a) (hb : es2[i]? = some b) : a.f = b.f := by
  have : (es1.map FE.f)[i]? = (es2.map FE.f)[i]? := by rw [h]
  rw [List.getElem?_map, List.getElem?_map, ha, hb] at this
  exact Option.some.inj this
theorem frl_unm {G h' : List SB} {p g lo : Nat} {sc : SC} {es : List FE} (F : FrL h' lo sc es) (hL : ∀ i, [p, g].contains i = true → ∃ b : SB, h'[i]? = some b ∧ ¬ tyF b.ty) : FrL (unL [p, g] 0 G h') lo sc es := F.keep fun i b hi ht => by
  cases hc : [p, g].contains i with
  | false => rw [unL_off hc]; exact hi
  | true =>
    obtain ⟨b', h1, h2⟩ := hL i hc
    rw [hi] at h1
    cases h1
    exact absurd ht h2
abbrev tyB (t : TypeId) : Prop := t = 57 ∨ t = 33 ∨ t = 9
theorem keepB_unm {L : List Nat} {F h' : List SB} (K : KeepB (maskL L 0 F) h') {i : Nat} {b : SB} (hi : F[i]? = some b) (ht : ¬ tyB b.ty) : (unL L 0 F h')[i]? = some b := by
  have n1 : b.ty ≠ 57 := fun h => ht (.inl h)
  have n2 : b.ty ≠ 33 := fun h => ht (.inr (.inl h))
  have n3 : b.ty ≠ 9 := fun h => ht (.inr (.inr h))
  have hl := K.1
  rw [maskL_len] at hl
  have lt := lt_of hi
  cases hc : L.contains i with
  | false =>
    rw [unL_off hc]
    exact K.2 i b ((mask_off hc).trans hi) n1 n2 n3
  | true => exact unL_kept (List.getElem?_eq_getElem (show i < h'.length by omega)) hi hc
section
variable {S : Nat → Prop} {H : List SB} {p c w1 w2 n rc rr rt m bk : Nat} {k kr : CK} {s sr : NS} {es : List OE}
theorem step3_spec5 (q : Q5 S H c w1 w2 n rc rr rt m bk k k s s es) (ok : k.ok) (os : s.ok k) (hp : H[p]? = some (pair5 c n rc m bk)) (hes : es.length + frN k.rx ≤ 4398046511104) (o : OpS) (oo : o.ok) (h : o.k = 3) :
    Spec cx.P 18 [.c (.ptr p 0), .agg (opC5 o)] H (StepR p c w1 w2 n rc rr rt m bk k es) := by
  obtain ⟨ok1, oi1, ol, osp, oc, od, osk, ol2, osp2, oc2⟩ := o
  dsimp only at h
  subst h
  refine spec_of_X cx_ok Try.func18 rfl (by kernel_rfl) (by kernel_rfl) (Nat.le_of_ble_eq_true rfl) 400 17 ?_
  simp (maxSteps := 4000000) only [Try.results18, XX, Nat.reduceBEq, Nat.reduceLT, Nat.reduceAdd, Nat.reduceMul, Nat.reduceSub, Nat.reduceLeDiff, Nat.reduceEqDiff, Int.reduceToNat, Int.reduceLT, Int.reduceLE, Int.reduceAdd, Int.reduceSub, Int.reduceEq, reduceIte, Nat.reduceBNe, Int.reducePow, Nat.reducePow, Int.reduceMul, Int.reduceNeg, isB_i, isB_b, isB_y, isBv_i, isBv_b, eqCells_t, TT]
  simp (maxSteps := 4000000) only [Try.results18, app_self, List.length_append, List.length_cons, List.length_nil, XX, Nat.reduceBEq, Nat.reduceLT, Nat.reduceAdd, Nat.reduceMul, Nat.reduceSub, Nat.reduceLeDiff, Nat.reduceEqDiff, Int.reduceToNat, Int.reduceLT, Int.reduceLE, Int.reduceAdd, Int.reduceSub, Int.reduceEq, reduceIte, Nat.reduceBNe, Int.reducePow, Nat.reducePow, Int.reduceMul, Int.reduceNeg, isB_i, isB_b, isB_y, isBv_i, isBv_b, eqCells_t, TT]
  refine gen_draw (fun G => Q5 S G c w1 w2 n rc rr rt m bk k k s s es ∧ G[p]? = some (pair5 c n rc m bk) ∧ G[H.length]? = some (opB5 ⟨3, oi1, ol, osp, oc, od, osk, ol2, osp2, oc2⟩)) ⟨q.new (But.new _), (But.new _).get hp (fun h => h), app_self⟩ ?_
  generalize H.length = g
  rintro G ⟨Q, gp, gg⟩
  have lp := lt_of gp
  have lg := lt_of gg
  obtain ⟨ox, mx⟩ : ∃ o, (maskL [p, g] 0 G)[p]? = some ⟨o, 60, (pair5 c n rc m bk).cells⟩ := maskL_at gp
  obtain ⟨oy, my⟩ : ∃ o, (maskL [p, g] 0 G)[g]? = some ⟨o, 37, opC5 ⟨3, oi1, ol, osp, oc, od, osk, ol2, osp2, oc2⟩⟩ := maskL_at gg
  have hok := kept_cons gp rfl (kept_cons gg rfl kept_nil)
  have lx := lt_of mx
  have ly := lt_of my
  have Qm := Q.mask (two_L (p := fun t => ¬ tyQ t) gp pair_tyQ gg op_tyQ)
  refine draw_of cx_ok (by kernel_rfl) 400 [p, g] [(0, true), (1, true), (2, true), (3, true), (4, true), (5, true), (6, false), (7, true)] (by kernel_rfl) (by first | exact hok | simp [*]) ?_
  simp (maxSteps := 4000000) only [Try.results18, gp, gg, mx, my, lx, ly, lp, lg, XX, Nat.reduceBEq, Nat.reduceLT, Nat.reduceAdd, Nat.reduceMul, Nat.reduceSub, Nat.reduceLeDiff, Nat.reduceEqDiff, Int.reduceToNat, Int.reduceLT, Int.reduceLE, Int.reduceAdd, Int.reduceSub, Int.reduceEq, reduceIte, Nat.reduceBNe, Int.reducePow, Nat.reducePow, Int.reduceMul, Int.reduceNeg, isB_i, isB_b, isB_y, isBv_i, isBv_b, eqCells_t, TT]
  refine call_is (poll_spec Qm.J.C ok Qm.hn os oi1 oo.i) ?_
  rintro _ h3 ⟨sc1, es1, rfl, F1, e1, P3, hn3, B3⟩
  rw [maskL_len] at F1
  have npx : ¬ XN5 c w1 w2 n p ∧ ¬ XN5 c w1 w2 n g := ⟨fun h => pair_tyQ (tyQ_xn (xn_ty Q.J.C Q.hn gp h)), fun h => op_tyQ (tyQ_xn (xn_ty Q.J.C Q.hn gg h))⟩
  have F1' := frl_unm (G := G) (p := p) (g := g) F1 (kept2p (pr := tyF) gp gg pair_tyF op_tyF B3 npx)
  obtain ⟨Q1, gp1, gg1, Bu⟩ := prog_unm Q gp gg pair_tyQ op_tyQ B3 P3 hn3
  obtain ⟨S1, hS1, hS2, Q1⟩ : ∃ S1 : Nat → Prop, (∀ i, G.length ≤ i → i < h3.length → S1 i) ∧ (∀ i, S1 i → S i ∨ G.length ≤ i) ∧ Q5 S1 (unL [p, g] 0 G h3) c w1 w2 n rc rr rt m bk (pollN oi1.toNat k s).1 k (pollN oi1.toNat k s).2.1 s es := ⟨_, fun i h1 h2 => .inr ⟨h1, h2⟩, fun i h => h.elim .inl fun h => .inr h.1, Q1⟩
  have hw1 : ∀ e ∈ es1, S1 e.w ∧ ∀ f ∈ es, f.w ≠ e.w := fun e he => ⟨hS1 _ (F1.at_ e he).1 (lt_of (F1.at_ e he).2.1), fun f hf => by have := Q.J.hS _ (Q.J.sub f hf); have := (F1.at_ e he).1; omega⟩
  obtain ⟨k1, s1, fr1, hk1⟩ : ∃ k1 s1 fr1, pollN oi1.toNat k s = (k1, s1, fr1) := ⟨_, _, _, rfl⟩
  obtain ⟨po1, po2, po3⟩ := pollN_ok oi1.toNat k s ok os
  have pol := pollN_le oi1.toNat k s
  have Qk := Q1
  have lo1 : G.length ≤ (unL [p, g] 0 G h3).length := Bu.1
  clear F1 B3 P3 hn3 Qm mx my hok lx ly lp lg Bu Q1 npx
  simp (maxSteps := 4000000) only [Try.results18, XX, Nat.reduceBEq, Nat.reduceLT, Nat.reduceAdd, Nat.reduceMul, Nat.reduceSub, Nat.reduceLeDiff, Nat.reduceEqDiff, Int.reduceToNat, Int.reduceLT, Int.reduceLE, Int.reduceAdd, Int.reduceSub, Int.reduceEq, reduceIte, Nat.reduceBNe, Int.reducePow, Nat.reducePow, Int.reduceMul, Int.reduceNeg, isB_i, isB_b, isB_y, isBv_i, isBv_b, eqCells_t, TT]
  generalize unL [p, g] 0 G h3 = G1 at *
  have lp := lt_of gp1
  have lg := lt_of gg1
  obtain ⟨ox, mx⟩ : ∃ o, (maskL [p, g] 0 G1)[p]? = some ⟨o, 60, (pair5 c n rc m bk).cells⟩ := maskL_at gp1
  obtain ⟨oy, my⟩ : ∃ o, (maskL [p, g] 0 G1)[g]? = some ⟨o, 37, opC5 ⟨3, oi1, ol, osp, oc, od, osk, ol2, osp2, oc2⟩⟩ := maskL_at gg1
  have hok := kept_cons gp1 rfl (kept_cons gg1 rfl kept_nil)
  have lx := lt_of mx
  have ly := lt_of my
  have Qm := Qk.mask (two_L (p := fun t => ¬ tyQ t) gp1 pair_tyQ gg1 op_tyQ)
  refine draw_of cx_ok (by kernel_rfl) 400 [p, g] [(0, true), (1, true), (2, true), (3, true), (4, true), (5, true), (6, false), (7, true)] (by kernel_rfl) (by first | exact hok | simp [*]) ?_
  simp (maxSteps := 4000000) only [Try.results18, gp1, gg1, mx, my, lx, ly, lp, lg, XX, Nat.reduceBEq, Nat.reduceLT, Nat.reduceAdd, Nat.reduceMul, Nat.reduceSub, Nat.reduceLeDiff, Nat.reduceEqDiff, Int.reduceToNat, Int.reduceLT, Int.reduceLE, Int.reduceAdd, Int.reduceSub, Int.reduceEq, reduceIte, Nat.reduceBNe, Int.reducePow, Nat.reducePow, Int.reduceMul, Int.reduceNeg, isB_i, isB_b, isB_y, isBv_i, isBv_b, eqCells_t, TT]
  refine call_is (rpoll_spec Qm.J.hS ok Qm.J.R Qm.hm os oi1 oo.i) ?_
  rintro _ h5 ⟨sc2, es2, rfl, F2, e2, R5, hm5, B5⟩
  rw [maskL_len] at F2
  have npx : ¬ XR5 rc rr rt m p ∧ ¬ XR5 rc rr rt m g := ⟨fun h => pair_tyQ (tyQ_xr (xr_ty Qk.J.R Qk.hm gp1 h)), fun h => op_tyQ (tyQ_xr (xr_ty Qk.J.R Qk.hm gg1 h))⟩
  have F2' := frl_unm (G := G1) (p := p) (g := g) F2 (kept2p (pr := tyF) gp1 gg1 pair_tyF op_tyF B5 npx)
  obtain ⟨Q2, gp2, gg2, Bu⟩ := ref_unm Qk gp1 gg1 pair_tyQ op_tyQ B5 R5 hm5
  have F12 : FrL (unL [p, g] 0 G1 h5) G.length sc1 es1 := F1'.keep (KT.ofBut (p := tyF) Bu fun i b hi h => by
    have := xr_ty Qk.J.R Qk.hm hi h
    rcases this with e | e | e <;> rw [e] <;> decide)
  have F22 : FrL (unL [p, g] 0 G1 h5) G.length sc2 es2 := ⟨by
    rcases F2'.row with h | ⟨iF, o, r, h1, h2, h3⟩
    · exact .inl h
    · exact .inr ⟨iF, o, r, h1, by omega, h3⟩, fun e he => ⟨by have := (F2'.at_ e he).1; omega, (F2'.at_ e he).2⟩, F2'.ne⟩
  clear F2 F2' F1' B5 R5 hm5 Qm mx my hok lx ly lp lg Bu npx Qk
  simp (maxSteps := 4000000) only [Try.results18, XX, Nat.reduceBEq, Nat.reduceLT, Nat.reduceAdd, Nat.reduceMul, Nat.reduceSub, Nat.reduceLeDiff, Nat.reduceEqDiff, Int.reduceToNat, Int.reduceLT, Int.reduceLE, Int.reduceAdd, Int.reduceSub, Int.reduceEq, reduceIte, Nat.reduceBNe, Int.reducePow, Nat.reducePow, Int.reduceMul, Int.reduceNeg, isB_i, isB_b, isB_y, isBv_i, isBv_b, eqCells_t, TT]
  generalize unL [p, g] 0 G1 h5 = F at *
  have e12 : es1.map FE.f = es2.map FE.f := by rw [e1, e2]
  have elen : es1.length = es2.length := by have := congrArg List.length e12; simpa using this
  rcases Nat.eq_zero_or_pos es1.length with hz | hpos
  · obtain rfl := List.eq_nil_of_length_eq_zero hz
    obtain rfl := List.eq_nil_of_length_eq_zero (show es2.length = 0 by rw [← elen]; rfl)
    have fin : ∃ S' k' s' es', Q5 S' F c w1 w2 n rc rr rt m bk k' k' s' s' es' ∧ k'.ok ∧ s'.ok k' ∧ F[p]? = some (pair5 c n rc m bk) ∧ es'.length + frN k'.rx ≤ es.length + frN k.rx + 1 := ⟨_, _, _, _, Q2, po1, po2, gp2, by omega⟩
    rcases F12.row with ⟨_, rfl⟩ | ⟨iF1, o1, r1, rfl, _, _⟩ <;> rcases F22.row with ⟨_, rfl⟩ | ⟨iF2, o2, r2, rfl, _, _⟩
    all_goals
      simp (maxSteps := 4000000) only [Try.results18, List.length_nil, XX, Nat.reduceBEq, Nat.reduceLT, Nat.reduceAdd, Nat.reduceMul, Nat.reduceSub, Nat.reduceLeDiff, Nat.reduceEqDiff, Int.reduceToNat, Int.reduceLT, Int.reduceLE, Int.reduceAdd, Int.reduceSub, Int.reduceEq, reduceIte, Nat.reduceBNe, Int.reducePow, Nat.reducePow, Int.reduceMul, Int.reduceNeg, isB_i, isB_b, isB_y, isBv_i, isBv_b, eqCells_t, TT]
      refine loop_rounds cx_ok 400 1 ?_
      simp (maxSteps := 4000000) only [Try.results18, List.length_nil, XX, Nat.reduceBEq, Nat.reduceLT, Nat.reduceAdd, Nat.reduceMul, Nat.reduceSub, Nat.reduceLeDiff, Nat.reduceEqDiff, Int.reduceToNat, Int.reduceLT, Int.reduceLE, Int.reduceAdd, Int.reduceSub, Int.reduceEq, reduceIte, Nat.reduceBNe, Int.reducePow, Nat.reducePow, Int.reduceMul, Int.reduceNeg, isB_i, isB_b, isB_y, isBv_i, isBv_b, eqCells_t, TT]
      exact ⟨rfl, fin⟩
  obtain ⟨iF1, o1, r1, rfl, lo11, R1⟩ : ∃ iF o r, sc1 = .sl iF 0 es1.length (es1.length + r) ∧ G.length ≤ iF ∧ RowG F 40 zeroFr iF o (es1.map FE.c) r := by
    rcases F12.row with ⟨h, _⟩ | h
    · rw [h] at hpos; simp at hpos
    · exact h
  obtain ⟨iF2, o2, r2, rfl, lo12, R2⟩ : ∃ iF o r, sc2 = .sl iF 0 es2.length (es2.length + r) ∧ G.length ≤ iF ∧ RowG F 40 zeroFr iF o (es2.map FE.c) r := by
    rcases F22.row with ⟨h, _⟩ | h
    · rw [h] at elen; have : es1.length = 0 := elen; omega
    · exact h
  have dl : decide ((es1.length : Int) = (es2.length : Int)) = true := by simp only [decide_eq_true_eq]; omega
  have hn : es1.length ≤ frN k.rx := by
    have : (es1.map FE.f).length = es1.length := List.length_map ..
    rw [e1] at this
    omega
  simp (maxSteps := 4000000) only [Try.results18, dl, XX, Nat.reduceBEq, Nat.reduceLT, Nat.reduceAdd, Nat.reduceMul, Nat.reduceSub, Nat.reduceLeDiff, Nat.reduceEqDiff, Int.reduceToNat, Int.reduceLT, Int.reduceLE, Int.reduceAdd, Int.reduceSub, Int.reduceEq, reduceIte, Nat.reduceBNe, Int.reducePow, Nat.reducePow, Int.reduceMul, Int.reduceNeg, isB_i, isB_b, isB_y, isBv_i, isBv_b, eqCells_t, TT]
  refine loop_any cx_ok 400 (fun μ σ => ∃ (i : Nat) (F1 : List SB), μ = es1.length - i ∧ i ≤ es1.length ∧ Q5 S1 F1 c w1 w2 n rc rr rt m bk (pollN oi1.toNat k s).1 (pollN oi1.toNat k s).1 (pollN oi1.toNat k s).2.1 (pollN oi1.toNat k s).2.1 (es ++ (es1.take i).map FE.oe) ∧ F1[p]? = some (pair5 c n rc m bk) ∧ (∀ (j : Nat) (b : SB), F[j]? = some b → tyF b.ty → F1[j]? = some b) ∧
      σ = ⟨⟨17, g⟩, [(0, .c (.ptr p 0)), (11, .c (.sl iF1 0 es1.length (es1.length + r1))), (12, .c (.sl iF2 0 es2.length (es2.length + r2))), (13, .c (i64 i))], F1⟩) es1.length
    ⟨⟨17, g⟩, [(0, .c (.ptr p 0)), (11, .c (.sl iF1 0 es1.length (es1.length + r1))), (12, .c (.sl iF2 0 es2.length (es2.length + r2))), (13, .c (i64 (0 : Nat)))], F⟩ ⟨0, F, rfl, Nat.zero_le _, by rw [List.take_zero, List.map_nil, List.append_nil]; exact Q2, gp2, fun _ _ h _ => h, rfl⟩ (.inl ⟨rfl, rfl, rfl, rfl, rfl, rfl, trivial⟩) ?_
  rintro μ σ ⟨i, F1, rfl, hi, Q, gp, kF, rfl⟩
  have FA := F12.keep kF
  have FB := F22.keep kF
  have RA := kF _ _ R1.row (.inl rfl)
  have RB := kF _ _ R2.row (.inl rfl)
  have lp := lt_of gp
  have la := lt_of RA
  have lb := lt_of RB
  by_cases hlt : i < es1.length
  · have hd : decide ((i : Int) < (es1.length : Int)) = true := by simp only [decide_eq_true_eq]; omega
    obtain ⟨a, ha⟩ : ∃ a, es1[i]? = some a := ⟨_, List.getElem?_eq_getElem hlt⟩
    obtain ⟨b, hb⟩ : ∃ b, es2[i]? = some b := ⟨_, List.getElem?_eq_getElem (by omega)⟩
    have hab := fe_at e12 ha hb
    obtain ⟨T1, hT1⟩ := rowG_at (z := zeroFr) (r := r1) (fe_len (es := es1)) (show (es1.map FE.c)[i]? = some a.c by rw [List.getElem?_map, ha]; rfl)
    obtain ⟨T2, hT2⟩ := rowG_at (z := zeroFr) (r := r2) (fe_len (es := es2)) (show (es2.map FE.c)[i]? = some b.c by rw [List.getElem?_map, hb]; rfl)
    have lnA := rowG_len (z := zeroFr) (r := r1) (fe_len (es := es1)) rfl
    have lnB := rowG_len (z := zeroFr) (r := r2) (fe_len (es := es2)) rfl
    rw [List.length_map] at lnA lnB
    have e3 : IntKind.i64.wrap ((i : Int) + 1) = ((i + 1 : Nat) : Int) := by rw [w64] <;> omega
    obtain ⟨ox, mx⟩ : ∃ o, (maskL [iF1, iF2] 0 F1)[iF1]? = some ⟨o, 40, rowG zeroFr (es1.map FE.c) r1⟩ := maskL_at RA
    obtain ⟨oy, my⟩ : ∃ o, (maskL [iF1, iF2] 0 F1)[iF2]? = some ⟨o, 40, rowG zeroFr (es2.map FE.c) r2⟩ := maskL_at RB
    have o1t := R1.own (by rw [List.length_map]; omega)
    have o2t := R2.own (by rw [List.length_map]; omega)
    subst o1t; subst o2t
    have hok := kept_cons RA rfl (kept_cons RB rfl kept_nil)
    have lx := lt_of mx
    have ly := lt_of my
    have tA : ((rowG zeroFr (es1.map FE.c) r1).drop (i * 14)).take 14 = a.c := by rw [hT1]; exact List.take_left' rfl
    have tB : ((rowG zeroFr (es2.map FE.c) r2).drop (i * 14)).take 14 = b.c := by rw [hT2]; exact List.take_left' rfl
    obtain ⟨ga1, ga2, ga3⟩ := FA.at_ a (List.mem_of_getElem? ha)
    obtain ⟨gb1, gb2, gb3⟩ := FB.at_ b (List.mem_of_getElem? hb)
    simp (maxSteps := 4000000) only [Try.results18, hd, XX, Nat.reduceBEq, Nat.reduceLT, Nat.reduceAdd, Nat.reduceMul, Nat.reduceSub, Nat.reduceLeDiff, Nat.reduceEqDiff, Int.reduceToNat, Int.reduceLT, Int.reduceLE, Int.reduceAdd, Int.reduceSub, Int.reduceEq, reduceIte, Nat.reduceBNe, Int.reducePow, Nat.reducePow, Int.reduceMul, Int.reduceNeg, isB_i, isB_b, isB_y, isBv_i, isBv_b, eqCells_t, TT]
    refine draw_of cx_ok (by kernel_rfl) 400 [iF1, iF2] [(0, true), (1, true), (2, true), (3, true), (4, true), (5, true), (6, true), (7, true), (8, false), (9, true)] (by kernel_rfl) (by first | exact hok | simp [*]) ?_
    simp (maxSteps := 4000000) only [Try.results18, RA, RB, mx, my, lx, ly, la, lb, tA, tB, XX, Nat.reduceBEq, Nat.reduceLT, Nat.reduceAdd, Nat.reduceMul, Nat.reduceSub, Nat.reduceLeDiff, Nat.reduceEqDiff, Int.reduceToNat, Int.reduceLT, Int.reduceLE, Int.reduceAdd, Int.reduceSub, Int.reduceEq, reduceIte, Nat.reduceBNe, Int.reducePow, Nat.reducePow, Int.reduceMul, Int.reduceNeg, isB_i, isB_b, isB_y, isBv_i, isBv_b, eqCells_t, TT]
    refine ⟨⟨by omega, by omega⟩, by rw [lnA]; omega, ⟨by omega, by omega⟩, by rw [lnB]; omega, ?_⟩
    have nwA : ∀ {w : Nat} {o : Bool} {u : List UInt8}, F1[w]? = some (wB o u) → (maskL [iF1, iF2] 0 F1)[w]? = some (wB o u) := fun h => (mask_off (not2 (ty_ne RA h (by show (40 : Nat) ≠ 5; decide)) (ty_ne RB h (by show (40 : Nat) ≠ 5; decide)))).trans h
    have sm := rsame_spec a.f.d a.f.s a.f.k a.f.l a.z b.z (a.f.l.length + a.z.length) (a.f.l.length + b.z.length)
    have hbc : b.c = fraC a.f.d a.f.s a.f.k (slB b.w a.f.l b.z) := by rw [hab]
    rw [← hab] at gb2 gb3
    rw [hbc]
    refine call_pureF [.agg (fraC a.f.d a.f.s a.f.k (roB a.f.l a.z (a.f.l.length + a.z.length))), .agg (fraC a.f.d a.f.s a.f.k (roB a.f.l b.z (a.f.l.length + b.z.length)))] sm ⟨fra_fz (fz_any (nwA ga2) ga3), fra_fz (fz_any (nwA gb2) gb3), trivial⟩ ?_
    rintro _ rfl
    simp (maxSteps := 4000000) only [Try.results18, unL_maskL, XX, Nat.reduceBEq, Nat.reduceLT, Nat.reduceAdd, Nat.reduceMul, Nat.reduceSub, Nat.reduceLeDiff, Nat.reduceEqDiff, Int.reduceToNat, Int.reduceLT, Int.reduceLE, Int.reduceAdd, Int.reduceSub, Int.reduceEq, reduceIte, Nat.reduceBNe, Int.reducePow, Nat.reducePow, Int.reduceMul, Int.reduceNeg, isB_i, isB_b, isB_y, isBv_i, isBv_b, eqCells_t, TT]
    clear hok mx my lx ly nwA sm hbc
    obtain ⟨ox, mx⟩ : ∃ o, (maskL [p, iF1] 0 F1)[p]? = some ⟨o, 60, (pair5 c n rc m bk).cells⟩ := maskL_at gp
    obtain ⟨oy, my⟩ : ∃ o, (maskL [p, iF1] 0 F1)[iF1]? = some ⟨o, 40, rowG zeroFr (es1.map FE.c) r1⟩ := maskL_at RA
    have hok := kept_cons gp rfl (kept_cons RA rfl kept_nil)
    have lx := lt_of mx
    have ly := lt_of my
    have gA : (rowG zeroFr (es1.map FE.c) r1).getD (i * 14 + 13) .any = slB a.w a.f.l a.z := by
      rw [List.getD_eq_getElem?_getD, ← List.getElem?_drop, hT1]; rfl
    refine draw_of cx_ok (by kernel_rfl) 400 [p, iF1] [(0, true), (1, true), (2, true), (3, true), (4, true), (5, true), (6, true), (7, true), (8, true), (9, false)] (by kernel_rfl) (by first | exact hok | simp [*]) ?_
    simp (maxSteps := 4000000) only [Try.results18, gp, RA, mx, my, lx, ly, la, lp, gA, XX, Nat.reduceBEq, Nat.reduceLT, Nat.reduceAdd, Nat.reduceMul, Nat.reduceSub, Nat.reduceLeDiff, Nat.reduceEqDiff, Int.reduceToNat, Int.reduceLT, Int.reduceLE, Int.reduceAdd, Int.reduceSub, Int.reduceEq, reduceIte, Nat.reduceBNe, Int.reducePow, Nat.reducePow, Int.reduceMul, Int.reduceNeg, isB_i, isB_b, isB_y, isBv_i, isBv_b, eqCells_t, TT]
    refine ⟨⟨by omega, by omega⟩, by rw [lnA]; omega, ?_⟩
    have frQ : ¬ tyQ 40 := by unfold tyQ tyP; decide
    have Qm := Q.mask (two_L (p := fun t => ¬ tyQ t) gp pair_tyQ RA frQ)
    have npw : p ≠ a.w := ty_ne gp ga2 (by show (60 : Nat) ≠ 5; decide)
    have nfw : iF1 ≠ a.w := ty_ne RA ga2 (by show (40 : Nat) ≠ 5; decide)
    have hmem := List.mem_of_getElem? ha
    refine call_is (Qm.take (by rw [List.length_append, List.length_map, List.length_take]; omega) ⟨a.w, a.f.l, a.z, a.o⟩ ((mask_off (not2 npw nfw)).trans ga2) ga3 (pol a.f (by rw [← e1]; exact List.mem_map_of_mem hmem)) (fun f hf => ?_) (hw1 a hmem).1) ?_
    · rcases List.mem_append.1 hf with hf | hf
      · exact (hw1 a hmem).2 f hf
      · obtain ⟨x, hx, rfl⟩ := List.mem_map.1 hf
        obtain ⟨j, hj⟩ := List.mem_iff_getElem?.1 hx
        rw [List.getElem?_take] at hj
        split at hj
        · rename_i hji
          obtain ⟨hj1, rfl⟩ := List.getElem?_eq_some_iff.1 hj
          obtain ⟨hi1, hai⟩ := List.getElem?_eq_some_iff.1 ha
          have := List.pairwise_iff_getElem.1 F12.ne j i hj1 hi1 hji
          rw [hai] at this
          exact this
        · cases hj
    rintro _ h7 ⟨rfl, Q7, K7⟩
    have Q8 := Q7.unm (L := [p, iF1]) (F := F1) (fun j hj => by
      rw [List.contains_iff_mem, List.mem_cons, List.mem_singleton] at hj
      rcases hj with rfl | rfl
      · exact ⟨_, K7.2 _ _ mx (by show (60 : Nat) ≠ _; decide) (by show (60 : Nat) ≠ _; decide) (by show (60 : Nat) ≠ _; decide), pair_tyQ⟩
      · exact ⟨_, K7.2 _ _ my (by show (40 : Nat) ≠ _; decide) (by show (40 : Nat) ≠ _; decide) (by show (40 : Nat) ≠ _; decide), frQ⟩)
    have gp8 := keepB_unm K7 gp (by show ¬ tyB 60; decide)
    have et : (es1.take (i + 1)).map FE.oe = (es1.take i).map FE.oe ++ [⟨a.w, a.f.l, a.z, a.o⟩] := by rw [List.take_add_one, ha, List.map_append]; rfl
    simp (maxSteps := 4000000) only [Try.results18, e3, XX, Nat.reduceBEq, Nat.reduceLT, Nat.reduceAdd, Nat.reduceMul, Nat.reduceSub, Nat.reduceLeDiff, Nat.reduceEqDiff, Int.reduceToNat, Int.reduceLT, Int.reduceLE, Int.reduceAdd, Int.reduceSub, Int.reduceEq, reduceIte, Nat.reduceBNe, Int.reducePow, Nat.reducePow, Int.reduceMul, Int.reduceNeg, isB_i, isB_b, isB_y, isBv_i, isBv_b, eqCells_t, TT]
    refine ⟨es1.length - (i + 1), by omega, _, ⟨i + 1, _, rfl, by omega, ?_, gp8, fun j b hj ht => keepB_unm K7 (kF j b hj ht) (by rcases ht with h | h <;> rw [h] <;> decide), rfl⟩, .inl ⟨rfl, rfl, rfl, rfl, rfl, rfl, trivial⟩⟩
    rw [et, ← List.append_assoc]
    exact Q8
  · obtain rfl : i = es1.length := by omega
    have hd : decide ((es1.length : Int) < (es1.length : Int)) = false := by simp
    simp (maxSteps := 4000000) only [Try.results18, hd, XX, Nat.reduceBEq, Nat.reduceLT, Nat.reduceAdd, Nat.reduceMul, Nat.reduceSub, Nat.reduceLeDiff, Nat.reduceEqDiff, Int.reduceToNat, Int.reduceLT, Int.reduceLE, Int.reduceAdd, Int.reduceSub, Int.reduceEq, reduceIte, Nat.reduceBNe, Int.reducePow, Nat.reducePow, Int.reduceMul, Int.reduceNeg, isB_i, isB_b, isB_y, isBv_i, isBv_b, eqCells_t, TT]
    refine ⟨rfl, _, _, _, _, Q, po1, po2, gp, ?_⟩
    rw [List.take_length, List.length_append, List.length_map]
    have : (es1.map FE.f).length = es1.length := List.length_map ..
    rw [e1] at this
    omega
end
end Go.Proofs.Ythbojoiogjdbeaa.Sx
namespace Go.Proofs.Ythbojoiogjdbeaa.Sx
open Go
set_option linter.unusedSimpArgs false
set_option linter.unusedVariables false
set_option maxRecDepth 10000
set_option maxHeartbeats 8000000
abbrev aL : M6 := ⟨2, 0, 0, 0, 0, 10⟩
def kL0 : CK := newK 1 1
def sL0 : NS := ⟨aL, 0, 0, 0, 0, 0, 0⟩
def qA : List UInt8 × Int := sealR aL aL 2054 [120]
def qB : List UInt8 × Int := sealR aL aL 2054 []
def qC : List UInt8 × Int := sealR aL aL 1 []
def kL1 : CK := sendK kL0 sL0 qA
def sL1 : NS := sendN kL0 sL0 qA
def kL2 : CK := sendK kL1 sL1 qB
def sL2 : NS := sendN kL1 sL1 qB
def kL3 : CK := sendK kL2 sL2 qC
def sL3 : NS := sendN kL2 sL2 qC
def kL4 : CK := depK kL3
def bL : List UInt8 := sendD kL0 sL0 qA
def kL5 : CK := arrK kL4 bL
theorem live_plain : sendE kL0 sL0 qA = 0 ∧ bL.length = 60 ∧ sendE kL1 sL1 qB = 3 ∧ sendE kL2 sL2 qC = 30 ∧ depB kL3 = true ∧ depD kL3 = bL ∧ arrB kL4 bL = true ∧ (pollN 9 kL5 sL3).2.2.map FR.k = [2054] ∧
    ((pollN 9 kL5 sL3).2.1.tk = 1 ∧ (pollN 9 kL5 sL3).2.1.th = 0 ∧ (pollN 9 kL5 sL3).2.1.se = 1 ∧ (pollN 9 kL5 sL3).2.1.rf = 2) := by
  decide +kernel
theorem live_mac : sL0.mac = aL ∧ sL1.mac = aL ∧ sL2.mac = aL ∧ sL3.mac = aL := by
  refine ⟨rfl, ?_, ?_, ?_⟩ <;> (simp only [sL1, sL2, sL3, sendN]; repeat' split) <;> rfl
theorem live_ok : (kL0.ok ∧ sL0.ok kL0) ∧ (kL1.ok ∧ sL1.ok kL1) ∧ (kL2.ok ∧ sL2.ok kL2) ∧ (kL3.ok ∧ sL3.ok kL3) ∧ (kL4.ok ∧ sL3.ok kL4) ∧ (kL5.ok ∧ sL3.ok kL5) := by
  have o0 : kL0.ok := newK_ok (by omega) (by omega) (by omega) (by omega)
  have p0 : sL0.ok kL0 := ⟨by decide, by decide⟩
  obtain ⟨_, o1, p1⟩ := sendK_fr o0 p0 qA
  obtain ⟨_, o2, p2⟩ := sendK_fr (k := kL1) (s := sL1) o1 p1 qB
  obtain ⟨_, o3, p3⟩ := sendK_fr (k := kL2) (s := sL2) o2 p2 qC
  have o4 : kL4.ok := depK_ok _ o3
  have p4 : sL3.ok kL4 := ⟨by rw [show kL4.rx = kL3.rx from (depK_fr kL3).1]; exact p3.r, by rw [show kL4.tx.length = kL3.tx.length from (depK_fr kL3).2]; exact p3.t⟩
  obtain ⟨_, f2, f3⟩ := arrK_fr o4 bL
  exact ⟨⟨o0, p0⟩, ⟨o1, p1⟩, ⟨o2, p2⟩, ⟨o3, p3⟩, ⟨o4, p4⟩, arrK_ok _ o4 _, ⟨by rw [show kL5.rx.length = _ from f2]; exact p4.r, by rw [show kL5.tx.length = _ from f3]; exact p4.t⟩⟩
theorem live_spec : Spec cx.P 6 [] [] fun s _ => s.plain = true ∧ s = .c (bC true) := by
  have hN := new_spec 1 1 (by omega) (by omega) (by omega) (by omega)
  refine spec_of_X cx_ok Try.func6 rfl (by kernel_rfl) (by kernel_rfl) (Nat.le_of_ble_eq_true rfl) 400 17 ?_
  simp (maxSteps := 4000000) only [Try.results6, XX, Nat.reduceBEq, Nat.reduceLT, Nat.reduceAdd, Nat.reduceMul, Nat.reduceSub, Nat.reduceLeDiff, Nat.reduceEqDiff, Int.reduceToNat, Int.reduceLT, Int.reduceLE, Int.reduceAdd, Int.reduceSub, Int.reduceEq, reduceIte, Nat.reduceBNe, Int.reducePow, Nat.reducePow, Int.reduceMul, Int.reduceNeg, isB_i, isB_b, isB_y, isBv_i, isBv_b, eqCells_t, TT]
  refine call_frame hN [] rfl rfl trivial rfl rfl ?_
  rintro _ _ ⟨rfl, rfl⟩
  simp (maxSteps := 4000000) only [Try.results6, ids_bsC, ren_bsC, noRo_bsC, plain_bsC, lt_bsC, ids_byte, ren_byte, noRo_byte, plain_byte, lt_byte, slC_ren, XX, Nat.reduceBEq, Nat.reduceLT, Nat.reduceAdd, Nat.reduceMul, Nat.reduceSub, Nat.reduceLeDiff, Nat.reduceEqDiff, Int.reduceToNat, Int.reduceLT, Int.reduceLE, Int.reduceAdd, Int.reduceSub, Int.reduceEq, reduceIte, Nat.reduceBNe, Int.reducePow, Nat.reducePow, Int.reduceMul, Int.reduceNeg, isB_i, isB_b, isB_y, isBv_i, isBv_b, eqCells_t, TT]
  refine call_is (new5_spec aL) ?_
  rintro _ _ ⟨x0, rfl, rfl⟩
  refine gen_hp (fun H => PC H 1 2 3 kL0 ∧ H[5]? = some (nicB sL0 1) ∧ H[0]? = some ⟨true, 24, macC aL⟩) ⟨⟨rfl, rfl, rfl, by decide⟩, rfl, rfl⟩ ?_
  rintro H ⟨P, hn, hm⟩
  simp (maxSteps := 4000000) only [Try.results6, hm, List.append_assoc, List.getElem?_append_left, List.getElem?_append_right, List.length_append, List.length_set, List.set_append_left, gset, List.getElem?_set_ne, Nat.add_sub_cancel_left, Nat.sub_self, Nat.le_refl, Nat.le_add_right, List.replicate_one, List.flatten_cons, List.flatten_nil, rep_flat, XX, Nat.reduceBEq, Nat.reduceLT, Nat.reduceAdd, Nat.reduceMul, Nat.reduceSub, Nat.reduceLeDiff, Nat.reduceEqDiff, Int.reduceToNat, Int.reduceLT, Int.reduceLE, Int.reduceAdd, Int.reduceSub, Int.reduceEq, reduceIte, Nat.reduceBNe, Int.reducePow, Nat.reducePow, Int.reduceMul, Int.reduceNeg, isB_i, isB_b, isB_y, isBv_i, isBv_b, eqCells_t, TT]
  refine call_plain (new5N_spec aL) rfl ?_
  rintro _ rfl
  simp (maxSteps := 4000000) only [Try.results6, XX, Nat.reduceBEq, Nat.reduceLT, Nat.reduceAdd, Nat.reduceMul, Nat.reduceSub, Nat.reduceLeDiff, Nat.reduceEqDiff, Int.reduceToNat, Int.reduceLT, Int.reduceLE, Int.reduceAdd, Int.reduceSub, Int.reduceEq, reduceIte, Nat.reduceBNe, Int.reducePow, Nat.reducePow, Int.reduceMul, Int.reduceNeg, isB_i, isB_b, isB_y, isBv_i, isBv_b, eqCells_t, TT]
  refine call_is (own_spec hn) ?_
  rintro _ _ ⟨rfl, x1, rfl⟩
  refine gen_hp (fun H => PC H 1 2 3 kL0 ∧ H[5]? = some (nicB sL0 1) ∧ H[0]? = some ⟨true, 24, macC aL⟩) ⟨P.app _, (List.getElem?_append_left (lt_of hn)).trans hn, (List.getElem?_append_left (lt_of hm)).trans hm⟩ ?_
  clear P hn hm x1 x0 hN
  obtain ⟨⟨o0, p0⟩, ⟨o1, p1⟩, ⟨o2, p2⟩, ⟨o3, p3⟩, ⟨o4, p4⟩, ⟨o5, p5⟩⟩ := live_ok
  obtain ⟨e1, e2, e3, e4, e5, e6, e7, e8, e9⟩ := live_plain
  obtain ⟨m0, m1, m2, m3⟩ := live_mac
  rintro H ⟨P, hn, hm⟩
  have hm1 : ∀ x : SB, (H ++ [x])[0]? = some ⟨true, 24, macC aL⟩ := fun x => (List.getElem?_append_left (lt_of hm)).trans hm
  simp (maxSteps := 4000000) only [Try.results6, hm, hm1, set_end, set_two, m0, List.append_assoc, List.getElem?_append_left, List.getElem?_append_right, List.length_append, List.length_set, List.set_append_left, gset, List.getElem?_set_ne, Nat.add_sub_cancel_left, Nat.sub_self, Nat.le_refl, Nat.le_add_right, List.replicate_one, List.flatten_cons, List.flatten_nil, rep_flat, XX, Nat.reduceBEq, Nat.reduceLT, Nat.reduceAdd, Nat.reduceMul, Nat.reduceSub, Nat.reduceLeDiff, Nat.reduceEqDiff, Int.reduceToNat, Int.reduceLT, Int.reduceLE, Int.reduceAdd, Int.reduceSub, Int.reduceEq, reduceIte, Nat.reduceBNe, Int.reducePow, Nat.reducePow, Int.reduceMul, Int.reduceNeg, isB_i, isB_b, isB_y, isBv_i, isBv_b, eqCells_t, TT]
  obtain ⟨io, hio⟩ : ∃ io, io = H.length := ⟨_, rfl⟩
  have io5 : 5 < io := by rw [hio]; exact lt_of hn
  rw [← hio]
  refine gen_call (fun G => PC G 1 2 3 kL0 ∧ G[5]? = some (nicB sL0 1) ∧ G[0]? = some ⟨true, 24, macC aL⟩ ∧ G[io]? = some ⟨true, 24, macC aL⟩ ∧ G[io + 1]? = some ⟨false, 5, bsC [120]⟩) ⟨P.app _, (List.getElem?_append_left (lt_of hn)).trans hn, (List.getElem?_append_left (lt_of hm)).trans hm, by rw [hio, List.getElem?_append_right (Nat.le_refl _), Nat.sub_self]; rfl, by rw [hio]; exact app_two⟩ ?_
  clear P hn hm hm1 hio
  rintro G ⟨P, hn, hm, ho, hx⟩
  have q1 := send5w_spec P o0 hn p0 aL 2054 (l := [120]) (sp := []) (cc := 1) (.inr (.inl ⟨io + 1, _, rfl, hx, rfl, rfl, rfl⟩))
  rw [m0] at q1
  refine call_is q1 ?_
  clear q1
  rintro _ h1 ⟨w, z, o, rfl, lw, hw, how, P1, hn1, B1⟩
  replace e1 : sendE kL0 sL0 (sealR aL aL 2054 [120]) = 0 := e1
  have eb : sendD kL0 sL0 (sealR aL aL 2054 [120]) = bL := rfl
  rw [e1, eb]
  rw [eb] at hw how
  replace P1 : PC h1 1 2 3 kL1 := P1
  replace hn1 : h1[5]? = some (nicB sL1 1) := hn1
  have n0 : ¬ XN5 1 2 3 5 0 := by simp [XN5]
  have nio : ¬ XN5 1 2 3 5 io := by simp only [XN5]; omega
  have hm1 := B1.get hm n0
  have ho1 := B1.get ho nio
  obtain rfl : o = true := how (by omega)
  have l1 := Nat.lt_of_lt_of_le (lt_of ho) lw
  clear P hn hm ho hx how B1 n0 nio lw
  simp (maxSteps := 4000000) only [Try.results6, hm1, List.append_assoc, List.getElem?_append_left, List.getElem?_append_right, List.length_append, List.length_set, List.set_append_left, gset, List.getElem?_set_ne, Nat.add_sub_cancel_left, Nat.sub_self, Nat.le_refl, Nat.le_add_right, List.replicate_one, List.flatten_cons, List.flatten_nil, rep_flat, XX, Nat.reduceBEq, Nat.reduceLT, Nat.reduceAdd, Nat.reduceMul, Nat.reduceSub, Nat.reduceLeDiff, Nat.reduceEqDiff, Int.reduceToNat, Int.reduceLT, Int.reduceLE, Int.reduceAdd, Int.reduceSub, Int.reduceEq, reduceIte, Nat.reduceBNe, Int.reducePow, Nat.reducePow, Int.reduceMul, Int.reduceNeg, isB_i, isB_b, isB_y, isBv_i, isBv_b, eqCells_t, TT]
  have q2 := send5w_spec P1 o1 hn1 p1 aL 2054 (l := []) (sp := []) (cc := 0) (.inr (.inr ⟨rfl, rfl, rfl⟩))
  rw [m1] at q2
  refine call_is q2 ?_
  clear q2
  rintro _ h2 ⟨w2, z2, o2', rfl, lw2, _, _, P2, hn2, B2⟩
  replace e3 : sendE kL1 sL1 (sealR aL aL 2054 []) = 3 := e3
  rw [e3]
  replace P2 : PC h2 1 2 3 kL2 := P2
  replace hn2 : h2[5]? = some (nicB sL2 1) := hn2
  have n0 : ¬ XN5 1 2 3 5 0 := by simp [XN5]
  have nio : ¬ XN5 1 2 3 5 io := by simp only [XN5]; omega
  have nw : ¬ XN5 1 2 3 5 w := by simp only [XN5]; omega
  have hm2 := B2.get hm1 n0
  have ho2 := B2.get ho1 nio
  have hw2 := B2.get hw nw
  clear P1 hn1 hm1 ho1 hw B2 lw2
  simp (maxSteps := 4000000) only [Try.results6, hm2, List.append_assoc, List.getElem?_append_left, List.getElem?_append_right, List.length_append, List.length_set, List.set_append_left, gset, List.getElem?_set_ne, Nat.add_sub_cancel_left, Nat.sub_self, Nat.le_refl, Nat.le_add_right, List.replicate_one, List.flatten_cons, List.flatten_nil, rep_flat, XX, Nat.reduceBEq, Nat.reduceLT, Nat.reduceAdd, Nat.reduceMul, Nat.reduceSub, Nat.reduceLeDiff, Nat.reduceEqDiff, Int.reduceToNat, Int.reduceLT, Int.reduceLE, Int.reduceAdd, Int.reduceSub, Int.reduceEq, reduceIte, Nat.reduceBNe, Int.reducePow, Nat.reducePow, Int.reduceMul, Int.reduceNeg, isB_i, isB_b, isB_y, isBv_i, isBv_b, eqCells_t, TT]
  have q3 := send5w_spec P2 o2 hn2 p2 aL 1 (l := []) (sp := []) (cc := 0) (.inr (.inr ⟨rfl, rfl, rfl⟩))
  rw [m2] at q3
  refine call_is q3 ?_
  clear q3
  rintro _ h3 ⟨w3, z3, o3', rfl, lw3, _, _, P3, hn3, B3⟩
  replace e4 : sendE kL2 sL2 (sealR aL aL 1 []) = 30 := e4
  rw [e4]
  replace P3 : PC h3 1 2 3 kL3 := P3
  replace hn3 : h3[5]? = some (nicB sL3 1) := hn3
  have hm3 := B3.get hm2 n0
  have ho3 := B3.get ho2 nio
  have hw3 := B3.get hw2 nw
  clear P2 hn2 hm2 ho2 hw2 B3 lw3
  simp (maxSteps := 4000000) only [Try.results6, hm3, List.append_assoc, List.getElem?_append_left, List.getElem?_append_right, List.length_append, List.length_set, List.set_append_left, gset, List.getElem?_set_ne, Nat.add_sub_cancel_left, Nat.sub_self, Nat.le_refl, Nat.le_add_right, List.replicate_one, List.flatten_cons, List.flatten_nil, rep_flat, XX, Nat.reduceBEq, Nat.reduceLT, Nat.reduceAdd, Nat.reduceMul, Nat.reduceSub, Nat.reduceLeDiff, Nat.reduceEqDiff, Int.reduceToNat, Int.reduceLT, Int.reduceLE, Int.reduceAdd, Int.reduceSub, Int.reduceEq, reduceIte, Nat.reduceBNe, Int.reducePow, Nat.reducePow, Int.reduceMul, Int.reduceNeg, isB_i, isB_b, isB_y, isBv_i, isBv_b, eqCells_t, TT]
  refine call_is (P3.dep o3) ?_
  rintro _ _ ⟨od, rfl, rfl, hod⟩
  rw [e5, e6]
  rw [e6] at hod
  obtain rfl : od = true := hod (by omega)
  have lh3 : w < h3.length ∧ io < h3.length ∧ 5 < h3.length := ⟨lt_of hw3, lt_of ho3, lt_of hn3⟩
  obtain ⟨id, hid⟩ : ∃ id, id = h3.length := ⟨_, rfl⟩
  rw [← hid]
  refine gen_hp (fun G => PC G 1 2 3 kL4 ∧ G[5]? = some (nicB sL3 1) ∧ (G[io]? = some ⟨true, 24, macC aL⟩ ∧ G[0]? = some ⟨true, 24, macC aL⟩) ∧ G[w]? = some (wB true (bL ++ z)) ∧ G[id]? = some (wB true bL)) ⟨(P3.set _).app _, ?_, ⟨?_, ?_⟩, ?_, ?_⟩ ?_
  · rw [List.getElem?_append_left (by rw [setC_len]; omega), setC_off (by decide) (by decide) (by decide)]; exact hn3
  · rw [List.getElem?_append_left (by rw [setC_len]; omega), setC_off (by omega) (by omega) (by omega)]; exact ho3
  · rw [List.getElem?_append_left (by rw [setC_len]; omega), setC_off (by decide) (by decide) (by decide)]; exact hm3
  · rw [List.getElem?_append_left (by rw [setC_len]; omega), setC_off (by omega) (by omega) (by omega)]; exact hw3
  · rw [hid, List.getElem?_append_right (by rw [setC_len]; exact Nat.le_refl _), setC_len, Nat.sub_self]; rfl
  have lid : io < id ∧ w < id := by omega
  clear P3 hn3 hm3 ho3 hw3 hod lh3 hid
  rintro G ⟨P4, hn4, ⟨ho4, hm4⟩, hw4, hd4⟩
  simp (maxSteps := 4000000) only [Try.results6, List.append_assoc, List.getElem?_append_left, List.getElem?_append_right, List.length_append, List.length_set, List.set_append_left, gset, List.getElem?_set_ne, Nat.add_sub_cancel_left, Nat.sub_self, Nat.le_refl, Nat.le_add_right, List.replicate_one, List.flatten_cons, List.flatten_nil, rep_flat, XX, Nat.reduceBEq, Nat.reduceLT, Nat.reduceAdd, Nat.reduceMul, Nat.reduceSub, Nat.reduceLeDiff, Nat.reduceEqDiff, Int.reduceToNat, Int.reduceLT, Int.reduceLE, Int.reduceAdd, Int.reduceSub, Int.reduceEq, reduceIte, Nat.reduceBNe, Int.reducePow, Nat.reducePow, Int.reduceMul, Int.reduceNeg, isB_i, isB_b, isB_y, isBv_i, isBv_b, eqCells_t, TT]
  refine call_is (P4.arrive o4 (b := bL) (sp := z) (.inr (.inl ⟨w, _, rfl, hw4, rfl, rfl, rfl⟩))) ?_
  rintro _ _ ⟨rfl, rfl⟩
  rw [e7]
  refine gen_hp (fun G => PC G 1 2 3 kL5 ∧ G[5]? = some (nicB sL3 1) ∧ (G[io]? = some ⟨true, 24, macC aL⟩ ∧ G[0]? = some ⟨true, 24, macC aL⟩) ∧ G[w]? = some (wB true (bL ++ z)) ∧ G[id]? = some (wB true bL)) ⟨P4.set _, ?_, ⟨?_, ?_⟩, ?_, ?_⟩ ?_
  · rw [setC_off (by decide) (by decide) (by decide)]; exact hn4
  · rw [setC_off (by omega) (by omega) (by omega)]; exact ho4
  · rw [setC_off (by decide) (by decide) (by decide)]; exact hm4
  · rw [setC_off (by omega) (by omega) (by omega)]; exact hw4
  · rw [setC_off (by omega) (by omega) (by omega)]; exact hd4
  clear P4 hn4 ho4 hm4 hw4 hd4 G
  rintro G ⟨P4, hn4, ⟨ho4, hm4⟩, hw4, hd4⟩
  simp (maxSteps := 4000000) only [Try.results6, List.append_assoc, List.getElem?_append_left, List.getElem?_append_right, List.length_append, List.length_set, List.set_append_left, gset, List.getElem?_set_ne, Nat.add_sub_cancel_left, Nat.sub_self, Nat.le_refl, Nat.le_add_right, List.replicate_one, List.flatten_cons, List.flatten_nil, rep_flat, XX, Nat.reduceBEq, Nat.reduceLT, Nat.reduceAdd, Nat.reduceMul, Nat.reduceSub, Nat.reduceLeDiff, Nat.reduceEqDiff, Int.reduceToNat, Int.reduceLT, Int.reduceLE, Int.reduceAdd, Int.reduceSub, Int.reduceEq, reduceIte, Nat.reduceBNe, Int.reducePow, Nat.reducePow, Int.reduceMul, Int.reduceNeg, isB_i, isB_b, isB_y, isBv_i, isBv_b, eqCells_t, TT]
  refine call_is (poll_spec P4 o5 hn4 p5 9 (by omega)) ?_
  rintro _ h5 ⟨sc, es, rfl, FL, efs, _, hn5, B5⟩
  rw [show (9 : Int).toNat = 9 from rfl] at efs hn5
  have key : ∀ i, 5 < i → ¬ XN5 1 2 3 5 i := fun i hi => by simp only [XN5]; omega
  have ho5 := B5.get ho4 (key _ io5)
  have hm5 := B5.get hm4 (by simp [XN5])
  have hw5 := B5.get hw4 (key _ (by omega))
  have hd5 := B5.get hd4 (key _ (by omega))
  obtain ⟨t, ht⟩ : ∃ t, t = (pollN 9 kL5 sL3).2.1 := ⟨_, rfl⟩
  rw [← ht] at e9 hn5
  obtain ⟨u1, u2, u3, u4⟩ := e9
  obtain ⟨e, rfl, ek⟩ : ∃ e : FE, es = [e] ∧ e.f.k = 2054 := by
    rw [← efs, List.map_map] at e8
    obtain ⟨e, r, rfl, h1, h2⟩ := List.map_eq_cons_iff.1 e8
    obtain rfl := List.map_eq_nil_iff.1 h2
    exact ⟨e, rfl, h1⟩
  obtain ⟨iF, oF, rF, rfl, loF, RF⟩ : ∃ iF o r, sc = .sl iF 0 1 (1 + r) ∧ G.length ≤ iF ∧ RowG h5 40 zeroFr iF o [e.c] r := by
    rcases FL.row with ⟨h, _⟩ | h
    · simp at h
    · exact h
  simp (maxSteps := 4000000) only [Try.results6, List.append_assoc, List.getElem?_append_left, List.getElem?_append_right, List.length_append, List.length_set, List.set_append_left, gset, List.getElem?_set_ne, Nat.add_sub_cancel_left, Nat.sub_self, Nat.le_refl, Nat.le_add_right, List.replicate_one, List.flatten_cons, List.flatten_nil, rep_flat, XX, Nat.reduceBEq, Nat.reduceLT, Nat.reduceAdd, Nat.reduceMul, Nat.reduceSub, Nat.reduceLeDiff, Nat.reduceEqDiff, Int.reduceToNat, Int.reduceLT, Int.reduceLE, Int.reduceAdd, Int.reduceSub, Int.reduceEq, reduceIte, Nat.reduceBNe, Int.reducePow, Nat.reducePow, Int.reduceMul, Int.reduceNeg, isB_i, isB_b, isB_y, isBv_i, isBv_b, eqCells_t, TT]
  refine call_is (stats_spec hn5) ?_
  rintro _ _ ⟨rfl, x5, rfl⟩
  rw [u1, u2, u3, u4]
  refine gen_hp (fun F => F[io]? = some ⟨true, 24, macC aL⟩ ∧ F[0]? = some ⟨true, 24, macC aL⟩ ∧ F[w]? = some (wB true (bL ++ z)) ∧ F[id]? = some (wB true bL) ∧ F[iF]? = some ⟨oF, 40, rowG zeroFr [e.c] rF⟩) ⟨(List.getElem?_append_left (lt_of ho5)).trans ho5, (List.getElem?_append_left (lt_of hm5)).trans hm5, (List.getElem?_append_left (lt_of hw5)).trans hw5, (List.getElem?_append_left (lt_of hd5)).trans hd5, (List.getElem?_append_left (lt_of RF.row)).trans RF.row⟩ ?_
  obtain rfl : oF = true := RF.own (by simp; omega)
  obtain ⟨T1, hT1⟩ := rowG_at (z := zeroFr) (r := rF) (fe_len (es := [e])) (show ([e].map FE.c)[0]? = some e.c from rfl)
  have lnA := rowG_len (z := zeroFr) (r := rF) (fe_len (es := [e])) rfl
  rw [show [e].map FE.c = [e.c] from rfl] at hT1 lnA
  clear hn5 ho5 hm5 hw5 hd5 RF FL B5 x5 P4 hn4 ho4 hm4 hw4 hd4 u1 u2 u3 u4 ht e8 efs
  rintro F ⟨ho, hm, hw, hd, hF⟩
  have lo := lt_of ho
  have lw := lt_of hw
  have ld := lt_of hd
  have lF := lt_of hF
  obtain ⟨R, hR⟩ : ∃ R, R = rowG zeroFr [e.c] rF := ⟨_, rfl⟩
  rw [← hR] at hF hT1 lnA
  have tk : ∀ a b : List UInt8, (bsC (a ++ b)).take a.length = bsC a := fun a b => by rw [bs_take, List.take_left' rfl]
  have tk0 : ∀ a : List UInt8, (bsC a).take a.length = bsC a := fun a => by rw [bs_take, List.take_length]
  have tA : (R.drop 0).take 14 = e.c := by rw [show (0 : Nat) = 0 * 14 from rfl, hT1]; exact List.take_left' rfl
  clear e1 e3 e4 e5 e6 e7 o0 o1 o2 o3 o4 o5 p0 p1 p2 p3 p4 p5 m0 m1 m2 m3 eb
  generalize bL = B at *
  have ho' : ∀ x : SB, (F ++ [x])[io]? = some ⟨true, 24, macC aL⟩ := fun x => (List.getElem?_append_left lo).trans ho
  have hm' : ∀ x : SB, (F ++ [x])[0]? = some ⟨true, 24, macC aL⟩ := fun x => (List.getElem?_append_left (lt_of hm)).trans hm
  have hw' : ∀ x : SB, (F ++ [x])[w]? = some (wB true (B ++ z)) := fun x => (List.getElem?_append_left lw).trans hw
  have hd' : ∀ x : SB, (F ++ [x])[id]? = some (wB true B) := fun x => (List.getElem?_append_left ld).trans hd
  have hF' : ∀ x : SB, (F ++ [x])[iF]? = some ⟨true, 40, R⟩ := fun x => (List.getElem?_append_left lF).trans hF
  have hx' : ∀ x : SB, (F ++ [x])[F.length]? = some x := fun x => app_self
  have hR0 : R = e.c ++ T1 := by rw [← hT1]; rfl
  have hR12 : R[12]? = some (SC.v (.int .i64 2054)) := by
    rw [hR0, show e.c = fraC e.f.d e.f.s (2054 : Nat) (slB e.w e.f.l e.z) by rw [← ek]]; rfl
  have hRg : R.getD 12 .any = SC.v (.int .i64 2054) := by rw [List.getD_eq_getElem?_getD, hR12]; rfl
  have hRl : 12 < R.length := (List.getElem?_eq_some_iff.1 hR12).1
  have em : eqCells [byteC 2, byteC 0, byteC 0, byteC 0, byteC 0, byteC 10] [byteC 2, byteC 0, byteC 0, byteC 0, byteC 0, byteC 10] = some true := rfl
  have em2 : eqCells [i64 1, i64 0, i64 1, i64 2] [i64 1, i64 0, i64 1, i64 2] = some true := rfl
  have d6 : decide ((B.length : Int) = 60) = true := by rw [e2]; rfl
  have dB : decide (B = B) = true := by simp
  simp (maxSteps := 4000000) only [Try.results6, em, em2, d6, dB, set_end, ho', hm', hw', hd', hF', hx', lo, lw, ld, lF, tk, tk0, strOf_bsC, str_eq, hRg, hRl, List.append_assoc, List.getElem?_append_left, List.getElem?_append_right, List.length_append, List.length_set, List.set_append_left, gset, List.getElem?_set_ne, Nat.add_sub_cancel_left, Nat.sub_self, Nat.le_refl, Nat.le_add_right, List.replicate_one, List.flatten_cons, List.flatten_nil, rep_flat, XX, Nat.reduceBEq, Nat.reduceLT, Nat.reduceAdd, Nat.reduceMul, Nat.reduceSub, Nat.reduceLeDiff, Nat.reduceEqDiff, Int.reduceToNat, Int.reduceLT, Int.reduceLE, Int.reduceAdd, Int.reduceSub, Int.reduceEq, reduceIte, Nat.reduceBNe, Int.reducePow, Nat.reducePow, Int.reduceMul, Int.reduceNeg, isB_i, isB_b, isB_y, isBv_i, isBv_b, eqCells_t, TT]
  refine ⟨⟨by simp, isByte_bsC _⟩, ⟨by simp, isByte_bsC _⟩⟩
theorem nicNumbers_walk : ∀ css, RTyL (RTy T reachBytes DEPTH) [] css → Spec Try.prog 3 (svs T [] css) [] fun r _ => r = .c (.v (.bool true)) := by
  intro css h
  obtain rfl := RTyL_nil h
  simp only [svs]
  refine spec_of_X cx_ok Try.func3 rfl (by kernel_rfl) (by kernel_rfl) (Nat.le_of_ble_eq_true rfl) 400 2 ?_
  simp (maxSteps := 4000000) only [Try.results3, XX, Nat.reduceBEq, Nat.reduceLT, Nat.reduceAdd, Nat.reduceMul, Nat.reduceSub, Nat.reduceLeDiff, Nat.reduceEqDiff, Int.reduceToNat, Int.reduceLT, Int.reduceLE, Int.reduceAdd, Int.reduceSub, Int.reduceEq, reduceIte, Nat.reduceBNe, Int.reducePow, Nat.reducePow, Int.reduceMul, Int.reduceNeg, isB_i, isB_b, isB_y, isBv_i, isBv_b, eqCells_t, TT]
  refine call_plain (live_spec) rfl ?_
  rintro _ rfl
  simp (maxSteps := 4000000) only [Try.results3, XX, Nat.reduceBEq, Nat.reduceLT, Nat.reduceAdd, Nat.reduceMul, Nat.reduceSub, Nat.reduceLeDiff, Nat.reduceEqDiff, Int.reduceToNat, Int.reduceLT, Int.reduceLE, Int.reduceAdd, Int.reduceSub, Int.reduceEq, reduceIte, Nat.reduceBNe, Int.reducePow, Nat.reducePow, Int.reduceMul, Int.reduceNeg, isB_i, isB_b, isB_y, isBv_i, isBv_b, eqCells_t, TT]
end Go.Proofs.Ythbojoiogjdbeaa.Sx
namespace Go.Proofs.Ythbojoiogjdbeaa.Sx
open Go
set_option linter.unusedSimpArgs false
set_option linter.unusedVariables false
set_option maxRecDepth 10000
set_option maxHeartbeats 8000000
/-- New cards stand alike. -/
theorem J4.start {H : List SB} {c w1 w2 rc rr rt bk n m j1 j2 : Nat} (n1 : 1 ≤ n) (n2 : n ≤ 64) (m1 : 1 ≤ m) (m2 : m ≤ 64) (hc : H[c]? = some (cardB w1 w2 n m (0 : Nat) (0 : Nat) 0 0 0)) (h1 : H[w1]? = some (stB (slC (List.replicate n (slT true))))) (h2 : H[w2]? = some (stB (slC (List.replicate m (slT false)))))
    (hrc : H[rc]? = some (rcB (.sl rr 0 n (n + j1)) (.sl rt 0 m (m + j2)) (0 : Nat) (0 : Nat) 0 0 0)) (hrr : H[rr]? = some (dB true (rowsN true n j1))) (hrt : H[rt]? = some (dB true (rowsN false m j2))) (hb : H[bk]? = some (bookB nilC nilC)) (ne : c ≠ w1 ∧ c ≠ w2 ∧ w1 ≠ w2) (ne' : rc ≠ rr ∧ rc ≠ rt ∧ rr ≠ rt) :
    J4 (fun _ => False) H c w1 w2 rc rr rt bk (newK n m) (newK n m) [] := by
  have rows : ∀ (b : Bool) (l j : Nat), rowsOf (fun _ => False) H (List.replicate l (slT b)) (rowsN b l j) := fun b l j i s hs => by
    obtain ⟨hi, rfl⟩ := List.getElem?_eq_some_iff.1 hs
    rw [List.length_replicate] at hi
    rw [List.getElem_replicate]
    exact ⟨.v (.slice none 0 0), by rw [List.getElem?_append_left (by simpa using hi), List.getElem?_replicate, if_pos hi], .inl ⟨rfl, rfl⟩⟩
  refine ⟨⟨by simpa [CK.B] using hc, h1, h2, ne⟩, ⟨rowsN true n j1, rowsN false m j2, n + j1, m + j2, ⟨by simpa using hrc, hrr, hrt, ne', by simp, by simp, by simp; omega, by simp; omega, by simp; omega, by simp; omega⟩, rows _ _ _, rows _ _ _⟩, .inl ⟨rfl, hb⟩, ⟨fun i e he => by simp at he, fun i e he => by simp at he, fun i e he => by simp at he, fun i j e f _ he => by simp at he⟩, fun e he => by simp at he, fun i hi => hi.elim⟩
theorem owned0_spec {H : List SB} {bk : Nat} (hb : H[bk]? = some (bookB nilC nilC)) : Spec cx.P 20 [.c (.ptr bk 0)] H fun t h' => t = .c (bC true) ∧ h' = H := by
  have ltb := lt_of hb
  refine spec_of_X cx_ok Try.func20 rfl (by kernel_rfl) (by kernel_rfl) (Nat.le_of_ble_eq_true rfl) 400 15 ?_
  simp (maxSteps := 4000000) only [Try.results20, XX, Nat.reduceBEq, Nat.reduceLT, Nat.reduceAdd, Nat.reduceMul, Nat.reduceSub, Nat.reduceLeDiff, Nat.reduceEqDiff, Int.reduceToNat, Int.reduceLT, Int.reduceLE, Int.reduceAdd, Int.reduceSub, Int.reduceEq, reduceIte, Nat.reduceBNe, Int.reducePow, Nat.reducePow, Int.reduceMul, Int.reduceNeg, isB_i, isB_b, isB_y, isBv_i, isBv_b, eqCells_t, TT]
  refine loop_rounds cx_ok 400 1 ?_
  simp (maxSteps := 4000000) only [Try.results20, hb, ltb, XX, Nat.reduceBEq, Nat.reduceLT, Nat.reduceAdd, Nat.reduceMul, Nat.reduceSub, Nat.reduceLeDiff, Nat.reduceEqDiff, Int.reduceToNat, Int.reduceLT, Int.reduceLE, Int.reduceAdd, Int.reduceSub, Int.reduceEq, reduceIte, Nat.reduceBNe, Int.reducePow, Nat.reducePow, Int.reduceMul, Int.reduceNeg, isB_i, isB_b, isB_y, isBv_i, isBv_b, eqCells_t, TT]
  refine loop_rounds cx_ok 400 1 ?_
  simp (maxSteps := 4000000) only [Try.results20, hb, ltb, XX, Nat.reduceBEq, Nat.reduceLT, Nat.reduceAdd, Nat.reduceMul, Nat.reduceSub, Nat.reduceLeDiff, Nat.reduceEqDiff, Int.reduceToNat, Int.reduceLT, Int.reduceLE, Int.reduceAdd, Int.reduceSub, Int.reduceEq, reduceIte, Nat.reduceBNe, Int.reducePow, Nat.reducePow, Int.reduceMul, Int.reduceNeg, isB_i, isB_b, isB_y, isBv_i, isBv_b, eqCells_t, TT]
  refine loop_rounds cx_ok 400 1 ?_
  simp (maxSteps := 4000000) only [Try.results20, hb, ltb, XX, Nat.reduceBEq, Nat.reduceLT, Nat.reduceAdd, Nat.reduceMul, Nat.reduceSub, Nat.reduceLeDiff, Nat.reduceEqDiff, Int.reduceToNat, Int.reduceLT, Int.reduceLE, Int.reduceAdd, Int.reduceSub, Int.reduceEq, reduceIte, Nat.reduceBNe, Int.reducePow, Nat.reducePow, Int.reduceMul, Int.reduceNeg, isB_i, isB_b, isB_y, isBv_i, isBv_b, eqCells_t, TT]
theorem RTy_mac5 {B n : Nat} {x : List RC} (h : RTy T B (n + 2) 24 x) : ∃ m : M6, x = bsR m.l := by
  obtain ⟨parts, h1, rfl, h2⟩ := RTy_array T_24 h
  obtain ⟨ys, rfl, _⟩ := all_form (p := fun _ => True) (f := fun b : UInt8 => [byteR b]) fun x hx => by
    obtain ⟨b, rfl⟩ := RTy_byte (h2 x hx)
    exact ⟨b, rfl, trivial⟩
  rw [List.length_map] at h1
  match ys, h1 with
  | [a, b, c, d, e, f], _ => exact ⟨⟨a, b, c, d, e, f⟩, rfl⟩
abbrev OpS.rc (o : OpS) : List RC := [.v (.int .i64 o.k), .v (.int .i64 o.i), .sl (bsR (o.l ++ o.sp)) o.l.length o.c, byteR o.d.a, byteR o.d.b, byteR o.d.c, byteR o.d.d, byteR o.d.e, byteR o.d.f, .v (.int .i64 o.sk), .sl (bsR (o.l2 ++ o.sp2)) o.l2.length o.c2]
theorem OpS.form {n : Nat} {x : List RC} (h : RTy T reachBytes (n + 5) 37 x) : ∃ o : OpS, x = o.rc ∧ o.ok := by
  obtain ⟨parts, rfl, hp⟩ := RTy_struct T_37 h
  obtain ⟨p0, _, rfl, q0, hp⟩ := RTyL_cons hp
  obtain ⟨p1, _, rfl, q1, hp⟩ := RTyL_cons hp
  obtain ⟨p2, _, rfl, q2, hp⟩ := RTyL_cons hp
  obtain ⟨p3, _, rfl, q3, hp⟩ := RTyL_cons hp
  obtain rfl := RTyL_nil hp
  obtain ⟨parts2, rfl, hq⟩ := RTy_struct T_35 q3
  obtain ⟨s0, _, rfl, r0, hq⟩ := RTyL_cons hq
  obtain ⟨s1, _, rfl, r1, hq⟩ := RTyL_cons hq
  obtain ⟨s2, _, rfl, r2, hq⟩ := RTyL_cons hq
  obtain rfl := RTyL_nil hq
  obtain ⟨k, rfl, hk1, hk2⟩ := RTy_int T_3 q0
  obtain ⟨i, rfl, hi1, hi2⟩ := RTy_int T_3 q1
  obtain ⟨l, sp, c, rfl, hl1, hl2, hl3, hl4⟩ := RTy_bytes q2
  obtain ⟨d, rfl⟩ := RTy_mac5 r0
  obtain ⟨sk, rfl, _⟩ := RTy_int T_3 r1
  obtain ⟨l2, sp2, c2, rfl, hm1, hm2, hm3, hm4⟩ := RTy_bytes r2
  change (-9223372036854775808 : Int) ≤ k at hk1
  change k ≤ (9223372036854775807 : Int) at hk2
  change (-9223372036854775808 : Int) ≤ i at hi1
  change i ≤ (9223372036854775807 : Int) at hi2
  have bl : l.length ≤ 140737488355328 := by
    have : l.length ≤ 140737488351232 := Nat.le_trans hl1 hl4
    omega
  have bm : l2.length ≤ 140737488355328 := by
    have : l2.length ≤ 140737488351232 := Nat.le_trans hm1 hm4
    omega
  have bk : k < 9223372036854775808 := by omega
  have bi : i < 9223372036854775808 := by omega
  exact ⟨⟨k, i, l, sp, c, d, sk, l2, sp2, c2⟩, rfl, ⟨⟨hk1, bk⟩, ⟨hi1, bi⟩, hl1, bl, hm1, bm⟩⟩
theorem opsS_drop {ops : List OpS} {i : Nat} {o : OpS} (h : ops[i]? = some o) : ∃ R, (ops.map OpS.rc).flatten.drop (i * 11) = o.rc ++ R := by
  have hl : ∀ x ∈ ops.map OpS.rc, x.length = 11 := by
    intro x hx
    simp only [List.mem_map] at hx
    obtain ⟨o, _, rfl⟩ := hx
    rfl
  obtain ⟨h1, rfl⟩ := List.getElem?_eq_some_iff.1 h
  have := flat_at hl (i := i) (by simpa using h1)
  rw [List.getElem_map] at this
  refine ⟨((ops.map OpS.rc).flatten.drop (i * 11)).drop 11, ?_⟩
  rw [← this, List.take_append_drop]
theorem ownedB_spec {S : Nat → Prop} {H : List SB} {c w1 w2 rc rr rt bk : Nat} {k : CK} {es : List OE} (J : J4 S H c w1 w2 rc rr rt bk k k es) (hn : es.length < 4398046511104) :
    Spec cx.P 20 [.c (.ptr bk 0)] H fun t h' => t = .c (bC true) ∧ H.length ≤ h'.length ∧ ∀ (i : Nat) (b : SB), H[i]? = some b → b.ty ≠ 57 → b.ty ≠ 33 → b.ty ≠ 9 → (∀ e ∈ es, e.w ≠ i) → h'[i]? = some b := by
  rcases J.B with ⟨rfl, hb⟩ | ⟨iL, cL, iW, cW, B⟩
  · exact (owned0_spec hb).mono fun t h' ⟨h1, h2⟩ => by subst h2; exact ⟨h1, Nat.le_refl _, fun i b hi _ _ _ _ => hi⟩
  · exact (ownedF_spec B J.O hn).mono fun t h' ⟨h1, h2, h3⟩ => ⟨h1, h2, fun i b hi n1 n2 n3 n4 => h3 i b hi (ty_ne hi B.b n1) (ty_ne hi B.L n2) (ty_ne hi B.W n3) n4⟩
section
variable {S : Nat → Prop} {H : List SB} {p c w1 w2 n rc rr rt m bk : Nat} {k : CK} {s : NS} {es : List OE}
theorem step_spec5 (q : Q5 S H c w1 w2 n rc rr rt m bk k k s s es) (ok : k.ok) (os : s.ok k) (hp : H[p]? = some (pair5 c n rc m bk)) (hes : es.length + frN k.rx ≤ 4398046511104) (o : OpS) (oo : o.ok) :
    Spec cx.P 18 [.c (.ptr p 0), .agg (opC5 o)] H (StepR p c w1 w2 n rc rr rt m bk k es) := by
  by_cases h1 : o.k = 1
  · exact step1_spec5 q ok os hp o oo h1
  by_cases h2 : o.k = 2
  · exact step2_spec5 q ok os hp o oo h2
  by_cases h3 : o.k = 3
  · exact step3_spec5 q ok os hp hes o oo h3
  by_cases h4 : o.k = 4
  · exact step4_spec5 q ok os hp (by omega) o oo h4
  exact stepN_spec q ok os hp o ⟨h1, h2, h3, h4⟩
end
end Go.Proofs.Ythbojoiogjdbeaa.Sx
namespace Go.Proofs.Ythbojoiogjdbeaa.Sx
open Go
set_option linter.unusedSimpArgs false
set_option linter.unusedVariables false
set_option maxRecDepth 10000
set_option maxHeartbeats 8000000
theorem nicPlays_walk : ∀ css, RTyL (RTy T reachBytes DEPTH) [3, 3, 24, 25] css → Spec Try.prog 5 (svs T [3, 3, 24, 25] css) [] fun r _ => r = .c (.v (.bool true)) := by
  intro css h
  obtain ⟨x1, xs1, rfl, h1, g1⟩ := RTyL_cons h
  obtain ⟨x2, xs2, rfl, h2, g2⟩ := RTyL_cons g1
  obtain ⟨x3, xs3, rfl, h3, g3⟩ := RTyL_cons g2
  obtain ⟨x4, xs4, rfl, h4, g4⟩ := RTyL_cons g3
  obtain rfl := RTyL_nil g4
  obtain ⟨n, rfl, hn⟩ := RTy_int T_3 h1
  obtain ⟨m, rfl, hm⟩ := RTy_int T_3 h2
  obtain ⟨own, rfl⟩ := RTy_mac5 h3
  obtain ⟨items, N, rfl, hlen, hmax, hit⟩ := RTy_slice T_25 T_37 h4
  obtain ⟨ops, rfl, hops⟩ := all_form fun x hx => OpS.form (n := 2) (hit.2 x hx)
  simp only [List.length_map] at hlen hmax
  unfold maxLen at hmax
  have e1 : ∀ a : Int, svOf T 3 [.v (.int .i64 a)] = .c (i64 a) := fun _ => rfl
  have e2 : svOf T 24 (bsR own.l) = .agg (macC own) := rfl
  have e3 : svOf T 25 [.sl (ops.map OpS.rc).flatten N (ops.map OpS.rc).length] = .c (.ro (ops.map OpS.rc).flatten N (ops.map OpS.rc).length) := rfl
  simp only [svs, e1, e2, e3]
  have hsz := hit.1
  clear h1 h2 h3 h4 g1 g2 g3 g4 h e1 e2 e3
  by_cases hb : n < 1 ∨ 64 < n ∨ m < 1 ∨ 64 < m
  · refine spec_of_X cx_ok Try.func5 rfl (by kernel_rfl) (by kernel_rfl) (Nat.le_of_ble_eq_true rfl) 400 14 ?_
    simp (maxSteps := 4000000) only [Try.results5, XX, Nat.reduceBEq, Nat.reduceLT, Nat.reduceAdd, Nat.reduceMul, Nat.reduceSub, Nat.reduceLeDiff, Nat.reduceEqDiff, Int.reduceToNat, Int.reduceLT, Int.reduceLE, Int.reduceAdd, Int.reduceSub, Int.reduceEq, reduceIte, Nat.reduceBNe, Int.reducePow, Nat.reducePow, Int.reduceMul, Int.reduceNeg, isB_i, isB_b, isB_y, isBv_i, isBv_b, eqCells_t, TT]
    refine call_plain (live_spec) rfl ?_
    rintro _ rfl
    simp (maxSteps := 4000000) only [Try.results5, XX, Nat.reduceBEq, Nat.reduceLT, Nat.reduceAdd, Nat.reduceMul, Nat.reduceSub, Nat.reduceLeDiff, Nat.reduceEqDiff, Int.reduceToNat, Int.reduceLT, Int.reduceLE, Int.reduceAdd, Int.reduceSub, Int.reduceEq, reduceIte, Nat.reduceBNe, Int.reducePow, Nat.reducePow, Int.reduceMul, Int.reduceNeg, isB_i, isB_b, isB_y, isBv_i, isBv_b, eqCells_t, TT]
    refine call_plain (newN_spec n m hb) rfl ?_
    rintro _ rfl
    simp (maxSteps := 4000000) only [Try.results5, XX, Nat.reduceBEq, Nat.reduceLT, Nat.reduceAdd, Nat.reduceMul, Nat.reduceSub, Nat.reduceLeDiff, Nat.reduceEqDiff, Int.reduceToNat, Int.reduceLT, Int.reduceLE, Int.reduceAdd, Int.reduceSub, Int.reduceEq, reduceIte, Nat.reduceBNe, Int.reducePow, Nat.reducePow, Int.reduceMul, Int.reduceNeg, isB_i, isB_b, isB_y, isBv_i, isBv_b, eqCells_t, TT]
    refine call_plain (rnewN_spec n m hb) rfl ?_
    rintro _ rfl
    simp (maxSteps := 4000000) only [Try.results5, XX, Nat.reduceBEq, Nat.reduceLT, Nat.reduceAdd, Nat.reduceMul, Nat.reduceSub, Nat.reduceLeDiff, Nat.reduceEqDiff, Int.reduceToNat, Int.reduceLT, Int.reduceLE, Int.reduceAdd, Int.reduceSub, Int.reduceEq, reduceIte, Nat.reduceBNe, Int.reducePow, Nat.reducePow, Int.reduceMul, Int.reduceNeg, isB_i, isB_b, isB_y, isBv_i, isBv_b, eqCells_t, TT]
    refine draw_of cx_ok (by kernel_rfl) 400 [0] [(0, true), (1, true), (2, true), (3, true), (5, true), (4, false), (6, false), (7, true), (8, true), (9, false)] (by kernel_rfl) rfl ?_
    simp (maxSteps := 4000000) only [Try.results5, XX, Nat.reduceBEq, Nat.reduceLT, Nat.reduceAdd, Nat.reduceMul, Nat.reduceSub, Nat.reduceLeDiff, Nat.reduceEqDiff, Int.reduceToNat, Int.reduceLT, Int.reduceLE, Int.reduceAdd, Int.reduceSub, Int.reduceEq, reduceIte, Nat.reduceBNe, Int.reducePow, Nat.reducePow, Int.reduceMul, Int.reduceNeg, isB_i, isB_b, isB_y, isBv_i, isBv_b, eqCells_t, TT]
    refine call_plain (new5N_spec own) rfl ?_
    rintro _ rfl
    simp (maxSteps := 4000000) only [Try.results5, XX, Nat.reduceBEq, Nat.reduceLT, Nat.reduceAdd, Nat.reduceMul, Nat.reduceSub, Nat.reduceLeDiff, Nat.reduceEqDiff, Int.reduceToNat, Int.reduceLT, Int.reduceLE, Int.reduceAdd, Int.reduceSub, Int.reduceEq, reduceIte, Nat.reduceBNe, Int.reducePow, Nat.reducePow, Int.reduceMul, Int.reduceNeg, isB_i, isB_b, isB_y, isBv_i, isBv_b, eqCells_t, TT]
    refine draw_of cx_ok (by kernel_rfl) 400 [0] [(0, true), (1, true), (2, true), (3, true), (5, true), (4, false), (6, false), (7, true), (8, true), (9, false)] (by kernel_rfl) rfl ?_
    simp (maxSteps := 4000000) only [Try.results5, XX, Nat.reduceBEq, Nat.reduceLT, Nat.reduceAdd, Nat.reduceMul, Nat.reduceSub, Nat.reduceLeDiff, Nat.reduceEqDiff, Int.reduceToNat, Int.reduceLT, Int.reduceLE, Int.reduceAdd, Int.reduceSub, Int.reduceEq, reduceIte, Nat.reduceBNe, Int.reducePow, Nat.reducePow, Int.reduceMul, Int.reduceNeg, isB_i, isB_b, isB_y, isBv_i, isBv_b, eqCells_t, TT]
    refine call_plain (rnew5N_spec own) rfl ?_
    rintro _ rfl
    simp (maxSteps := 4000000) only [Try.results5, XX, Nat.reduceBEq, Nat.reduceLT, Nat.reduceAdd, Nat.reduceMul, Nat.reduceSub, Nat.reduceLeDiff, Nat.reduceEqDiff, Int.reduceToNat, Int.reduceLT, Int.reduceLE, Int.reduceAdd, Int.reduceSub, Int.reduceEq, reduceIte, Nat.reduceBNe, Int.reducePow, Nat.reducePow, Int.reduceMul, Int.reduceNeg, isB_i, isB_b, isB_y, isBv_i, isBv_b, eqCells_t, TT]
    refine draw_of cx_ok (by kernel_rfl) 400 [2] [(0, true), (1, true), (2, true), (3, true), (4, true), (5, true), (6, true), (7, true), (8, true), (9, true), (10, true)] (by kernel_rfl) rfl ?_
    simp (maxSteps := 4000000) only [Try.results5, XX, Nat.reduceBEq, Nat.reduceLT, Nat.reduceAdd, Nat.reduceMul, Nat.reduceSub, Nat.reduceLeDiff, Nat.reduceEqDiff, Int.reduceToNat, Int.reduceLT, Int.reduceLE, Int.reduceAdd, Int.reduceSub, Int.reduceEq, reduceIte, Nat.reduceBNe, Int.reducePow, Nat.reducePow, Int.reduceMul, Int.reduceNeg, isB_i, isB_b, isB_y, isBv_i, isBv_b, eqCells_t, TT]
  · obtain ⟨n, rfl⟩ : ∃ k : Nat, n = k := ⟨n.toNat, by omega⟩
    obtain ⟨m, rfl⟩ : ∃ k : Nat, m = k := ⟨m.toNat, by omega⟩
    have hN := new_spec n m (by omega) (by omega) (by omega) (by omega)
    have hR := rnew_spec n m (by omega) (by omega) (by omega) (by omega)
    refine spec_of_X cx_ok Try.func5 rfl (by kernel_rfl) (by kernel_rfl) (Nat.le_of_ble_eq_true rfl) 400 14 ?_
    simp (maxSteps := 4000000) only [Try.results5, XX, Nat.reduceBEq, Nat.reduceLT, Nat.reduceAdd, Nat.reduceMul, Nat.reduceSub, Nat.reduceLeDiff, Nat.reduceEqDiff, Int.reduceToNat, Int.reduceLT, Int.reduceLE, Int.reduceAdd, Int.reduceSub, Int.reduceEq, reduceIte, Nat.reduceBNe, Int.reducePow, Nat.reducePow, Int.reduceMul, Int.reduceNeg, isB_i, isB_b, isB_y, isBv_i, isBv_b, eqCells_t, TT]
    refine call_plain (live_spec) rfl ?_
    rintro _ rfl
    simp (maxSteps := 4000000) only [Try.results5, XX, Nat.reduceBEq, Nat.reduceLT, Nat.reduceAdd, Nat.reduceMul, Nat.reduceSub, Nat.reduceLeDiff, Nat.reduceEqDiff, Int.reduceToNat, Int.reduceLT, Int.reduceLE, Int.reduceAdd, Int.reduceSub, Int.reduceEq, reduceIte, Nat.reduceBNe, Int.reducePow, Nat.reducePow, Int.reduceMul, Int.reduceNeg, isB_i, isB_b, isB_y, isBv_i, isBv_b, eqCells_t, TT]
    refine call_frame hN [] rfl rfl trivial rfl rfl ?_
    rintro _ _ ⟨rfl, rfl⟩
    simp (maxSteps := 4000000) only [Try.results5, ids_bsC, ren_bsC, noRo_bsC, plain_bsC, lt_bsC, ids_byte, ren_byte, noRo_byte, plain_byte, lt_byte, slC_ren, List.length_replicate, XX, Nat.reduceBEq, Nat.reduceLT, Nat.reduceAdd, Nat.reduceMul, Nat.reduceSub, Nat.reduceLeDiff, Nat.reduceEqDiff, Int.reduceToNat, Int.reduceLT, Int.reduceLE, Int.reduceAdd, Int.reduceSub, Int.reduceEq, reduceIte, Nat.reduceBNe, Int.reducePow, Nat.reducePow, Int.reduceMul, Int.reduceNeg, isB_i, isB_b, isB_y, isBv_i, isBv_b, eqCells_t, TT]
    refine call_frame hR [] rfl rfl trivial rfl rfl ?_
    rintro _ _ ⟨j1, j2, rfl, rfl⟩
    simp (maxSteps := 4000000) only [Try.results5, ids_bsC, ren_bsC, noRo_bsC, plain_bsC, lt_bsC, ids_byte, ren_byte, noRo_byte, plain_byte, lt_byte, dsN_ren, XX, Nat.reduceBEq, Nat.reduceLT, Nat.reduceAdd, Nat.reduceMul, Nat.reduceSub, Nat.reduceLeDiff, Nat.reduceEqDiff, Int.reduceToNat, Int.reduceLT, Int.reduceLE, Int.reduceAdd, Int.reduceSub, Int.reduceEq, reduceIte, Nat.reduceBNe, Int.reducePow, Nat.reducePow, Int.reduceMul, Int.reduceNeg, isB_i, isB_b, isB_y, isBv_i, isBv_b, eqCells_t, TT]
    refine draw_of cx_ok (by kernel_rfl) 400 [0] [(0, true), (1, true), (2, true), (3, true), (5, true), (4, false), (6, false), (7, true), (8, true), (9, false)] (by kernel_rfl) rfl ?_
    simp (maxSteps := 4000000) only [Try.results5, XX, Nat.reduceBEq, Nat.reduceLT, Nat.reduceAdd, Nat.reduceMul, Nat.reduceSub, Nat.reduceLeDiff, Nat.reduceEqDiff, Int.reduceToNat, Int.reduceLT, Int.reduceLE, Int.reduceAdd, Int.reduceSub, Int.reduceEq, reduceIte, Nat.reduceBNe, Int.reducePow, Nat.reducePow, Int.reduceMul, Int.reduceNeg, isB_i, isB_b, isB_y, isBv_i, isBv_b, eqCells_t, TT]
    refine call_is (new5_spec own) ?_
    rintro _ _ ⟨y0, rfl, rfl⟩
    simp (maxSteps := 4000000) only [Try.results5, XX, Nat.reduceBEq, Nat.reduceLT, Nat.reduceAdd, Nat.reduceMul, Nat.reduceSub, Nat.reduceLeDiff, Nat.reduceEqDiff, Int.reduceToNat, Int.reduceLT, Int.reduceLE, Int.reduceAdd, Int.reduceSub, Int.reduceEq, reduceIte, Nat.reduceBNe, Int.reducePow, Nat.reducePow, Int.reduceMul, Int.reduceNeg, isB_i, isB_b, isB_y, isBv_i, isBv_b, eqCells_t, TT]
    refine draw_of cx_ok (by kernel_rfl) 400 [0] [(0, true), (1, true), (2, true), (3, true), (5, true), (4, false), (6, false), (7, true), (8, true), (9, false)] (by kernel_rfl) rfl ?_
    simp (maxSteps := 4000000) only [Try.results5, XX, Nat.reduceBEq, Nat.reduceLT, Nat.reduceAdd, Nat.reduceMul, Nat.reduceSub, Nat.reduceLeDiff, Nat.reduceEqDiff, Int.reduceToNat, Int.reduceLT, Int.reduceLE, Int.reduceAdd, Int.reduceSub, Int.reduceEq, reduceIte, Nat.reduceBNe, Int.reducePow, Nat.reducePow, Int.reduceMul, Int.reduceNeg, isB_i, isB_b, isB_y, isBv_i, isBv_b, eqCells_t, TT]
    refine call_is (rnew5_spec own) ?_
    rintro _ _ ⟨y1, rfl, rfl⟩
    simp (maxSteps := 4000000) only [Try.results5, XX, Nat.reduceBEq, Nat.reduceLT, Nat.reduceAdd, Nat.reduceMul, Nat.reduceSub, Nat.reduceLeDiff, Nat.reduceEqDiff, Int.reduceToNat, Int.reduceLT, Int.reduceLE, Int.reduceAdd, Int.reduceSub, Int.reduceEq, reduceIte, Nat.reduceBNe, Int.reducePow, Nat.reducePow, Int.reduceMul, Int.reduceNeg, isB_i, isB_b, isB_y, isBv_i, isBv_b, eqCells_t, TT]
    refine draw_of cx_ok (by kernel_rfl) 400 [8] [(0, true), (1, true), (2, true), (3, true), (4, true), (5, true), (6, true), (7, true), (8, true), (9, true), (10, true)] (by kernel_rfl) rfl ?_
    simp (maxSteps := 4000000) only [Try.results5, XX, Nat.reduceBEq, Nat.reduceLT, Nat.reduceAdd, Nat.reduceMul, Nat.reduceSub, Nat.reduceLeDiff, Nat.reduceEqDiff, Int.reduceToNat, Int.reduceLT, Int.reduceLE, Int.reduceAdd, Int.reduceSub, Int.reduceEq, reduceIte, Nat.reduceBNe, Int.reducePow, Nat.reducePow, Int.reduceMul, Int.reduceNeg, isB_i, isB_b, isB_y, isBv_i, isBv_b, eqCells_t, TT]
    have hsz2 : ops.length * 80 ≤ 140737488351232 := by
      simp only [List.length_map] at hsz
      exact hsz
    have J0 := J4.start (bk := 7) (j1 := j1) (j2 := j2) (H := [⟨true, 24, macC own⟩, cardB 2 3 n m (0 : Nat) (0 : Nat) 0 0 0, stB (slC (List.replicate n (slT true))), stB (slC (List.replicate m (slT false))), rcB (.sl 5 0 n (n + j1)) (.sl 6 0 m (m + j2)) (0 : Nat) (0 : Nat) 0 0 0, dB true (rowsN true n j1), dB true (rowsN false m j2), bookB nilC nilC, pair5 1 10 4 12 7, y0, nicB ⟨own, 0, 0, 0, 0, 0, 0⟩ 1, y1, rnicB ⟨own, 0, 0, 0, 0, 0, 0⟩ 4]) (by omega) (by omega) (by omega) (by omega) (c := 1) (w1 := 2) (w2 := 3) rfl rfl rfl (rc := 4) (rr := 5) (rt := 6) rfl rfl rfl rfl (by decide) (by decide)
    have q0 : (⟨own, 0, 0, 0, 0, 0, 0⟩ : NS).ok (newK n m) := ⟨by simp [newK]; omega, by simp [newK]; omega⟩
    have fr0 : frN (newK n m).rx = 0 := by simp [frN, newK, slT]
    refine loop_any cx_ok 400 (fun μ σ => ∃ (i : Nat) (H : List SB) (S : Nat → Prop) (k : CK) (s : NS) (es : List OE), μ = N - i ∧ i ≤ N ∧ Q5 S H 1 2 3 10 4 5 6 12 7 k k s s es ∧ k.ok ∧ s.ok k ∧ H[8]? = some (pair5 1 10 4 12 7) ∧ es.length + frN k.rx ≤ i ∧
        σ = ⟨⟨14, 0⟩, [(0, .c (i64 (n : Nat))), (1, .c (i64 (m : Nat))), (2, .agg (macC own)), (3, .c (.ro (ops.map OpS.rc).flatten N (ops.map OpS.rc).length)), (6, .c (.ptr 0 0)), (8, .c (.v (.bool false))), (9, .c (bC true)), (10, .c (.ptr 8 0)), (11, .c (i64 i))], H⟩) N
      (⟨⟨14, 0⟩, [(0, .c (i64 (n : Nat))), (1, .c (i64 (m : Nat))), (2, .agg (macC own)), (3, .c (.ro (ops.map OpS.rc).flatten N (ops.map OpS.rc).length)), (6, .c (.ptr 0 0)), (8, .c (.v (.bool false))), (9, .c (bC true)), (10, .c (.ptr 8 0)), (11, .c (i64 (0 : Nat)))], _⟩)
      ⟨0, _, fun _ => False, newK n m, ⟨own, 0, 0, 0, 0, 0, 0⟩, [], rfl, Nat.zero_le _, ⟨J0, rfl, rfl⟩, newK_ok (by omega) (by omega) (by omega) (by omega), q0, rfl, by rw [fr0]; exact Nat.le_refl _, rfl⟩ (.inl ⟨rfl, rfl, rfl, rfl, rfl, rfl, rfl, rfl, rfl, rfl, rfl, trivial⟩) ?_
    clear hN hR J0 q0 fr0
    rintro μ σ ⟨i, H, S, k, s, es, rfl, hi, Q, ok, os, h8, hes, rfl⟩
    by_cases hlt : i < N
    · have di : decide ((i : Int) < (N : Int)) = true := by simp only [decide_eq_true_eq]; omega
      have ei : IntKind.i64.wrap ((i : Int) + 1) = ((i + 1 : Nat) : Int) := by rw [w64] <;> omega
      obtain ⟨o, ho⟩ : ∃ o, ops[i]? = some o := ⟨_, List.getElem?_eq_getElem (by omega)⟩
      obtain ⟨R, hR⟩ := opsS_drop ho
      simp only [OpS.rc, List.cons_append, List.nil_append] at hR
      have oo := hops o (List.mem_of_getElem? ho)
      simp (maxSteps := 4000000) only [Try.results5, di, hR, XX, Nat.reduceBEq, Nat.reduceLT, Nat.reduceAdd, Nat.reduceMul, Nat.reduceSub, Nat.reduceLeDiff, Nat.reduceEqDiff, Int.reduceToNat, Int.reduceLT, Int.reduceLE, Int.reduceAdd, Int.reduceSub, Int.reduceEq, reduceIte, Nat.reduceBNe, Int.reducePow, Nat.reducePow, Int.reduceMul, Int.reduceNeg, isB_i, isB_b, isB_y, isBv_i, isBv_b, eqCells_t, TT]
      refine ⟨by omega, ?_⟩
      refine call_is (step_spec5 Q ok os h8 (by omega) o oo) ?_
      rintro _ h' ⟨rfl, S1, k1, s1, es1, Q1, ok1, os1, g8, l1⟩
      simp (maxSteps := 4000000) only [Try.results5, XX, Nat.reduceBEq, Nat.reduceLT, Nat.reduceAdd, Nat.reduceMul, Nat.reduceSub, Nat.reduceLeDiff, Nat.reduceEqDiff, Int.reduceToNat, Int.reduceLT, Int.reduceLE, Int.reduceAdd, Int.reduceSub, Int.reduceEq, reduceIte, Nat.reduceBNe, Int.reducePow, Nat.reducePow, Int.reduceMul, Int.reduceNeg, isB_i, isB_b, isB_y, isBv_i, isBv_b, eqCells_t, TT]
      refine call_is (alike_spec Q1.J.hS ok1 Q1.J.C Q1.J.R Q1.hn Q1.hm g8) ?_
      rintro _ h'' ⟨rfl, B2⟩
      simp (maxSteps := 4000000) only [Try.results5, ei, XX, Nat.reduceBEq, Nat.reduceLT, Nat.reduceAdd, Nat.reduceMul, Nat.reduceSub, Nat.reduceLeDiff, Nat.reduceEqDiff, Int.reduceToNat, Int.reduceLT, Int.reduceLE, Int.reduceAdd, Int.reduceSub, Int.reduceEq, reduceIte, Nat.reduceBNe, Int.reducePow, Nat.reducePow, Int.reduceMul, Int.reduceNeg, isB_i, isB_b, isB_y, isBv_i, isBv_b, eqCells_t, TT]
      exact ⟨N - (i + 1), by omega, _, ⟨i + 1, h'', _, k1, s1, es1, rfl, by omega, Q1.new B2, ok1, os1, B2.get g8 (fun h => h), by omega, rfl⟩, .inl ⟨rfl, rfl, rfl, rfl, rfl, rfl, rfl, rfl, rfl, rfl, rfl, trivial⟩⟩
    · obtain rfl : i = N := by omega
      have di : decide ((i : Int) < (i : Int)) = false := by simp
      have l8 := lt_of h8
      simp (maxSteps := 4000000) only [Try.results5, di, h8, l8, XX, Nat.reduceBEq, Nat.reduceLT, Nat.reduceAdd, Nat.reduceMul, Nat.reduceSub, Nat.reduceLeDiff, Nat.reduceEqDiff, Int.reduceToNat, Int.reduceLT, Int.reduceLE, Int.reduceAdd, Int.reduceSub, Int.reduceEq, reduceIte, Nat.reduceBNe, Int.reducePow, Nat.reducePow, Int.reduceMul, Int.reduceNeg, isB_i, isB_b, isB_y, isBv_i, isBv_b, eqCells_t, TT]
      refine call_is (ownedB_spec Q.J (by omega)) ?_
      rintro _ h' ⟨rfl, _⟩
      simp (maxSteps := 4000000) only [Try.results5, XX, Nat.reduceBEq, Nat.reduceLT, Nat.reduceAdd, Nat.reduceMul, Nat.reduceSub, Nat.reduceLeDiff, Nat.reduceEqDiff, Int.reduceToNat, Int.reduceLT, Int.reduceLE, Int.reduceAdd, Int.reduceSub, Int.reduceEq, reduceIte, Nat.reduceBNe, Int.reducePow, Nat.reducePow, Int.reduceMul, Int.reduceNeg, isB_i, isB_b, isB_y, isBv_i, isBv_b, eqCells_t, TT]
end Go.Proofs.Ythbojoiogjdbeaa.Sx
