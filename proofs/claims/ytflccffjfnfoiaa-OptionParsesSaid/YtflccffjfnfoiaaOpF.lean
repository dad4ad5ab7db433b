/- The symbolic executor, at work: rows of options in memory. No condition. -/
import Derived.Test.YtflccffjfnfoiaaOpB
import Derived.Test.YtflccffjfnfoiaaAp
namespace Go.Proofs.Ytflccffjfnfoiaa.Sx
open Go
set_option linter.unusedSimpArgs false
set_option linter.unusedVariables false
set_option maxRecDepth 10000
set_option maxHeartbeats 2000000

/-- An option in a row: its code, its bytes, where they stand, what stands behind them. -/
structure PE where
  k : Int
  d : List UInt8
  w : Nat
  sp : List UInt8
  o : Bool
abbrev PE.c (e : PE) : List SC := [i64 e.k, slB e.w e.d e.sp]
abbrev PE.oi (e : PE) : OI := ⟨e.k, e.d, e.sp, e.d.length + e.sp.length⟩
abbrev nilS : SC := .v (.slice none 0 0)
abbrev zeroO : List SC := [i64 0, nilS]
abbrev optB (o : Bool) (l : List SC) : SB := ⟨o, 58, l⟩
abbrev rowC (es : List PE) (r : Nat) : List SC := (es.map PE.c).flatten ++ (List.replicate r zeroO).flatten
structure Opts (H : List SB) (iO : Nat) (o : Bool) (es : List PE) (r : Nat) : Prop where
  row : H[iO]? = some (optB o (rowC es r))
  own : 0 < es.length + r → o = true
  at_ : ∀ (i : Nat) (e : PE), es[i]? = some e → H[e.w]? = some (wB e.o (e.d ++ e.sp)) ∧ (0 < e.d.length + e.sp.length → e.o = true)
  ne : ∀ (i j : Nat) (e f : PE), i ≠ j → es[i]? = some e → es[j]? = some f → e.w ≠ f.w
theorem Opts.mono {H H' : List SB} {iO : Nat} {o : Bool} {es : List PE} {r : Nat} (O : Opts H iO o es r) (h : ∀ k, k < H.length → H'[k]? = H[k]?) : Opts H' iO o es r :=
  ⟨(h _ (lt_of O.row)).trans O.row, O.own, fun i e he => ⟨(h _ (lt_of (O.at_ i e he).1)).trans (O.at_ i e he).1, (O.at_ i e he).2⟩, O.ne⟩
theorem Opts.app {H : List SB} {iO : Nat} {o : Bool} {es : List PE} {r : Nat} (O : Opts H iO o es r) (t : List SB) : Opts (H ++ t) iO o es r :=
  O.mono fun k hk => List.getElem?_append_left hk
theorem pe_len {es : List PE} : ∀ l ∈ es.map PE.c, l.length = 2 := by
  intro y hy
  simp only [List.mem_map] at hy
  obtain ⟨o, _, rfl⟩ := hy
  rfl
theorem flatc_len (es : List PE) : ((es.map PE.c).flatten).length = es.length * 2 := by
  induction es with
  | nil => rfl
  | cons e es ih => simp only [List.map_cons, List.flatten_cons, List.length_append, ih, List.length_cons]; simp only [List.length_nil]; omega
theorem rowC_len (es : List PE) (r : Nat) : (rowC es r).length = (es.length + r) * 2 := by
  rw [List.length_append, flatc_len, rep_len (sz := 2) rfl]; omega
theorem row_drop {es : List PE} {r i : Nat} {e : PE} (h : es[i]? = some e) : ∃ R, (rowC es r).drop (i * 2) = e.c ++ R := by
  obtain ⟨h1, rfl⟩ := List.getElem?_eq_some_iff.1 h
  have := flat_at (l := es.map PE.c) (i := i) pe_len (by simpa using h1)
  rw [List.getElem_map] at this
  refine ⟨((es.map PE.c).flatten.drop (i * 2)).drop 2 ++ (List.replicate r zeroO).flatten, ?_⟩
  rw [← List.append_assoc, ← this, List.take_append_drop, List.drop_append_of_le_length (by rw [flatc_len]; omega)]
theorem row_take {es : List PE} {r i : Nat} {e : PE} (h : es[i]? = some e) : ((rowC es r).drop (i * 2)).take 2 = e.c := by
  obtain ⟨R, hR⟩ := row_drop (r := r) h
  rw [hR]; rfl
theorem row_get {es : List PE} {r i : Nat} {e : PE} (h : es[i]? = some e) : (rowC es r).getD (i * 2) .any = i64 e.k ∧ (rowC es r).getD (i * 2 + 1) .any = slB e.w e.d e.sp := by
  obtain ⟨R, hR⟩ := row_drop (r := r) h
  have a0 : (rowC es r)[i * 2]? = ((rowC es r).drop (i * 2))[0]? := by rw [List.getElem?_drop]; rfl
  have a1 : (rowC es r)[i * 2 + 1]? = ((rowC es r).drop (i * 2))[1]? := by rw [List.getElem?_drop]
  rw [List.getD_eq_getElem?_getD, List.getD_eq_getElem?_getD, a0, a1, hR]
  exact ⟨rfl, rfl⟩

theorem row_pre {es : List PE} {r : Nat} : (rowC es r).take (es.length * 2) = (es.map PE.c).flatten := by
  rw [← flatc_len]; exact List.take_left' rfl
theorem row_post {es : List PE} {r : Nat} : (rowC es (r + 1)).drop (es.length * 2 + 2) = (List.replicate r zeroO).flatten := by
  rw [List.drop_append, List.drop_of_length_le (by rw [flatc_len]; omega), List.nil_append, flatc_len, Nat.add_sub_cancel_left, List.replicate_succ, List.flatten_cons]; rfl
theorem flatc_app (es : List PE) (e : PE) : ((es ++ [e]).map PE.c).flatten = (es.map PE.c).flatten ++ e.c := by
  rw [List.map_append, List.flatten_append]
  simp only [List.map_cons, List.map_nil, List.flatten_cons, List.flatten_nil, List.append_nil]
theorem flatc_split {es : List PE} {i : Nat} {e : PE} (h : es[i]? = some e) : (es.map PE.c).flatten = ((es.take i).map PE.c).flatten ++ (e.c ++ ((es.drop (i + 1)).map PE.c).flatten) := by
  obtain ⟨h1, rfl⟩ := List.getElem?_eq_some_iff.1 h
  conv => lhs; rw [← List.take_append_drop i es, List.drop_eq_getElem_cons h1]
  rw [List.map_append, List.flatten_append, List.map_cons, List.flatten_cons]
theorem row_store {es : List PE} {r i : Nat} {e f : PE} (h : es[i]? = some e) (hk : f.k = e.k) : (rowC es r).take (i * 2 + 1) ++ (slB f.w f.d f.sp :: (rowC es r).drop (i * 2 + 2)) = rowC (es.set i f) r := by
  have hi := (List.getElem?_eq_some_iff.1 h).1
  have hs : (es.set i f)[i]? = some f := by rw [List.getElem?_set_self hi]
  have e1 := flatc_split h
  have e2 := flatc_split hs
  have t1 : (es.set i f).take i = es.take i := List.take_set_of_le (Nat.le_refl _)
  have t2 : (es.set i f).drop (i + 1) = es.drop (i + 1) := List.drop_set_of_lt (by omega)
  rw [t1, t2] at e2
  have l0 : (((es.take i).map PE.c).flatten).length = i * 2 := by rw [flatc_len, List.length_take, Nat.min_eq_left (by omega)]
  simp only [rowC, e1, e2, List.append_assoc]
  generalize ((es.take i).map PE.c).flatten = A at l0 ⊢
  have q1 : A.take (i * 2 + 1) = A := List.take_of_length_le (by omega)
  have q2 : A.drop (i * 2 + 2) = [] := List.drop_of_length_le (by omega)
  rw [List.take_append, List.drop_append, q1, q2, l0, Nat.add_sub_cancel_left, Nat.add_sub_cancel_left, List.append_assoc, List.nil_append]
  show A ++ ([i64 e.k] ++ _) = A ++ ([i64 f.k, _] ++ _)
  rw [hk]
  rfl

def rowN (es : List PE) (k : Int) (r : Nat) : List SC := (es.map PE.c).flatten ++ ([i64 k, nilS] ++ (List.replicate r zeroO).flatten)
theorem rowN_len (es : List PE) (k : Int) (r : Nat) : (rowN es k r).length = (es.length + 1 + r) * 2 := by
  rw [rowN, List.length_append, flatc_len, List.length_append, rep_len (sz := 2) rfl]; simp; omega
theorem rowN_get (es : List PE) (k : Int) (r : Nat) : (rowN es k r).getD (es.length * 2 + 1) .any = nilS := by
  rw [rowN, List.getD_eq_getElem?_getD, List.getElem?_append_right (by rw [flatc_len]; omega), flatc_len, Nat.add_sub_cancel_left]; rfl
theorem rowN_store (es : List PE) (k : Int) (r : Nat) (x : SC) : (rowN es k r).take (es.length * 2 + 1) ++ (x :: (rowN es k r).drop (es.length * 2 + 2)) = (es.map PE.c).flatten ++ ([i64 k, x] ++ (List.replicate r zeroO).flatten) := by
  have l0 := flatc_len es
  unfold rowN
  generalize (es.map PE.c).flatten = A at l0 ⊢
  have q1 : A.take (es.length * 2 + 1) = A := List.take_of_length_le (by omega)
  have q2 : A.drop (es.length * 2 + 2) = [] := List.drop_of_length_le (by omega)
  rw [List.take_append, List.drop_append, q1, q2, l0, Nat.add_sub_cancel_left, Nat.add_sub_cancel_left, List.append_assoc, List.nil_append]
  rfl
/-- A row to which an option without bytes was laid. -/
structure OptsN (H : List SB) (iO : Nat) (es : List PE) (k : Int) (r : Nat) : Prop where
  row : H[iO]? = some (optB true (rowN es k r))
  at_ : ∀ (i : Nat) (e : PE), es[i]? = some e → H[e.w]? = some (wB e.o (e.d ++ e.sp)) ∧ (0 < e.d.length + e.sp.length → e.o = true)
  ne : ∀ (i j : Nat) (e f : PE), i ≠ j → es[i]? = some e → es[j]? = some f → e.w ≠ f.w
theorem Opts.neR {H : List SB} {iO : Nat} {o : Bool} {es : List PE} {r i : Nat} {e : PE} (O : Opts H iO o es r) (h : es[i]? = some e) : e.w ≠ iO :=
  ne_of_ty (O.at_ i e h).1 O.row (fun h => absurd h (by decide : (5 : Nat) ≠ 58))
theorem OptsN.neR {H : List SB} {iO : Nat} {es : List PE} {k : Int} {r i : Nat} {e : PE} (O : OptsN H iO es k r) (h : es[i]? = some e) : e.w ≠ iO :=
  ne_of_ty (O.at_ i e h).1 O.row (fun h => absurd h (by decide : (5 : Nat) ≠ 58))
theorem opts_push {xn : XN} {dst : Option Tmp} {k : List KI} {nm : NB} {tm : List (Nat × SV)} {Q : XE → St → Prop} {H : List SB} {iO g : Nat} {o : Bool} {es : List PE} {r : Nat} {c : Int} {b : SB} (O : Opts H iO o es r) (hg : g = H.length + 1)
    (hk : ∀ H' iO' r', OptsN H' iO' es c r' → H.length ≤ H'.length → (∀ i, i < H.length → i ≠ iO → H'[i]? = H[i]?) → (iO' = iO ∨ H.length ≤ iO') → xn k ⟨nm, put dst (.c (.sl iO' 0 (es.length + 1) (es.length + 1 + r'))) tm, H'⟩ Q) :
    XApp xn (es.length + 1) (es.length + r) dst k nm tm (.c (.sl iO 0 (es.length + 1) (es.length + r)), H.set iO ⟨o, 58, (rowC es r).take (es.length * 2) ++ i64 c :: nilS :: (rowC es r).drop (es.length * 2 + 2)⟩ ++ [b])
      (fun c' => (.c (.sl g 0 (es.length + 1) c'), H ++ [b, ⟨true, 58, (rowC es r).take (es.length * 2) ++ i64 c :: nilS :: (List.replicate (c' - (es.length + 1)) [SC.v (.int .i64 0), SC.v (.slice none 0 0)]).flatten⟩])) Q := by
  have lO := lt_of O.row
  refine xapp_P (fun s H' => ∃ iO' r', s = .c (.sl iO' 0 (es.length + 1) (es.length + 1 + r')) ∧ OptsN H' iO' es c r' ∧ H.length ≤ H'.length ∧ (∀ i, i < H.length → i ≠ iO → H'[i]? = H[i]?) ∧ (iO' = iO ∨ H.length ≤ iO')) (fun h => ?_) (fun h c' h1 h2 => ?_) ?_
  · obtain ⟨r', rfl⟩ : ∃ r', r = r' + 1 := ⟨r - 1, by omega⟩
    have ho := O.own (by omega)
    subst ho
    have kp : ∀ i, i < H.length → i ≠ iO → (H.set iO ⟨true, 58, (rowC es (r' + 1)).take (es.length * 2) ++ i64 c :: nilS :: (rowC es (r' + 1)).drop (es.length * 2 + 2)⟩ ++ [b])[i]? = H[i]? := fun i hi hne => by
      rw [List.getElem?_append_left (by simpa using hi), List.getElem?_set_ne (Ne.symm hne)]
    refine ⟨iO, r', by rw [Nat.add_assoc, Nat.add_comm 1 r'], ⟨?_, fun i e he => ⟨(kp _ (lt_of (O.at_ i e he).1) (O.neR he)).trans (O.at_ i e he).1, (O.at_ i e he).2⟩, O.ne⟩, by simp, kp, .inl rfl⟩
    rw [List.getElem?_append_left (by simpa using lO), List.getElem?_set_self lO, row_pre, row_post]; rfl
  · obtain ⟨j, rfl⟩ := Nat.exists_eq_add_of_le h1
    have kp : ∀ (X : List SB) i, i < H.length → (H ++ X)[i]? = H[i]? := fun X i hi => List.getElem?_append_left hi
    refine ⟨g, j, rfl, ⟨?_, fun i e he => ⟨(kp _ _ (lt_of (O.at_ i e he).1)).trans (O.at_ i e he).1, (O.at_ i e he).2⟩, O.ne⟩, by simp, fun i hi _ => kp _ _ hi, .inr (by omega)⟩
    rw [hg, List.getElem?_append_right (by omega), Nat.add_sub_cancel_left, row_pre, Nat.add_sub_cancel_left]; rfl
  · rintro s H' ⟨iO', r', rfl, h1, h2, h3, h4⟩
    exact hk H' iO' r' h1 h2 h3 h4
theorem opts_new {H : List SB} {iO : Nat} {es : List PE} {k : Int} {r : Nat} {d : List UInt8} {sp : List UInt8} {o : Bool} (O : OptsN H iO es k r) (ho : 0 < d.length + sp.length → o = true) {cells : List SC} (hc : cells = (es.map PE.c).flatten ++ ([i64 k, slB H.length d sp] ++ (List.replicate r zeroO).flatten)) :
    Opts (H.set iO ⟨true, 58, cells⟩ ++ [wB o (d ++ sp)]) iO true (es ++ [⟨k, d, H.length, sp, o⟩]) r := by
  subst hc
  have lO := lt_of O.row
  rw [← List.set_append_left _ _ lO]
  have old : ∀ i e, (es ++ [⟨k, d, H.length, sp, o⟩])[i]? = some e → (es[i]? = some e ∧ e.w < H.length ∧ e.w ≠ iO) ∨ (i = es.length ∧ e = ⟨k, d, H.length, sp, o⟩) := fun i e he => by
    rcases Nat.lt_or_ge i es.length with hi | hi
    · rw [List.getElem?_append_left hi] at he
      exact .inl ⟨he, lt_of (O.at_ i e he).1, O.neR he⟩
    · rw [List.getElem?_append_right hi] at he
      have : i - es.length = 0 := by have := (List.getElem?_eq_some_iff.1 he).1; simpa using this
      rw [this] at he
      cases he
      exact .inr ⟨by omega, rfl⟩
  refine ⟨?_, fun _ => rfl, fun i e he => ?_, fun i j e f hij he hf => ?_⟩
  · rw [List.getElem?_set_self (by simp; omega)]
    simp only [rowC, flatc_app, List.append_assoc]
  · rcases old i e he with ⟨h1, h2, h3⟩ | ⟨rfl, rfl⟩
    · rw [List.getElem?_set_ne (Ne.symm h3), List.getElem?_append_left h2]
      exact O.at_ i e h1
    · refine ⟨?_, ho⟩
      rw [List.getElem?_set_ne (by show iO ≠ H.length; omega), List.getElem?_append_right (Nat.le_refl _), Nat.sub_self]; rfl
  · rcases old i e he with ⟨h1, h2, h3⟩ | ⟨rfl, rfl⟩ <;> rcases old j f hf with ⟨g1, g2, g3⟩ | ⟨rfl, rfl⟩
    · exact O.ne i j e f hij h1 g1
    · show e.w ≠ H.length; omega
    · show H.length ≠ f.w; omega
    · omega
theorem opts_old {H H1 : List SB} {iO : Nat} {o o' : Bool} {es : List PE} {r i w' : Nat} {e : PE} {d sp' : List UInt8} (O : Opts H iO o es r) (he : es[i]? = some e) (B : Buf H1 w' o' (e.d ++ d) sp') (hl : H.length ≤ H1.length) (hkp : ∀ k, k < H.length → k ≠ e.w → H1[k]? = H[k]?) (hw : w' = e.w ∨ H.length ≤ w') {cells : List SC} (hc : cells = rowC (es.set i ⟨e.k, e.d ++ d, w', sp', o'⟩) r) :
    Opts (H1.set iO ⟨o, 58, cells⟩) iO o (es.set i ⟨e.k, e.d ++ d, w', sp', o'⟩) r := by
  subst hc
  have lO := lt_of O.row
  have hi := (List.getElem?_eq_some_iff.1 he).1
  have ne0 := O.neR he
  have lw := lt_of (O.at_ i e he).1
  have nw : iO ≠ w' := by rcases hw with rfl | hw <;> omega
  have old : ∀ j f, (es.set i ⟨e.k, e.d ++ d, w', sp', o'⟩)[j]? = some f → (j ≠ i ∧ es[j]? = some f ∧ f.w < H.length ∧ f.w ≠ e.w) ∨ (j = i ∧ f = ⟨e.k, e.d ++ d, w', sp', o'⟩) := fun j f hf => by
    by_cases hj : j = i
    · subst hj
      rw [List.getElem?_set_self hi] at hf
      cases hf
      exact .inr ⟨rfl, rfl⟩
    · rw [List.getElem?_set_ne (Ne.symm hj)] at hf
      exact .inl ⟨hj, hf, lt_of (O.at_ j f hf).1, O.ne j i f e hj hf he⟩
  refine ⟨?_, fun h => O.own (by simpa using h), fun j f hf => ?_, fun a b f g hab hf hg => ?_⟩
  · rw [List.getElem?_set_self (by omega)]
  · rcases old j f hf with ⟨h0, h1, h2, h3⟩ | ⟨rfl, rfl⟩
    · rw [List.getElem?_set_ne (O.neR h1).symm, hkp _ h2 h3]
      exact O.at_ j f h1
    · rw [List.getElem?_set_ne nw]
      exact ⟨B.at_, B.own⟩
  · rcases old a f hf with ⟨h0, h1, h2, h3⟩ | ⟨rfl, rfl⟩ <;> rcases old b g hg with ⟨g0, g1, g2, g3⟩ | ⟨rfl, rfl⟩
    · exact O.ne a b f g hab h1 g1
    · show f.w ≠ w'; rcases hw with rfl | hw <;> omega
    · show w' ≠ g.w; rcases hw with rfl | hw <;> omega
    · omega

/-- Where the option of a code stands; none: -1. -/
def atK (ks : List Int) (k : Int) : Int := match ks.findIdx? fun a => decide (a = k) with
  | some i => i
  | none => -1
theorem atK_skip {ks : List Int} {k : Int} {i : Nat} {a : Int} (h : ((ks.drop i).findIdx? fun a => decide (a = k)).map (· + i) = ks.findIdx? fun a => decide (a = k)) (hx : ks[i]? = some a) (hk : a ≠ k) :
    ((ks.drop (i + 1)).findIdx? fun a => decide (a = k)).map (· + (i + 1)) = ks.findIdx? fun a => decide (a = k) := by
  rw [← h]
  obtain ⟨hi, rfl⟩ := List.getElem?_eq_some_iff.1 hx
  conv => rhs; rw [List.drop_eq_getElem_cons hi]
  rw [List.findIdx?_cons, show decide (ks[i] = k) = false by simpa using hk]
  simp only [Bool.false_eq_true, if_false, Option.map_map]
  congr 1
  funext n
  simp only [Function.comp_apply]
  omega
theorem atK_hit {ks : List Int} {k : Int} {i : Nat} {a : Int} (h : ((ks.drop i).findIdx? fun a => decide (a = k)).map (· + i) = ks.findIdx? fun a => decide (a = k)) (hx : ks[i]? = some a) (hk : a = k) : atK ks k = i := by
  obtain ⟨hi, rfl⟩ := List.getElem?_eq_some_iff.1 hx
  rw [List.drop_eq_getElem_cons hi, List.findIdx?_cons, show decide (ks[i] = k) = true by simpa using hk] at h
  unfold atK
  rw [← h]
  simp
theorem atK_none {ks : List Int} {k : Int} (h : ((ks.drop ks.length).findIdx? fun a => decide (a = k)).map (· + ks.length) = ks.findIdx? fun a => decide (a = k)) : atK ks k = -1 := by
  rw [List.drop_length] at h
  unfold atK
  rw [← h]; rfl
theorem atK_start {ks : List Int} {k : Int} : ((ks.drop 0).findIdx? fun a => decide (a = k)).map (· + 0) = ks.findIdx? fun a => decide (a = k) := by
  rw [List.drop_zero]
  cases ks.findIdx? fun a => decide (a = k) <;> rfl
theorem atK_cases (ks : List Int) (k : Int) : (∃ i, i < ks.length ∧ ks[i]? = some k ∧ atK ks k = (i : Int)) ∨ (k ∉ ks ∧ atK ks k = -1) := by
  unfold atK
  cases h : ks.findIdx? fun a => decide (a = k)
  · right
    rw [List.findIdx?_eq_none_iff] at h
    exact ⟨fun hk => by simpa using h k hk, rfl⟩
  · rename_i i
    left
    rw [List.findIdx?_eq_some_iff_getElem] at h
    obtain ⟨h1, h2, _⟩ := h
    refine ⟨i, h1, ?_, rfl⟩
    rw [List.getElem?_eq_getElem h1]
    simpa using h2

theorem same_spec (H : List SB) (a k : Int) (x : SC) (ib : Nat) (o : Bool) (hb : H[ib]? = some ⟨o, 3, [i64 k]⟩) :
    Spec cx.P 43 [.agg [i64 a, x], .c (.ptr ib 0)] H fun s h' => s = .c (bC (decide (a = k))) ∧ ∃ t, h' = H ++ t := by
  have lb := lt_of hb
  refine spec_of_X cx_ok Try.func43 rfl (by kernel_rfl) (by kernel_rfl) (Nat.le_of_ble_eq_true rfl) 400 4 ?_
  simp (maxSteps := 4000000) only [Try.results43, XX, Nat.reduceBEq, Nat.reduceLT, Nat.reduceAdd, Nat.reduceMul, Nat.reduceSub, Nat.reduceLeDiff, Nat.reduceEqDiff, Int.reduceToNat, Int.reduceLT, Int.reduceLE, Int.reduceAdd, Int.reduceSub, Int.reduceEq, reduceIte, Nat.reduceBNe, Int.reducePow, Nat.reducePow, Int.reduceMul, Int.reduceNeg, isB_i, isB_b, isB_y, isBv_i, isBv_b, eqCells_t, TT]
  simp (maxSteps := 4000000) only [Try.results43, hb, lb, List.append_assoc, List.getElem?_append_left, List.getElem?_append_right, List.length_append, List.length_set, List.set_append_left, gset, List.getElem?_set_ne, Nat.add_sub_cancel_left, Nat.sub_self, Nat.le_refl, Nat.le_add_right, List.replicate_one, List.flatten_cons, List.flatten_nil, rep_flat, XX, Nat.reduceBEq, Nat.reduceLT, Nat.reduceAdd, Nat.reduceMul, Nat.reduceSub, Nat.reduceLeDiff, Nat.reduceEqDiff, Int.reduceToNat, Int.reduceLT, Int.reduceLE, Int.reduceAdd, Int.reduceSub, Int.reduceEq, reduceIte, Nat.reduceBNe, Int.reducePow, Nat.reducePow, Int.reduceMul, Int.reduceNeg, isB_i, isB_b, isB_y, isBv_i, isBv_b, eqCells_t, TT]
  exact ⟨_, rfl⟩
theorem index_spec (H : List SB) (iO : Nat) (o : Bool) (es : List PE) (r : Nat) (O : Opts H iO o es r) (hn : es.length ≤ 64) (k : Int) (ib : Nat) (ob : Bool) (hb : H[ib]? = some ⟨ob, 3, [i64 k]⟩) :
    Spec cx.P 42 [.c (.sl iO 0 es.length (es.length + r)), .c (.fn 43 [(ib, 0)])] H fun s h' => s = .c (i64 (atK (es.map PE.k) k)) ∧ ∃ t, h' = H ++ t := by
  refine spec_of_X cx_ok Try.func42 rfl (by kernel_rfl) (by kernel_rfl) (Nat.le_of_ble_eq_true rfl) 400 9 ?_
  simp (maxSteps := 4000000) only [Try.results42, XX, Nat.reduceBEq, Nat.reduceLT, Nat.reduceAdd, Nat.reduceMul, Nat.reduceSub, Nat.reduceLeDiff, Nat.reduceEqDiff, Int.reduceToNat, Int.reduceLT, Int.reduceLE, Int.reduceAdd, Int.reduceSub, Int.reduceEq, reduceIte, Nat.reduceBNe, Int.reducePow, Nat.reducePow, Int.reduceMul, Int.reduceNeg, isB_i, isB_b, isB_y, isBv_i, isBv_b, eqCells_t, TT]
  refine loop_any cx_ok 400 (fun μ σ => ∃ (i : Nat) (t : List SB), μ = es.length - i ∧ i ≤ es.length ∧ (((es.map PE.k).drop i).findIdx? fun a => decide (a = k)).map (· + i) = ((es.map PE.k).findIdx? fun a => decide (a = k)) ∧
      σ = ⟨⟨9, H.length⟩, [(0, .c (.sl iO 0 es.length (es.length + r))), (1, .c (.fn 43 [(ib, 0)])), (7, .c (i64 es.length)), (8, .c (i64 i))], H ++ t⟩) es.length
    ⟨⟨9, H.length⟩, [(0, .c (.sl iO 0 es.length (es.length + r))), (1, .c (.fn 43 [(ib, 0)])), (7, .c (i64 es.length)), (8, .c (i64 (0 : Nat)))], H ++ []⟩ ⟨0, [], rfl, Nat.zero_le _, atK_start, rfl⟩ (.inl ⟨rfl, (List.append_nil H).symm, rfl, rfl, rfl, rfl, trivial⟩) ?_
  rintro μ σ ⟨i, t, rfl, hi, hf, rfl⟩
  have O' := O.app t
  have hrow := O'.row
  have lrow := lt_of hrow
  have lr := rowC_len es r
  by_cases hlt : i < es.length
  · have hd : decide ((i : Int) < (es.length : Int)) = true := by simp only [decide_eq_true_eq]; omega
    have e3 : IntKind.i64.wrap ((i : Int) + 1) = ((i + 1 : Nat) : Int) := by rw [w64] <;> omega
    obtain ⟨e, he⟩ : ∃ e, es[i]? = some e := ⟨_, List.getElem?_eq_getElem hlt⟩
    have hke : (es.map PE.k)[i]? = some e.k := by rw [List.getElem?_map, he]; rfl
    have tk := row_take (r := r) he
    simp (maxSteps := 4000000) only [Try.results42, hd, hrow, lrow, tk, XX, Nat.reduceBEq, Nat.reduceLT, Nat.reduceAdd, Nat.reduceMul, Nat.reduceSub, Nat.reduceLeDiff, Nat.reduceEqDiff, Int.reduceToNat, Int.reduceLT, Int.reduceLE, Int.reduceAdd, Int.reduceSub, Int.reduceEq, reduceIte, Nat.reduceBNe, Int.reducePow, Nat.reducePow, Int.reduceMul, Int.reduceNeg, isB_i, isB_b, isB_y, isBv_i, isBv_b, eqCells_t, TT]
    refine ⟨⟨by omega, by omega⟩, by rw [lr]; omega, ?_⟩
    refine call_is (same_spec (H ++ t) e.k k (slB e.w e.d e.sp) ib ob ((List.getElem?_append_left (lt_of hb)).trans hb)) ?_
    rintro _ _ ⟨rfl, t2, rfl⟩
    by_cases hk : e.k = k
    · have dk : decide (e.k = k) = true := by simpa using hk
      simp (maxSteps := 4000000) only [Try.results42, dk, XX, Nat.reduceBEq, Nat.reduceLT, Nat.reduceAdd, Nat.reduceMul, Nat.reduceSub, Nat.reduceLeDiff, Nat.reduceEqDiff, Int.reduceToNat, Int.reduceLT, Int.reduceLE, Int.reduceAdd, Int.reduceSub, Int.reduceEq, reduceIte, Nat.reduceBNe, Int.reducePow, Nat.reducePow, Int.reduceMul, Int.reduceNeg, isB_i, isB_b, isB_y, isBv_i, isBv_b, eqCells_t, TT]
      exact ⟨by rw [atK_hit hf hke hk], t ++ t2, by rw [List.append_assoc]⟩
    · have dk : decide (e.k = k) = false := by simpa using hk
      simp (maxSteps := 4000000) only [Try.results42, dk, e3, XX, Nat.reduceBEq, Nat.reduceLT, Nat.reduceAdd, Nat.reduceMul, Nat.reduceSub, Nat.reduceLeDiff, Nat.reduceEqDiff, Int.reduceToNat, Int.reduceLT, Int.reduceLE, Int.reduceAdd, Int.reduceSub, Int.reduceEq, reduceIte, Nat.reduceBNe, Int.reducePow, Nat.reducePow, Int.reduceMul, Int.reduceNeg, isB_i, isB_b, isB_y, isBv_i, isBv_b, eqCells_t, TT]
      exact ⟨es.length - (i + 1), by omega, _, ⟨i + 1, t ++ t2, rfl, by omega, atK_skip hf hke hk, rfl⟩, .inl ⟨rfl, by rw [List.append_assoc], rfl, rfl, rfl, rfl, trivial⟩⟩
  obtain rfl : i = es.length := by omega
  have hd : decide ((es.length : Int) < (es.length : Int)) = false := by simp
  simp (maxSteps := 4000000) only [Try.results42, hd, XX, Nat.reduceBEq, Nat.reduceLT, Nat.reduceAdd, Nat.reduceMul, Nat.reduceSub, Nat.reduceLeDiff, Nat.reduceEqDiff, Int.reduceToNat, Int.reduceLT, Int.reduceLE, Int.reduceAdd, Int.reduceSub, Int.reduceEq, reduceIte, Nat.reduceBNe, Int.reducePow, Nat.reducePow, Int.reduceMul, Int.reduceNeg, isB_i, isB_b, isB_y, isBv_i, isBv_b, eqCells_t, TT]
  refine ⟨?_, t, rfl⟩
  rw [atK_none (by simpa using hf)]
theorem place2_spec (xs sp : List OI) (c : Nat) (hn : xs.length ≤ 140737488351232) (k : Int) : Spec cx.P 41 [.c (roO xs sp c), .c (i64 k)] [] fun s _ => s.plain = true ∧ s = .c (i64 (atK (xs.map OI.k) k)) := by
  refine spec_of_X cx_ok Try.func41 rfl (by kernel_rfl) (by kernel_rfl) (Nat.le_of_ble_eq_true rfl) 400 6 ?_
  simp (maxSteps := 4000000) only [Try.results41, XX, Nat.reduceBEq, Nat.reduceLT, Nat.reduceAdd, Nat.reduceMul, Nat.reduceSub, Nat.reduceLeDiff, Nat.reduceEqDiff, Int.reduceToNat, Int.reduceLT, Int.reduceLE, Int.reduceAdd, Int.reduceSub, Int.reduceEq, reduceIte, Nat.reduceBNe, Int.reducePow, Nat.reducePow, Int.reduceMul, Int.reduceNeg, isB_i, isB_b, isB_y, isBv_i, isBv_b, eqCells_t, TT]
  refine loop_any cx_ok 400 (fun μ σ => ∃ i : Nat, μ = xs.length - i ∧ i ≤ xs.length ∧ (((xs.map OI.k).drop i).findIdx? fun a => decide (a = k)).map (· + i) = ((xs.map OI.k).findIdx? fun a => decide (a = k)) ∧
      σ = ⟨⟨6, 0⟩, [(0, .c (roO xs sp c)), (1, .c (i64 k)), (5, .c (i64 i))], []⟩) xs.length
    ⟨⟨6, 0⟩, [(0, .c (roO xs sp c)), (1, .c (i64 k)), (5, .c (i64 (0 : Nat)))], []⟩ ⟨0, rfl, Nat.zero_le _, atK_start, rfl⟩ (.inl ⟨rfl, rfl, rfl, rfl, rfl, trivial⟩) ?_
  rintro μ σ ⟨i, rfl, hi, hf, rfl⟩
  by_cases hlt : i < xs.length
  · have hd : decide ((i : Int) < (xs.length : Int)) = true := by simp only [decide_eq_true_eq]; omega
    have e3 : IntKind.i64.wrap ((i : Int) + 1) = ((i + 1 : Nat) : Int) := by rw [w64] <;> omega
    obtain ⟨x, hx⟩ : ∃ x, xs[i]? = some x := ⟨_, List.getElem?_eq_getElem hlt⟩
    have hkx : (xs.map OI.k)[i]? = some x.k := by rw [List.getElem?_map, hx]; rfl
    obtain ⟨R, hR⟩ := osR_at (sp := sp) hx
    by_cases hk : x.k = k
    · have dk : decide (x.k = k) = true := by simpa using hk
      simp (maxSteps := 4000000) only [Try.results41, hd, hR, dk, XX, Nat.reduceBEq, Nat.reduceLT, Nat.reduceAdd, Nat.reduceMul, Nat.reduceSub, Nat.reduceLeDiff, Nat.reduceEqDiff, Int.reduceToNat, Int.reduceLT, Int.reduceLE, Int.reduceAdd, Int.reduceSub, Int.reduceEq, reduceIte, Nat.reduceBNe, Int.reducePow, Nat.reducePow, Int.reduceMul, Int.reduceNeg, isB_i, isB_b, isB_y, isBv_i, isBv_b, eqCells_t, TT]
      exact ⟨by omega, by omega, by rw [atK_hit hf hkx hk]⟩
    · have dk : decide (x.k = k) = false := by simpa using hk
      simp (maxSteps := 4000000) only [Try.results41, hd, hR, dk, e3, XX, Nat.reduceBEq, Nat.reduceLT, Nat.reduceAdd, Nat.reduceMul, Nat.reduceSub, Nat.reduceLeDiff, Nat.reduceEqDiff, Int.reduceToNat, Int.reduceLT, Int.reduceLE, Int.reduceAdd, Int.reduceSub, Int.reduceEq, reduceIte, Nat.reduceBNe, Int.reducePow, Nat.reducePow, Int.reduceMul, Int.reduceNeg, isB_i, isB_b, isB_y, isBv_i, isBv_b, eqCells_t, TT]
      exact ⟨by omega, by omega, xs.length - (i + 1), by omega, _, ⟨i + 1, rfl, by omega, atK_skip hf hkx hk, rfl⟩, .inl ⟨rfl, rfl, rfl, rfl, rfl, trivial⟩⟩
  obtain rfl : i = xs.length := by omega
  have hd : decide ((xs.length : Int) < (xs.length : Int)) = false := by simp
  simp (maxSteps := 4000000) only [Try.results41, hd, XX, Nat.reduceBEq, Nat.reduceLT, Nat.reduceAdd, Nat.reduceMul, Nat.reduceSub, Nat.reduceLeDiff, Nat.reduceEqDiff, Int.reduceToNat, Int.reduceLT, Int.reduceLE, Int.reduceAdd, Int.reduceSub, Int.reduceEq, reduceIte, Nat.reduceBNe, Int.reducePow, Nat.reducePow, Int.reduceMul, Int.reduceNeg, isB_i, isB_b, isB_y, isBv_i, isBv_b, eqCells_t, TT]
  rw [atK_none (by simpa using hf)]

/-- A row in memory may be read alone. -/
theorem frL_rows {H : List SB} {Z : List SC} : ∀ {es : List PE}, (∀ (i : Nat) (e : PE), es[i]? = some e → H[e.w]? = some (wB e.o (e.d ++ e.sp)) ∧ (0 < e.d.length + e.sp.length → e.o = true)) → frL (fun _ => true) H (osR (es.map PE.oi)) ((es.map PE.c).flatten ++ Z)
  | [], _ => by simp only [osR, List.map_nil, List.flatten_nil, frL]
  | e :: es, h => by
    have ih := frL_rows (Z := Z) (es := es) fun i f hf => h (i + 1) f (by simpa using hf)
    obtain ⟨h1, h2⟩ := h 0 e rfl
    refine ⟨rfl, .inr (.inr ⟨e.w, 0, rfl, ?_⟩), ih⟩
    by_cases hz : e.d.length + e.sp.length = 0
    · exact .inl ⟨show e.d.length = 0 by omega, hz⟩
    · refine .inr ⟨rfl, _, h1, ?_, ?_⟩
      · show (!e.o && _) = false
        rw [h2 (by omega)]; rfl
      · have := frL_bs (ok := fun _ => true) (h := H) [] (e.d ++ e.sp)
        rw [List.append_nil] at this
        exact this
theorem Opts.fz {r : Nat → Nat} {n : Nat} {H : List SB} {iO : Nat} {o : Bool} {es : List PE} {rm : Nat} (O : Opts H iO o es rm) : frV true (fun _ => true) r n H (.c (.sl iO 0 es.length (es.length + rm))) (.c (roO (es.map PE.oi) [] (es.length + rm))) := by
  refine .inr (.inl ⟨_, _, rfl, rfl, .inr ⟨rfl, .inl ⟨_, _, _, rfl, ?_⟩⟩⟩)
  rw [List.length_map, List.append_nil]
  refine .inr (.inr ⟨iO, 0, rfl, ?_⟩)
  by_cases hz : es.length + rm = 0
  · exact .inl ⟨by omega, hz⟩
  · refine .inr ⟨rfl, _, O.row, ?_, ?_⟩
    · show (!o && _) = false
      rw [O.own (by omega)]; rfl
    · exact frL_rows O.at_
end Go.Proofs.Ytflccffjfnfoiaa.Sx
