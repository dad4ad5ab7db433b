/- The symbolic executor, at work: lists of bytes that grow. No condition. -/
import Derived.Test.YtflccffjfnfoiaaHp
namespace Go.Proofs.Ytflccffjfnfoiaa.Sx
open Go
set_option linter.unusedSimpArgs false
set_option linter.unusedVariables false

/-- Both ways of an append, at once. -/
theorem xapp_P {xn : XN} {need cap : Nat} {dst : Option Tmp} {k : List KI} {nm : NB} {tm : List (Nat × SV)} {room : SV × List SB} {grow : Nat → SV × List SB} {Q : XE → St → Prop} (P : SV → List SB → Prop)
    (h1 : need ≤ cap → P room.1 room.2) (h2 : cap < need → ∀ c, need ≤ c → c ≤ maxLen → P (grow c).1 (grow c).2) (hk : ∀ s h, P s h → xn k ⟨nm, put dst s tm, h⟩ Q) : XApp xn need cap dst k nm tm room grow Q :=
  ⟨fun h => .inl (hk _ _ (h1 h)), fun h c h3 h4 => .inl (hk _ _ (h2 h c h3 h4))⟩

/-- A loop; less may be known, or fewer temporaries. -/
theorem loop_any {cx : Cx} (hc : CxOk cx) {c : Code} {k : List KI} {σ : St} {Q : XE → St → Prop} (n : Nat) (I : Nat → St → Prop) (m : Nat) (σ0 : St) (h0 : I m σ0) (hw : Sub σ σ0 ∨ ∃ π, Wk π σ σ0)
    (round : ∀ m σ', I m σ' → X cx n (.code c :: .lp (fun σ'' => ∃ m', m' < m ∧ ∃ σ3, I m' σ3 ∧ (Sub σ'' σ3 ∨ ∃ π, Wk π σ'' σ3)) :: k) σ' Q) : LoopGoal cx.P c k σ Q :=
  loop_gen hc (fun σ τ => Sub σ τ ∨ ∃ π, Wk π σ τ) (fun _ _ _ _ _ h S => h.elim (fun h => S.sub h) fun ⟨_, h⟩ => S.wk h) n I m σ0 h0 hw round

/-- 'l' stands in a window, whole: 's' is it. -/
structure Buf (h : List SB) (w : Nat) (o : Bool) (l sp : List UInt8) : Prop where
  at_ : h[w]? = some (wB o (l ++ sp))
  own : 0 < l.length + sp.length → o = true

abbrev slB (w : Nat) (l sp : List UInt8) : SC := .sl w 0 l.length (l.length + sp.length)

/-- What an append to window 'w' of 'H' comes to. -/
def BufP (H : List SB) (w : Nat) (l : List UInt8) (s : SV) (H' : List SB) : Prop :=
  ∃ w' sp, s = .c (slB w' l sp) ∧ Buf H' w' true l sp ∧ H.length ≤ H'.length ∧ (∀ k, k < H.length → k ≠ w → H'[k]? = H[k]?) ∧ (w' = w ∨ H.length ≤ w')

theorem bufP_room {H t : List SB} {w n c : Nat} {o : Bool} {l l' sp' : List UInt8} {cells : List SC} (hw : H[w]? = some (wB o l)) (ho : o = true) (hcells : cells = bsC (l' ++ sp')) (hn : l'.length = n) (hc : c = n + sp'.length) :
    BufP H w l' (.c (.sl w 0 n c)) (H.set w ⟨o, 5, cells⟩ ++ t) := by
  subst ho; subst hcells; subst hn; subst hc
  have lw := lt_of hw
  refine ⟨w, sp', rfl, ⟨?_, fun _ => rfl⟩, by simp, fun k hk hne => ?_, .inl rfl⟩
  · rw [List.getElem?_append_left (by simpa using lw), gset, hw]; rfl
  · rw [List.getElem?_append_left (by simpa using hk), List.getElem?_set_ne (Ne.symm hne)]

theorem bufP_room' {H : List SB} {w n c : Nat} {o : Bool} {l l' sp' : List UInt8} {cells : List SC} (hw : H[w]? = some (wB o l)) (ho : o = true) (hcells : cells = bsC (l' ++ sp')) (hn : l'.length = n) (hc : c = n + sp'.length) :
    BufP H w l' (.c (.sl w 0 n c)) (H.set w ⟨o, 5, cells⟩) := by
  have := bufP_room (t := []) hw ho hcells hn hc
  rwa [List.append_nil] at this

theorem bufP_grow {H t : List SB} {w n c x : Nat} {l' sp' : List UInt8} {cells : List SC} (hcells : cells = bsC (l' ++ sp')) (hx : x = H.length + t.length) (hn : l'.length = n) (hc : c = n + sp'.length) :
    BufP H w l' (.c (.sl x 0 n c)) (H ++ (t ++ [⟨true, 5, cells⟩])) := by
  subst hcells; subst hx; subst hn; subst hc
  refine ⟨_, sp', rfl, ⟨?_, fun _ => rfl⟩, by simp, fun k hk hne => ?_, .inr (by omega)⟩
  · rw [List.getElem?_append_right (by omega), Nat.add_sub_cancel_left, List.getElem?_append_right (Nat.le_refl _), Nat.sub_self]; rfl
  · rw [List.getElem?_append_left hk]

theorem cellsB_app {l sp news : List UInt8} {n m : Nat} (hn : l.length = n) (hm : news.length = m) : (bsC (l ++ sp)).take n ++ (bsC news ++ (bsC (l ++ sp)).drop (n + m)) = bsC ((l ++ news) ++ sp.drop m) := by
  subst hn; subst hm
  rw [bs_take, List.take_left' rfl, bs_drop, List.drop_append, List.drop_of_length_le (by omega), List.nil_append, Nat.add_sub_cancel_left, bs_app, bs_app, List.append_assoc]
theorem cellsB_one {l sp : List UInt8} {x : UInt8} {n : Nat} (hn : l.length = n) : (bsC (l ++ sp)).take n ++ (byteC x :: (bsC (l ++ sp)).drop (n + 1)) = bsC ((l ++ [x]) ++ sp.drop 1) :=
  cellsB_app (news := [x]) hn rfl
theorem cellsB_new {l sp news : List UInt8} {n c : Nat} (hn : l.length = n) : (bsC (l ++ sp)).take n ++ (bsC news ++ List.replicate c (SC.v (.int .u8 0))) = bsC ((l ++ news) ++ List.replicate c 0) := by
  subst hn
  rw [bs_take, List.take_left' rfl, bsC_zeros, bs_app, bs_app, List.append_assoc]
theorem cellsB_new1 {l sp : List UInt8} {x : UInt8} {n c : Nat} (hn : l.length = n) : (bsC (l ++ sp)).take n ++ (byteC x :: List.replicate c (SC.v (.int .u8 0))) = bsC ((l ++ [x]) ++ List.replicate c 0) :=
  cellsB_new (news := [x]) hn

/-- A byte behind a list, either way. -/
theorem xapp_one {xn : XN} {dst : Option Tmp} {k : List KI} {nm : NB} {tm : List (Nat × SV)} {Q : XE → St → Prop} {H : List SB} {w n c : Nat} {o : Bool} {l sp : List UInt8} {x : UInt8} {t : List SB} {g : Nat} (B : Buf H w o l sp) (hn : l.length = n) (hc : c = n + sp.length) (hg : g = H.length + t.length)
    (hk : ∀ H' w' sp', Buf H' w' true (l ++ [x]) sp' → H.length ≤ H'.length → (∀ k, k < H.length → k ≠ w → H'[k]? = H[k]?) → (w' = w ∨ H.length ≤ w') → xn k ⟨nm, put dst (.c (slB w' (l ++ [x]) sp')) tm, H'⟩ Q) :
    XApp xn (n + 1) c dst k nm tm (.c (.sl w 0 (n + 1) c), H.set w ⟨o, 5, (bsC (l ++ sp)).take n ++ (byteC x :: (bsC (l ++ sp)).drop (n + 1))⟩ ++ t)
      (fun c' => (.c (.sl g 0 (n + 1) c'), H ++ (t ++ [⟨true, 5, (bsC (l ++ sp)).take n ++ (byteC x :: List.replicate (c' - (n + 1)) (SC.v (.int .u8 0)))⟩]))) Q := by
  refine xapp_P (BufP H w (l ++ [x])) (fun h => ?_) (fun h c' h1 h2 => ?_) ?_
  · exact bufP_room B.at_ (B.own (by omega)) (cellsB_one hn) (by simp [hn]) (by simp; omega)
  · exact bufP_grow (cellsB_new1 hn) hg (by simp [hn]) (by simp; omega)
  · rintro s H' ⟨w', sp', rfl, b, h1, h2, h3⟩
    exact hk H' w' sp' b h1 h2 h3

/-- Bytes behind a list, either way. -/
theorem xapp_more {xn : XN} {dst : Option Tmp} {k : List KI} {nm : NB} {tm : List (Nat × SV)} {Q : XE → St → Prop} {H : List SB} {w n m c : Nat} {o : Bool} {l sp news : List UInt8} {t : List SB} {g : Nat} (B : Buf H w o l sp) (hn : l.length = n) (hm : news.length = m) (hc : c = n + sp.length) (hg : g = H.length + t.length) (hp : 0 < n + m)
    (hk : ∀ H' w' sp', Buf H' w' true (l ++ news) sp' → H.length ≤ H'.length → (∀ k, k < H.length → k ≠ w → H'[k]? = H[k]?) → (w' = w ∨ H.length ≤ w') → xn k ⟨nm, put dst (.c (slB w' (l ++ news) sp')) tm, H'⟩ Q) :
    XApp xn (n + m) c dst k nm tm (.c (.sl w 0 (n + m) c), H.set w ⟨o, 5, (bsC (l ++ sp)).take n ++ (bsC news ++ (bsC (l ++ sp)).drop (n + m))⟩ ++ t)
      (fun c' => (.c (.sl g 0 (n + m) c'), H ++ (t ++ [⟨true, 5, (bsC (l ++ sp)).take n ++ (bsC news ++ List.replicate (c' - (n + m)) (SC.v (.int .u8 0)))⟩]))) Q := by
  refine xapp_P (BufP H w (l ++ news)) (fun h => ?_) (fun h c' h1 h2 => ?_) ?_
  · exact bufP_room B.at_ (B.own (by omega)) (cellsB_app hn hm) (by simp [hn, hm]) (by simp; omega)
  · exact bufP_grow (cellsB_new hn) hg (by simp [hn, hm]) (by simp; omega)
  · rintro s H' ⟨w', sp', rfl, b, h1, h2, h3⟩
    exact hk H' w' sp' b h1 h2 h3

theorem xapp_more0 {xn : XN} {dst : Option Tmp} {k : List KI} {nm : NB} {tm : List (Nat × SV)} {Q : XE → St → Prop} {H : List SB} {w n m c : Nat} {o : Bool} {l sp news : List UInt8} {g : Nat} (B : Buf H w o l sp) (hn : l.length = n) (hm : news.length = m) (hc : c = n + sp.length) (hg : g = H.length) (hp : 0 < n + m)
    (hk : ∀ H' w' sp', Buf H' w' true (l ++ news) sp' → H.length ≤ H'.length → (∀ k, k < H.length → k ≠ w → H'[k]? = H[k]?) → (w' = w ∨ H.length ≤ w') → xn k ⟨nm, put dst (.c (slB w' (l ++ news) sp')) tm, H'⟩ Q) :
    XApp xn (n + m) c dst k nm tm (.c (.sl w 0 (n + m) c), H.set w ⟨o, 5, (bsC (l ++ sp)).take n ++ (bsC news ++ (bsC (l ++ sp)).drop (n + m))⟩)
      (fun c' => (.c (.sl g 0 (n + m) c'), H ++ [⟨true, 5, (bsC (l ++ sp)).take n ++ (bsC news ++ List.replicate (c' - (n + m)) (SC.v (.int .u8 0)))⟩])) Q := by
  have := xapp_more (t := []) (xn := xn) (dst := dst) (k := k) (nm := nm) (tm := tm) (Q := Q) (g := g) B hn hm hc hg hp hk
  simpa only [List.append_nil, List.nil_append] using this

/-- Bytes behind nothing. -/
theorem xapp_first {xn : XN} {dst : Option Tmp} {k : List KI} {nm : NB} {tm : List (Nat × SV)} {Q : XE → St → Prop} {H : List SB} {m : Nat} {news : List UInt8} {t : List SB} {g : Nat} {room : SV × List SB} (hm : news.length = m) (hp : 0 < m) (hg : g = H.length + t.length)
    (hk : ∀ H' w' sp', Buf H' w' true news sp' → H.length ≤ H'.length → (∀ k, k < H.length → H'[k]? = H[k]?) → H.length ≤ w' → xn k ⟨nm, put dst (.c (slB w' news sp')) tm, H'⟩ Q) :
    XApp xn m 0 dst k nm tm room (fun c' => (.c (.sl g 0 m c'), H ++ (t ++ [⟨true, 5, bsC news ++ List.replicate (c' - m) (SC.v (.int .u8 0))⟩]))) Q := by
  subst hm; subst hg
  refine xapp_grow hp fun c h1 h2 => ?_
  have := hk (H ++ (t ++ [⟨true, 5, bsC news ++ List.replicate (c - news.length) (SC.v (.int .u8 0))⟩])) (H.length + t.length) (List.replicate (c - news.length) 0) ⟨?_, fun _ => rfl⟩ (by simp) (fun k hk => List.getElem?_append_left hk) (by omega)
  · simpa only [slB, List.length_replicate, Nat.add_sub_of_le h1] using this
  · rw [List.getElem?_append_right (by omega), Nat.add_sub_cancel_left, List.getElem?_append_right (Nat.le_refl _), Nat.sub_self, bsC_zeros, bs_app]; rfl

theorem unL_new {L : List Nat} {h0 h : List SB} {i : Nat} {b : SB} (hi : h[i]? = some b) (h0i : h0.length ≤ i) : (unL L 0 h0 h)[i]? = some b := by
  rw [unL_get, hi, List.getElem?_eq_none h0i]; rfl
theorem unL_kept {L : List Nat} {h0 h : List SB} {i : Nat} {b b0 : SB} (hi : h[i]? = some b) (h0i : h0[i]? = some b0) (hL : L.contains i = true) : (unL L 0 h0 h)[i]? = some b0 := by
  rw [unL_get, hi, h0i, Nat.zero_add]
  show some (bif L.contains i then b0 else b) = _
  rw [hL]; rfl
theorem unL_old {L : List Nat} {h0 h : List SB} {i : Nat} {b b0 : SB} (hi : h[i]? = some b) (h0i : h0[i]? = some b0) (hL : L.contains i = false) : (unL L 0 h0 h)[i]? = some b := by
  rw [unL_get, hi, h0i, Nat.zero_add]
  show some (bif L.contains i then b0 else b) = _
  rw [hL]; rfl
theorem Buf.mono {h h' : List SB} {w : Nat} {o : Bool} {l sp : List UInt8} (B : Buf h w o l sp) (h1 : h'[w]? = h[w]?) : Buf h' w o l sp := ⟨h1.trans B.at_, B.own⟩
theorem Buf.app {h t : List SB} {w : Nat} {o : Bool} {l sp : List UInt8} (B : Buf h w o l sp) : Buf (h ++ t) w o l sp := B.mono (List.getElem?_append_left (lt_of B.at_))
/-- A call by a contract over all windows. -/
theorem call_is {P : Program} {xn : XN} {f : FuncId} {args : List SV} {dst : Option Tmp} {k : List KI} {nm : NB} {tm : List (Nat × SV)} {hp : List SB} {Q : XE → St → Prop} {K : SV → List SB → Prop}
    (s : Spec P f args hp K) (hk : ∀ s h', K s h' → xn k ⟨nm, put dst s tm, h'⟩ Q) : CallGoal P xn f args dst k ⟨nm, tm, hp⟩ Q := .inl ⟨K, s, fun s h' h => .inl (hk s h' h)⟩
/-- A call that panics. -/
theorem call_panics {P : Program} {xn : XN} {f : FuncId} {args : List SV} {dst : Option Tmp} {k : List KI} {σ : St} {Q : XE → St → Prop} {ch : List PanicEntry} (s : SpecP P f args σ.hp ch) (h : Q (.panic ch) σ) : CallGoal P xn f args dst k σ Q := .inr ⟨ch, s, h⟩

/-- What a function gives: bytes and an error's number. -/
def resB (l : List UInt8) (e : Int) (s : SV) (h' : List SB) : Prop := ∃ sp o, s = .tup [(false, [slB 0 l sp]), (false, [i64 e])] ∧ h' = [wB o (l ++ sp)] ∧ (0 < l.length + sp.length → o = true)

theorem resB_of {P : Program} {f : FuncId} {args : List SV} {l : List UInt8} {e : Int} (s : Spec P f args [] fun s h' => ∃ w sp o, s = .tup [(false, [slB w l sp]), (false, [i64 e])] ∧ Buf h' w o l sp) : Spec P f args [] (resB l e) :=
  s.wk fun t h' ⟨w, sp, o, h1, b⟩ => ⟨.tup [(false, [slB 0 l sp]), (false, [i64 e])], [wB o (l ++ sp)], [some w], rfl, by simp only [XX, Nat.reduceBEq, Nat.reduceLT, Nat.reduceAdd, Nat.reduceMul, Nat.reduceSub, Nat.reduceLeDiff, Nat.reduceEqDiff, Int.reduceToNat, Int.reduceLT, Int.reduceLE, Int.reduceAdd, Int.reduceSub, Int.reduceEq, reduceIte, Nat.reduceBNe, Int.reducePow, Nat.reducePow, Int.reduceMul, Int.reduceNeg, isB_i, isB_b, isB_y, isBv_i, isBv_b, eqCells_t, TT, ids_bsC, ren_bsC, noRo_bsC, plain_bsC, lt_bsC, ids_byte, ren_byte, noRo_byte, plain_byte, lt_byte, b.at_], by subst h1; simp only [XX, Nat.reduceBEq, Nat.reduceLT, Nat.reduceAdd, Nat.reduceMul, Nat.reduceSub, Nat.reduceLeDiff, Nat.reduceEqDiff, Int.reduceToNat, Int.reduceLT, Int.reduceLE, Int.reduceAdd, Int.reduceSub, Int.reduceEq, reduceIte, Nat.reduceBNe, Int.reducePow, Nat.reducePow, Int.reduceMul, Int.reduceNeg, isB_i, isB_b, isB_y, isBv_i, isBv_b, eqCells_t, TT, ids_bsC, ren_bsC, noRo_bsC, plain_bsC, lt_bsC, ids_byte, ren_byte, noRo_byte, plain_byte, lt_byte], sp, o, rfl, rfl, b.own⟩

theorem resB_nil {P : Program} {f : FuncId} {args : List SV} {e : Int} (s : Spec P f args [] fun s _ => s.plain = true ∧ s = .tup [(false, [.v (.slice none 0 0)]), (false, [i64 e])]) : Spec P f args [] (resB [] e) :=
  s.wk fun t h' ⟨_, h1⟩ => ⟨.tup [(false, [slB 0 [] []]), (false, [i64 e])], [wB false ([] ++ [])], [none], rfl, by simp only [XX, Nat.reduceBEq, Nat.reduceLT, Nat.reduceAdd, Nat.reduceMul, Nat.reduceSub, Nat.reduceLeDiff, Nat.reduceEqDiff, Int.reduceToNat, Int.reduceLT, Int.reduceLE, Int.reduceAdd, Int.reduceSub, Int.reduceEq, reduceIte, Nat.reduceBNe, Int.reducePow, Nat.reducePow, Int.reduceMul, Int.reduceNeg, isB_i, isB_b, isB_y, isBv_i, isBv_b, eqCells_t, TT, List.map_nil], by subst h1; exact .inr ⟨rfl, ⟨.inr (.inr ⟨_, _, rfl, .inl rfl⟩), trivial⟩, rfl, ⟨.inl ⟨rfl, rfl⟩, trivial⟩, trivial⟩, [], false, rfl, rfl, fun h => absurd h (by simp)⟩

end Go.Proofs.Ytflccffjfnfoiaa.Sx
