/- The symbolic executor, at work: appends, both ways at once. No condition. -/
import Derived.Test.YtflccffjfnfoiaaSxOpen
namespace Go.Proofs.Ytflccffjfnfoiaa.Sx
open Go
set_option linter.unusedSimpArgs false
set_option linter.unusedVariables false

/-- Behind nothing: new memory, or none. -/
theorem xapp_nil {xn : XN} {dst : Option Tmp} {k : List KI} {nm : NB} {tm : List (Nat × SV)} {Q : XE → St → Prop} {h : List SB} {ty : TypeId} {news z : List SC} {m g : Nat} {grow : Nat → SV × List SB} (hm : m = 0 → news = []) (hg : g = h.length)
    (hk : ∀ (j : Nat) (o : Bool), (0 < m + j → o = true) → xn k ⟨nm, put dst (.c (.sl g 0 m (m + j))) tm, h ++ [⟨o, ty, news ++ (List.replicate j z).flatten⟩]⟩ Q)
    (he : ∀ c, grow c = (.c (.sl g 0 m c), h ++ [⟨true, ty, news ++ (List.replicate (c - m) z).flatten⟩])) :
    XApp xn m 0 dst k nm tm (.c (.v (.slice none 0 0)), h) grow Q := by
  refine ⟨fun h0 => .inr ⟨_, fun e a w S => S.voidD ty (i := g) (o := 0), ?_⟩, fun h0 c h1 _ => .inl ?_⟩
  · have := hk 0 false (fun h => by omega)
    obtain rfl : m = 0 := by omega
    rw [hm rfl] at this
    exact this
  · obtain ⟨j, rfl⟩ := Nat.exists_eq_add_of_le h1
    rw [he, Nat.add_sub_cancel_left]
    exact hk j true fun _ => rfl

theorem rep_len {z : List SC} {sz : Nat} (hz : z.length = sz) : ∀ j : Nat, (List.replicate j z).flatten.length = j * sz
  | 0 => by simp
  | j + 1 => by rw [List.replicate_succ, List.flatten_cons, List.length_append, rep_len hz j, hz, Nat.succ_mul, Nat.add_comm]

/-- Behind a list that stands in window 'w', whole: in room, or in new memory. -/
theorem xapp_buf {xn : XN} {dst : Option Tmp} {k : List KI} {nm : NB} {tm : List (Nat × SV)} {Q : XE → St → Prop} {h : List SB} {ty : TypeId} {l sp news z : List SC} {w n m c sz g : Nat} {o : Bool} {room : SV × List SB} {grow : Nat → SV × List SB}
    (hw : h[w]? = some ⟨o, ty, l ++ sp⟩) (hl : l.length = n * sz) (hsp : sp.length = (c - n) * sz) (hnc : n ≤ c) (ho : 0 < c → o = true) (hnews : news.length = m * sz) (hz : z.length = sz) (hg : g = h.length)
    (hk : ∀ (H : List SB) (w' j : Nat) (o' : Bool) (sp' : List SC), H[w']? = some ⟨o', ty, (l ++ news) ++ sp'⟩ → sp'.length = j * sz → (0 < n + m + j → o' = true) → (w' = w ∨ h.length ≤ w') → h.length ≤ H.length → (∀ i, i < h.length → i ≠ w → H[i]? = h[i]?) →
      xn k ⟨nm, put dst (.c (.sl w' 0 (n + m) (n + m + j))) tm, H⟩ Q)
    (hr : room = (.c (.sl w 0 (n + m) c), lay h w (n * sz) news)) (he : ∀ c', grow c' = (.c (.sl g 0 (n + m) c'), h ++ [⟨true, ty, l ++ news ++ (List.replicate (c' - (n + m)) z).flatten⟩])) :
    XApp xn (n + m) c dst k nm tm room grow Q := by
  have lw : w < h.length := (List.getElem?_eq_some_iff.1 hw).1
  refine ⟨fun h0 => .inl ?_, fun h0 c' h1 _ => .inl ?_⟩
  · rw [hr]
    have hlay : lay h w (n * sz) news = h.set w ⟨o, ty, l ++ news ++ sp.drop news.length⟩ := by
      unfold lay
      rw [hw]
      simp only
      rw [← hl, List.take_left' rfl, List.drop_append, List.drop_of_length_le (by omega), List.nil_append, Nat.add_sub_cancel_left]
    rw [hlay]
    have := hk (h.set w ⟨o, ty, l ++ news ++ sp.drop news.length⟩) w (c - (n + m)) o (sp.drop news.length) (List.getElem?_set_self lw) (by rw [List.length_drop, hsp, hnews, ← Nat.sub_mul, Nat.sub_sub]) (fun _ => ho (by omega)) (.inl rfl) (by simp) (fun i _ hi => List.getElem?_set_ne (Ne.symm hi))
    rwa [Nat.add_sub_of_le h0] at this
  · obtain ⟨j, rfl⟩ := Nat.exists_eq_add_of_le h1
    rw [he, Nat.add_sub_cancel_left, hg]
    refine hk _ h.length j true _ (by rw [List.getElem?_append_right (Nat.le_refl _), Nat.sub_self]; rfl) ?_ (fun _ => rfl) (.inr (Nat.le_refl _)) (by simp) (fun i hi _ => List.getElem?_append_left hi)
    exact rep_len hz j

/-- Both ways of an append come to one state, by other names of windows. -/
theorem xapp_lit {α : Type} {xn : XN} {need cap : Nat} {dst : Option Tmp} {k : List KI} {nm : NB} {tm : List (Nat × SV)} {room : SV × List SB} {grow : Nat → SV × List SB} {Q : XE → St → Prop} (tm' : α → List (Nat × SV)) (h' : α → List SB) (π1 π2 : List (Option Nat))
    (w1 : need ≤ cap → ∃ s, Wk π1 ⟨nm, put dst room.1 tm, room.2⟩ ⟨nm, tm' s, h' s⟩)
    (w2 : cap < need → ∀ c, need ≤ c → ∃ s, Wk π2 ⟨nm, put dst (grow c).1 tm, (grow c).2⟩ ⟨nm, tm' s, h' s⟩)
    (hk : ∀ s, xn k ⟨nm, tm' s, h' s⟩ Q) : XApp xn need cap dst k nm tm room grow Q :=
  ⟨fun h => let ⟨s, W⟩ := w1 h; .inr ⟨_, fun _ _ _ S => S.wk W, hk s⟩, fun h c h1 _ => let ⟨s, W⟩ := w2 h c h1; .inr ⟨_, fun _ _ _ S => S.wk W, hk s⟩⟩

end Go.Proofs.Ytflccffjfnfoiaa.Sx
