/- The symbolic executor, at work: what stays where little is changed. No condition. -/
import Derived.Test.YtdfhmpheepobnaaC4n
namespace Go.Proofs.Ytdfhmpheepobnaa.Sx
open Go
set_option linter.unusedSimpArgs false
set_option linter.unusedVariables false
set_option maxRecDepth 10000
set_option maxHeartbeats 2000000

theorem DX.keep {S : Nat → Prop} {H H' : List SB} {x : SC} {d : List UInt8} (h : DX S H x d) (K : ∀ (i : Nat) (b : SB), H[i]? = some b → b.ty = 5 → H'[i]? = some b) : DX S H' x d := by
  rcases h with h | ⟨w, z, o, h1, h2, h3⟩
  · exact .inl h
  · exact .inr ⟨w, z, o, h1, K _ _ h2 rfl, h3⟩
/-- The document's card stays, where windows of its types stay. -/
theorem RSx.keep {S : Nat → Prop} {H H' : List SB} {rc rr rt : Nat} {k : CK} (h : RSx S H rc rr rt k) (K : ∀ (i : Nat) (b : SB), H[i]? = some b → (b.ty = 69 ∨ b.ty = 40 ∨ b.ty = 5) → H'[i]? = some b) : RSx S H' rc rr rt k := by
  obtain ⟨lr, lt, cr, ct, R, X, Y⟩ := h
  refine ⟨lr, lt, cr, ct, ⟨K _ _ R.hc (.inl rfl), K _ _ R.hr (.inr (.inl rfl)), K _ _ R.ht (.inr (.inl rfl)), R.ne, R.lr, R.lt, R.n1, R.n2, R.ar, R.at'⟩, ?_, ?_⟩
  · exact X.mono fun _ _ h => h.keep fun i b hi ht => K i b hi (.inr (.inr ht))
  · exact Y.mono fun _ _ h => h.keep fun i b hi ht => K i b hi (.inr (.inr ht))
theorem RSx.grow {S S' : Nat → Prop} {H : List SB} {rc rr rt : Nat} {k : CK} (h : RSx S H rc rr rt k) (hs : ∀ i, S' i → S i ∨ H.length ≤ i) : RSx S' H rc rr rt k := by
  obtain ⟨lr, lt, cr, ct, R, X, Y⟩ := h
  exact ⟨lr, lt, cr, ct, R, X.mono fun _ _ h => h.grow hs, Y.mono fun _ _ h => h.grow hs⟩
theorem PC.keep {H H' : List SB} {c w1 w2 : Nat} {k : CK} (h : PC H c w1 w2 k) (K : ∀ (i : Nat) (b : SB), H[i]? = some b → (b.ty = 63 ∨ b.ty = 66) → H'[i]? = some b) : PC H' c w1 w2 k :=
  ⟨K _ _ h.hc (.inl rfl), K _ _ h.h1 (.inr rfl), K _ _ h.h2 (.inr rfl), h.ne⟩
theorem BkS.keep {H H' : List SB} {bk : Nat} {es : List OE} (B : BkS H bk es) (K : ∀ (i : Nat) (b : SB), H[i]? = some b → (b.ty = 52 ∨ b.ty = 35 ∨ b.ty = 9) → H'[i]? = some b) : BkS H' bk es := by
  rcases B with ⟨h, hb⟩ | ⟨iL, cL, iW, cW, B⟩
  · exact .inl ⟨h, K _ _ hb (.inl rfl)⟩
  · exact .inr ⟨iL, cL, iW, cW, K _ _ B.b (.inl rfl), K _ _ B.L (.inr (.inl rfl)), K _ _ B.W (.inr (.inr rfl)), B.n, B.cl, B.cw⟩
theorem mask_off {L : List Nat} {H : List SB} {x : Nat} (h : L.contains x = false) : (maskL L 0 H)[x]? = H[x]? := by
  rw [maskL_get, Nat.zero_add, h]; cases H[x]? <;> rfl
theorem unL_off {L : List Nat} {H h' : List SB} {x : Nat} (h : L.contains x = false) : (unL L 0 H h')[x]? = h'[x]? := by
  rw [unL_get]
  cases h'[x]? with
  | none => rfl
  | some b =>
    simp only [Option.map_some, Nat.zero_add, h, cond_false]
    cases H[x]? <;> rfl

end Go.Proofs.Ytdfhmpheepobnaa.Sx
