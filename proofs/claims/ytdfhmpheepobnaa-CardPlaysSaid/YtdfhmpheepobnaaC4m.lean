/- The symbolic executor, at work: a pair of cards, and their book. No condition. -/
import Derived.Test.YtdfhmpheepobnaaC4l
namespace Go.Proofs.Ytdfhmpheepobnaa.Sx
open Go
set_option linter.unusedSimpArgs false
set_option linter.unusedVariables false
set_option maxRecDepth 10000
set_option maxHeartbeats 2000000

/-- A book that may be empty. -/
def BkS (H : List SB) (bk : Nat) (es : List OE) : Prop := (es = [] ∧ H[bk]? = some (bookB nilC nilC)) ∨ ∃ iL cL iW cW, Book H bk (es.map OE.sc) (es.map OE.l) iL cL iW cW
/-- All but a book's windows stay. -/
def KeepB (H h' : List SB) : Prop := H.length ≤ h'.length ∧ ∀ (i : Nat) (b : SB), H[i]? = some b → b.ty ≠ 52 → b.ty ≠ 35 → b.ty ≠ 9 → h'[i]? = some b
theorem KeepB.trans {a b c : List SB} (h1 : KeepB a b) (h2 : KeepB b c) : KeepB a c :=
  ⟨Nat.le_trans h1.1 h2.1, fun i x hx n1 n2 n3 => h2.2 i x (h1.2 i x hx n1 n2 n3) n1 n2 n3⟩
theorem Owns.keep {H h' : List SB} {es : List OE} (O : Owns H es) (K : KeepB H h') : Owns h' es :=
  ⟨fun i e he => K.2 _ _ (O.at_ i e he) (by decide : (5 : Nat) ≠ 52) (by decide : (5 : Nat) ≠ 35) (by decide : (5 : Nat) ≠ 9), O.own, O.lt, O.ne⟩
theorem Owns.push {H : List SB} {es : List OE} (O : Owns H es) (e : OE) (h1 : H[e.w]? = some (wB e.o (e.l ++ e.p))) (h2 : 0 < e.l.length + e.p.length → e.o = true) (h3 : e.l.length < 140737488351233) (h4 : ∀ f ∈ es, f.w ≠ e.w) : Owns H (es ++ [e]) := by
  have key : ∀ (i : Nat) (f : OE), (es ++ [e])[i]? = some f → es[i]? = some f ∨ (i = es.length ∧ f = e) := by
    intro i f hf
    by_cases hi : i < es.length
    · rw [List.getElem?_append_left hi] at hf
      exact .inl hf
    · rw [List.getElem?_append_right (by omega)] at hf
      have : i - es.length = 0 := by
        have := (List.getElem?_eq_some_iff.1 hf).1
        simp at this
        omega
      rw [this] at hf
      exact .inr ⟨by omega, (Option.some.inj hf).symm⟩
  refine ⟨fun i f hf => ?_, fun i f hf => ?_, fun i f hf => ?_, fun i j f g hij hf hg => ?_⟩
  · rcases key i f hf with h | ⟨_, rfl⟩
    · exact O.at_ i f h
    · exact h1
  · rcases key i f hf with h | ⟨_, rfl⟩
    · exact O.own i f h
    · exact h2
  · rcases key i f hf with h | ⟨_, rfl⟩
    · exact O.lt i f h
    · exact h3
  · rcases key i f hf with h | ⟨hi, rfl⟩ <;> rcases key j g hg with h' | ⟨hj, rfl⟩
    · exact O.ne i j f g hij h h'
    · exact h4 f (List.mem_of_getElem? h)
    · exact Ne.symm (h4 g (List.mem_of_getElem? h'))
    · omega

theorem takeA_spec {H : List SB} {bk : Nat} {es : List OE} (B : BkS H bk es) (hn : es.length ≤ 4398046511104) (w : Nat) (l sp : List UInt8) (o : Bool) (hw : H[w]? = some (wB o (l ++ sp))) (hl : l.length ≤ 1514) :
    Spec cx.P 30 [.c (.ptr bk 0), .c (.sl w 0 l.length (l.length + sp.length))] H fun t h' => t = .tup [] ∧ BkS h' bk (es ++ [⟨w, l, sp, o⟩]) ∧ KeepB H h' := by
  rcases B with ⟨rfl, hb⟩ | ⟨iL, cL, iW, cW, B⟩
  · refine (take0_spec H bk w l sp o _ (by omega) hb hw).mono fun t h' ⟨h1, iL, cL, iW, cW, B', K, _, _⟩ => ⟨h1, .inr ⟨iL, cL, iW, cW, B'⟩, K.1, fun i b hi n1 n2 n3 => ?_⟩
    rw [K.2 i (lt_of hi) (ty_ne hi hb n1)]
    exact hi
  · refine (take_spec H bk w _ _ iL cL iW cW l sp o _ (by omega) B (by simpa using hn) hw).mono fun t h' ⟨h1, iL', cL', iW', cW', B', K, _, _⟩ => ⟨h1, .inr ⟨iL', cL', iW', cW', ?_⟩, K.1, fun i b hi n1 n2 n3 => ?_⟩
    · simpa [OE.sc] using B'
    · rw [K.2 i (lt_of hi) (fun h => ?_)]
      · exact hi
      · rcases h with h | h | h
        · exact ty_ne hi B.b n1 h
        · exact ty_ne hi B.L n2 h
        · exact ty_ne hi B.W n3 h

end Go.Proofs.Ytdfhmpheepobnaa.Sx
