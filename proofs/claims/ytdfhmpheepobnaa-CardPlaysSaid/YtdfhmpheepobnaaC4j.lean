/- The symbolic executor, at work: a card in any heap. No condition. -/
import Derived.Test.YtdfhmpheepobnaaC4i
namespace Go.Proofs.Ytdfhmpheepobnaa.Sx
open Go
set_option linter.unusedSimpArgs false
set_option linter.unusedVariables false
set_option maxRecDepth 10000
set_option maxHeartbeats 2000000

abbrev CK.B (k : CK) (w1 w2 : Nat) : SB := cardB w1 w2 k.rx.length k.tx.length k.rn k.tn k.cin k.cdr k.cout
/-- A card in a heap. -/
structure PC (H : List SB) (c w1 w2 : Nat) (k : CK) : Prop where
  hc : H[c]? = some (k.B w1 w2)
  h1 : H[w1]? = some (stB (slC k.rx))
  h2 : H[w2]? = some (stB (slC k.tx))
  ne : c ≠ w1 ∧ c ≠ w2 ∧ w1 ≠ w2
def setC (H : List SB) (c w1 w2 : Nat) (k : CK) : List SB := ((H.set c (k.B w1 w2)).set w1 (stB (slC k.rx))).set w2 (stB (slC k.tx))
theorem setC_len (H : List SB) (c w1 w2 : Nat) (k : CK) : (setC H c w1 w2 k).length = H.length := by simp [setC]
theorem setC_off {H : List SB} {c w1 w2 : Nat} {k : CK} {i : Nat} (h1 : i ≠ c) (h2 : i ≠ w1) (h3 : i ≠ w2) : (setC H c w1 w2 k)[i]? = H[i]? := by
  unfold setC
  rw [List.getElem?_set_ne (Ne.symm h3), List.getElem?_set_ne (Ne.symm h2), List.getElem?_set_ne (Ne.symm h1)]
theorem PC.set {H : List SB} {c w1 w2 : Nat} {k : CK} (h : PC H c w1 w2 k) (k' : CK) : PC (setC H c w1 w2 k') c w1 w2 k' := by
  obtain ⟨n1, n2, n3⟩ := h.ne
  have l1 := lt_of h.hc
  have l2 := lt_of h.h1
  have l3 := lt_of h.h2
  refine ⟨?_, ?_, ?_, h.ne⟩ <;> unfold setC
  · rw [List.getElem?_set_ne (Ne.symm n2), List.getElem?_set_ne (Ne.symm n1), List.getElem?_set_self l1]
  · rw [List.getElem?_set_ne (Ne.symm n3), List.getElem?_set_self (by simpa using l2)]
  · rw [List.getElem?_set_self (by simpa using l3)]
theorem PC.app {H : List SB} {c w1 w2 : Nat} {k : CK} (h : PC H c w1 w2 k) (X : List SB) : PC (H ++ X) c w1 w2 k :=
  ⟨by rw [List.getElem?_append_left (lt_of h.hc)]; exact h.hc, by rw [List.getElem?_append_left (lt_of h.h1)]; exact h.h1, by rw [List.getElem?_append_left (lt_of h.h2)]; exact h.h2, h.ne⟩
theorem PC.mono {H H' : List SB} {c w1 w2 : Nat} {k : CK} (h : PC H c w1 w2 k) (e1 : H'[c]? = H[c]?) (e2 : H'[w1]? = H[w1]?) (e3 : H'[w2]? = H[w2]?) : PC H' c w1 w2 k :=
  ⟨e1.trans h.hc, e2.trans h.h1, e3.trans h.h2, h.ne⟩

theorem plug3 {H : List SB} {c w1 w2 : Nat} (k k' : CK) (X : List SB) : plug (renF [c, w1, w2] H.length) [c, w1, w2] k.h (k'.h ++ X) H = setC H c w1 w2 k' ++ X.map (SB.ren (renF [c, w1, w2] H.length)) := by
  simp only [XX, Nat.reduceBEq, Nat.reduceLT, Nat.reduceAdd, Nat.reduceMul, Nat.reduceSub, Nat.reduceLeDiff, Nat.reduceEqDiff, Int.reduceToNat, Int.reduceLT, Int.reduceLE, Int.reduceAdd, Int.reduceSub, Int.reduceEq, reduceIte, Nat.reduceBNe, Int.reducePow, Nat.reducePow, Int.reduceMul, Int.reduceNeg, isB_i, isB_b, isB_y, isBv_i, isBv_b, eqCells_t, TT, ids_bsC, ren_bsC, noRo_bsC, plain_bsC, lt_bsC, ids_byte, ren_byte, noRo_byte, plain_byte, lt_byte, slC_ren]
  rfl

/-- A contract of a card's call, met in any heap. -/
theorem PC.spec {H : List SB} {c w1 w2 : Nat} {k : CK} (h : PC H c w1 w2 k) {f : FuncId} {bs as0 : List SV} {K : SV → List SB → Prop} (s : Spec cx.P f (.c (.ptr 0 0) :: as0) k.h K) (hno : ∀ t h', K t h' → t.noRo = true ∧ (h'.all fun b => b.cells.all SC.noRo) = true)
    (ha : frA true (notW [c, w1, w2] k.h) (renF [c, w1, w2] H.length) 3 H bs as0) :
    Spec cx.P f (.c (.ptr c 0) :: bs) H fun t h' => ∃ s0 h0', K s0 h0' ∧ t = s0.ren (renF [c, w1, w2] H.length) ∧ h' = plug (renF [c, w1, w2] H.length) [c, w1, w2] k.h h0' H := by
  obtain ⟨n1, n2, n3⟩ := h.ne
  refine s.frame true (fun _ => hno) [c, w1, w2] ⟨.inl ⟨rfl, rfl⟩, ha⟩ ?_ ?_ (card_lt k)
  · simp [piOk, n1, n2, n3]
  · simp only [XX, Nat.reduceBEq, Nat.reduceLT, Nat.reduceAdd, Nat.reduceMul, Nat.reduceSub, Nat.reduceLeDiff, Nat.reduceEqDiff, Int.reduceToNat, Int.reduceLT, Int.reduceLE, Int.reduceAdd, Int.reduceSub, Int.reduceEq, reduceIte, Nat.reduceBNe, Int.reducePow, Nat.reducePow, Int.reduceMul, Int.reduceNeg, isB_i, isB_b, isB_y, isBv_i, isBv_b, eqCells_t, TT, preOk, ids_bsC, ren_bsC, noRo_bsC, plain_bsC, lt_bsC, ids_byte, ren_byte, noRo_byte, plain_byte, lt_byte, slC_ren, h.hc, h.h1, h.h2]

theorem plug3' {H : List SB} {c w1 w2 : Nat} (k k' : CK) : plug (renF [c, w1, w2] H.length) [c, w1, w2] k.h k'.h H = setC H c w1 w2 k' := by
  have := plug3 (H := H) (c := c) (w1 := w1) (w2 := w2) k k' []
  simp only [List.append_nil, List.map_nil] at this
  exact this
theorem ty_ne {H : List SB} {i j : Nat} {a b : SB} (hi : H[i]? = some a) (hj : H[j]? = some b) (h : a.ty ≠ b.ty) : i ≠ j := by
  rintro rfl
  rw [hi] at hj
  exact h (congrArg SB.ty (Option.some.inj hj))

end Go.Proofs.Ytdfhmpheepobnaa.Sx
