/- The symbolic executor, at work: two pairs of cards and one book. No condition. -/
import Derived.Test.YtdfhmpheepobnaaC4t
import Derived.Test.YtdfhmpheepobnaaC4h
namespace Go.Proofs.Ytdfhmpheepobnaa.Sx
open Go
set_option linter.unusedSimpArgs false
set_option linter.unusedVariables false
set_option maxRecDepth 10000
set_option maxHeartbeats 2000000

theorem RSx.keep4 {S : Nat → Prop} {H H' : List SB} {rc rr rt : Nat} {k : CK} (h : RSx S H rc rr rt k) (K : ∀ (i : Nat) (b : SB), H[i]? = some b → (i = rc ∨ i = rr ∨ i = rt ∨ b.ty = 5) → H'[i]? = some b) : RSx S H' rc rr rt k := by
  obtain ⟨lr, lt, cr, ct, R, X, Y⟩ := h
  refine ⟨lr, lt, cr, ct, ⟨K _ _ R.hc (.inl rfl), K _ _ R.hr (.inr (.inl rfl)), K _ _ R.ht (.inr (.inr (.inl rfl))), R.ne, R.lr, R.lt, R.n1, R.n2, R.ar, R.at'⟩, ?_, ?_⟩
  · exact X.mono fun _ _ h => h.keep fun i b hi ht => K i b hi (.inr (.inr (.inr ht)))
  · exact Y.mono fun _ _ h => h.keep fun i b hi ht => K i b hi (.inr (.inr (.inr ht)))

/-- The other pair stands. -/
theorem J4.other {S S' : Nat → Prop} {H h' : List SB} {c w1 w2 rc rr rt c' w1' w2' rc' rr' rt' bk : Nat} {kp kp' kq : CK} {es es' : List OE} (Jp : J4 S H c w1 w2 rc rr rt bk kp kp es) (Jq : J4 S H c' w1' w2' rc' rr' rt' bk kq kq es) (Jp' : J4 S' h' c w1 w2 rc rr rt bk kp' kp' es') (K : Kp (X6 c w1 w2 rc rr rt) H h') (s2 : ∀ i, S' i → S i ∨ H.length ≤ i) (hd : ∀ i, X6 c' w1' w2' rc' rr' rt' i → ¬ X6 c w1 w2 rc rr rt i) : J4 S' h' c' w1' w2' rc' rr' rt' bk kq kq es' := by
  obtain ⟨⟨b1, e1, t1⟩, ⟨b2, e2, t2⟩, ⟨b3, e3, t3⟩⟩ := Jp.tys
  obtain ⟨⟨a1, f1, u1⟩, ⟨a2, f2, u2⟩, ⟨a3, f3, u3⟩⟩ := Jq.tys
  have key : ∀ (i : Nat) (b : SB), H[i]? = some b → b.ty = 5 → ¬ X6 c w1 w2 rc rr rt i := fun i b hi ht => by
    rintro (h | h | h | h | h | h)
    · exact ty_ne hi Jp.C.hc (by rw [ht]; exact (by decide : (5 : Nat) ≠ 63)) h
    · exact ty_ne hi Jp.C.h1 (by rw [ht]; exact (by decide : (5 : Nat) ≠ 66)) h
    · exact ty_ne hi Jp.C.h2 (by rw [ht]; exact (by decide : (5 : Nat) ≠ 66)) h
    · exact ty_ne hi e1 (by rw [ht, t1]; exact (by decide : (5 : Nat) ≠ 69)) h
    · exact ty_ne hi e2 (by rw [ht, t2]; exact (by decide : (5 : Nat) ≠ 40)) h
    · exact ty_ne hi e3 (by rw [ht, t3]; exact (by decide : (5 : Nat) ≠ 40)) h
  refine ⟨⟨K.2 _ _ Jq.C.hc (hd _ (.inl rfl)) (by decide : (63 : Nat) ≠ _) (by decide : (63 : Nat) ≠ _) (by decide : (63 : Nat) ≠ _),
      K.2 _ _ Jq.C.h1 (hd _ (.inr (.inl rfl))) (by decide : (66 : Nat) ≠ _) (by decide : (66 : Nat) ≠ _) (by decide : (66 : Nat) ≠ _),
      K.2 _ _ Jq.C.h2 (hd _ (.inr (.inr (.inl rfl)))) (by decide : (66 : Nat) ≠ _) (by decide : (66 : Nat) ≠ _) (by decide : (66 : Nat) ≠ _), Jq.C.ne⟩,
    (Jq.R.grow s2).keep4 fun i b hi h => ?_, Jp'.B, Jp'.O, Jp'.sub, Jp'.hS⟩
  rcases h with rfl | rfl | rfl | h
  · rw [f1] at hi; cases hi
    exact K.2 _ _ f1 (hd _ (by simp [X6])) (by rw [u1]; decide) (by rw [u1]; decide) (by rw [u1]; decide)
  · rw [f2] at hi; cases hi
    exact K.2 _ _ f2 (hd _ (by simp [X6])) (by rw [u2]; decide) (by rw [u2]; decide) (by rw [u2]; decide)
  · rw [f3] at hi; cases hi
    exact K.2 _ _ f3 (hd _ (by simp [X6])) (by rw [u3]; decide) (by rw [u3]; decide) (by rw [u3]; decide)
  · exact K.2 _ _ hi (key i b hi h) (by rw [h]; decide) (by rw [h]; decide) (by rw [h]; decide)

/-- New cards stand alike. -/
theorem J4.start {H : List SB} {c w1 w2 rc rr rt bk n m j1 j2 : Nat} (n1 : 1 ≤ n) (n2 : n ≤ 64) (m1 : 1 ≤ m) (m2 : m ≤ 64) (hc : H[c]? = some (cardB w1 w2 n m (0 : Nat) (0 : Nat) 0 0 0)) (h1 : H[w1]? = some (stB (slC (List.replicate n (slT true))))) (h2 : H[w2]? = some (stB (slC (List.replicate m (slT false)))))
    (hrc : H[rc]? = some (rcB (.sl rr 0 n (n + j1)) (.sl rt 0 m (m + j2)) (0 : Nat) (0 : Nat) 0 0 0)) (hrr : H[rr]? = some (dB true (rowsN true n j1))) (hrt : H[rt]? = some (dB true (rowsN false m j2))) (hb : H[bk]? = some (bookB nilC nilC)) (ne : c ≠ w1 ∧ c ≠ w2 ∧ w1 ≠ w2) (ne' : rc ≠ rr ∧ rc ≠ rt ∧ rr ≠ rt) :
    J4 (fun _ => False) H c w1 w2 rc rr rt bk (newK n m) (newK n m) [] := by
  have rows : ∀ (b : Bool) (l j : Nat), rowsOf (fun _ => False) H (List.replicate l (slT b)) (rowsN b l j) := fun b l j i s hs => by
    obtain ⟨hi, rfl⟩ := List.getElem?_eq_some_iff.1 hs
    rw [List.length_replicate] at hi
    rw [List.getElem_replicate]
    exact ⟨.v (.slice none 0 0), by rw [List.getElem?_append_left (by simpa using hi), List.getElem?_replicate, if_pos hi], .inl ⟨rfl, rfl⟩⟩
  refine ⟨⟨by simpa [CK.B] using hc, h1, h2, ne⟩, ⟨rowsN true n j1, rowsN false m j2, n + j1, m + j2, ⟨by simpa using hrc, hrr, hrt, ne', by simp, by simp, by simp; omega, by simp; omega, by simp; omega, by simp; omega⟩, rows _ _ _, rows _ _ _⟩, .inl ⟨rfl, hb⟩, ⟨fun i e he => by simp at he, fun i e he => by simp at he, fun i e he => by simp at he, fun i j e f _ he => by simp at he⟩, fun e he => by simp at he, fun i hi => hi.elim⟩

theorem owned0_spec {H : List SB} {bk : Nat} (hb : H[bk]? = some (bookB nilC nilC)) : Spec cx.P 19 [.c (.ptr bk 0)] H fun t h' => t = .c (bC true) ∧ h' = H := by
  have ltb := lt_of hb
  refine spec_of_X cx_ok Try.func19 rfl (by kernel_rfl) (by kernel_rfl) (Nat.le_of_ble_eq_true rfl) 400 15 ?_
  simp (maxSteps := 4000000) only [Try.results19, XX, Nat.reduceBEq, Nat.reduceLT, Nat.reduceAdd, Nat.reduceMul, Nat.reduceSub, Nat.reduceLeDiff, Nat.reduceEqDiff, Int.reduceToNat, Int.reduceLT, Int.reduceLE, Int.reduceAdd, Int.reduceSub, Int.reduceEq, reduceIte, Nat.reduceBNe, Int.reducePow, Nat.reducePow, Int.reduceMul, Int.reduceNeg, isB_i, isB_b, isB_y, isBv_i, isBv_b, eqCells_t, TT]
  refine loop_rounds cx_ok 400 1 ?_
  simp (maxSteps := 4000000) only [Try.results19, hb, ltb, XX, Nat.reduceBEq, Nat.reduceLT, Nat.reduceAdd, Nat.reduceMul, Nat.reduceSub, Nat.reduceLeDiff, Nat.reduceEqDiff, Int.reduceToNat, Int.reduceLT, Int.reduceLE, Int.reduceAdd, Int.reduceSub, Int.reduceEq, reduceIte, Nat.reduceBNe, Int.reducePow, Nat.reducePow, Int.reduceMul, Int.reduceNeg, isB_i, isB_b, isB_y, isBv_i, isBv_b, eqCells_t, TT]
  refine loop_rounds cx_ok 400 1 ?_
  simp (maxSteps := 4000000) only [Try.results19, hb, ltb, XX, Nat.reduceBEq, Nat.reduceLT, Nat.reduceAdd, Nat.reduceMul, Nat.reduceSub, Nat.reduceLeDiff, Nat.reduceEqDiff, Int.reduceToNat, Int.reduceLT, Int.reduceLE, Int.reduceAdd, Int.reduceSub, Int.reduceEq, reduceIte, Nat.reduceBNe, Int.reducePow, Nat.reducePow, Int.reduceMul, Int.reduceNeg, isB_i, isB_b, isB_y, isBv_i, isBv_b, eqCells_t, TT]
  refine loop_rounds cx_ok 400 1 ?_
  simp (maxSteps := 4000000) only [Try.results19, hb, ltb, XX, Nat.reduceBEq, Nat.reduceLT, Nat.reduceAdd, Nat.reduceMul, Nat.reduceSub, Nat.reduceLeDiff, Nat.reduceEqDiff, Int.reduceToNat, Int.reduceLT, Int.reduceLE, Int.reduceAdd, Int.reduceSub, Int.reduceEq, reduceIte, Nat.reduceBNe, Int.reducePow, Nat.reducePow, Int.reduceMul, Int.reduceNeg, isB_i, isB_b, isB_y, isBv_i, isBv_b, eqCells_t, TT]

/-- Behind the owner's check the cards stand, with a new book. -/
theorem J4.anew {S : Nat → Prop} {H h' : List SB} {c w1 w2 rc rr rt bk : Nat} {k : CK} {es : List OE} {bk' : Nat} (J : J4 S H c w1 w2 rc rr rt bk k k es) (hl : H.length ≤ h'.length) (K : ∀ (i : Nat) (b : SB), H[i]? = some b → b.ty ≠ 52 → b.ty ≠ 35 → b.ty ≠ 9 → (∀ e ∈ es, e.w ≠ i) → h'[i]? = some b) (hb : h'[bk']? = some (bookB nilC nilC)) : J4 S h' c w1 w2 rc rr rt bk' k k [] := by
  have key : ∀ (i : Nat) (b : SB), H[i]? = some b → b.ty ≠ 5 → ∀ e ∈ es, e.w ≠ i := fun i b hi ht e he => by
    obtain ⟨j, hj, h⟩ := List.getElem_of_mem he
    exact Ne.symm (ty_ne hi (J.O.at_ j e (by rw [List.getElem?_eq_getElem hj, h])) ht)
  refine ⟨J.C.keep fun i b hi h => K i b hi ?_ ?_ ?_ (key i b hi ?_), J.R.keep3 fun i b hi h => ?_, .inl ⟨rfl, hb⟩, ⟨fun i e he => by simp at he, fun i e he => by simp at he, fun i e he => by simp at he, fun i j e f _ he => by simp at he⟩, fun e he => by simp at he, fun i hi => Nat.lt_of_lt_of_le (J.hS i hi) hl⟩
  · rcases h with h | h <;> rw [h] <;> decide
  · rcases h with h | h <;> rw [h] <;> decide
  · rcases h with h | h <;> rw [h] <;> decide
  · rcases h with h | h <;> rw [h] <;> decide
  · obtain ⟨_, ⟨b2, e2, t2⟩, ⟨b3, e3, t3⟩⟩ := J.tys
    rcases h with h | rfl | rfl | h
    · exact K i b hi (by rw [h]; decide) (by rw [h]; decide) (by rw [h]; decide) (key i b hi (by rw [h]; decide))
    · rw [e2] at hi; cases hi; exact K _ _ e2 (by rw [t2]; decide) (by rw [t2]; decide) (by rw [t2]; decide) (key _ _ e2 (by rw [t2]; decide))
    · rw [e3] at hi; cases hi; exact K _ _ e3 (by rw [t3]; decide) (by rw [t3]; decide) (by rw [t3]; decide) (key _ _ e3 (by rw [t3]; decide))
    · exact K i b hi (by rw [h.1]; decide) (by rw [h.1]; decide) (by rw [h.1]; decide) fun e he e' => h.2 (by rw [← e']; exact J.sub e he)

theorem ownedB_spec {S : Nat → Prop} {H : List SB} {c w1 w2 rc rr rt bk : Nat} {k : CK} {es : List OE} (J : J4 S H c w1 w2 rc rr rt bk k k es) (hn : es.length < 4398046511104) :
    Spec cx.P 19 [.c (.ptr bk 0)] H fun t h' => t = .c (bC true) ∧ H.length ≤ h'.length ∧ ∀ (i : Nat) (b : SB), H[i]? = some b → b.ty ≠ 52 → b.ty ≠ 35 → b.ty ≠ 9 → (∀ e ∈ es, e.w ≠ i) → h'[i]? = some b := by
  rcases J.B with ⟨rfl, hb⟩ | ⟨iL, cL, iW, cW, B⟩
  · exact (owned0_spec hb).mono fun t h' ⟨h1, h2⟩ => by subst h2; exact ⟨h1, Nat.le_refl _, fun i b hi _ _ _ _ => hi⟩
  · exact (ownedF_spec B J.O hn).mono fun t h' ⟨h1, h2, h3⟩ => ⟨h1, h2, fun i b hi n1 n2 n3 n4 => h3 i b hi (ty_ne hi B.b n1) (ty_ne hi B.L n2) (ty_ne hi B.W n3) n4⟩

end Go.Proofs.Ytdfhmpheepobnaa.Sx
