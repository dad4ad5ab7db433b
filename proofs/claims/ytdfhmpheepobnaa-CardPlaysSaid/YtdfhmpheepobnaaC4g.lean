/- The symbolic executor, at work: a ring of slots. No condition. -/
import Derived.Test.YtdfhmpheepobnaaC4f
import Derived.Test.YtdfhmpheepobnaaArg
namespace Go.Proofs.Ytdfhmpheepobnaa.Sx
open Go
set_option linter.unusedSimpArgs false
set_option linter.unusedVariables false
set_option maxRecDepth 10000
set_option maxHeartbeats 2000000

/-- A ring of 'n' slots holds what was put, from 'a' on; such slots are 'full', the others not. -/
structure Rg (full : Bool) (n : Nat) (l : List Sl) (a : Nat) (q : List (List UInt8)) : Prop where
  len : l.length = n
  ab : a ≤ q.length
  bn : q.length ≤ a + n
  on : ∀ k, a ≤ k → k < q.length → ∃ s, l[k % n]? = some s ∧ s.own = full ∧ q[k]? = some s.d
  off : ∀ k, q.length ≤ k → k < a + n → ∃ s, l[k % n]? = some s ∧ s.own = !full

theorem mod_ne {a n x y : Nat} (hx : a ≤ x) (hy : a ≤ y) (hx' : x < a + n) (hy' : y < a + n) (h : x ≠ y) : x % n ≠ y % n := by
  intro he
  rcases Nat.lt_or_gt_of_ne h with hlt | hlt
  · have := Nat.sub_mod_eq_zero_of_mod_eq he.symm
    rw [Nat.mod_eq_of_lt (by omega)] at this
    omega
  · have := Nat.sub_mod_eq_zero_of_mod_eq he
    rw [Nat.mod_eq_of_lt (by omega)] at this
    omega

theorem Rg.push {full : Bool} {n : Nat} {l : List Sl} {a : Nat} {q : List (List UInt8)} (h : Rg full n l a q) (hr : q.length < a + n) (x j : List UInt8) : Rg full n (l.set (q.length % n) ⟨full, x, j⟩) a (q ++ [x]) := by
  have hl := h.len
  have hab := h.ab
  have hn : 0 < n := by omega
  have hlt : q.length % n < l.length := by rw [hl]; exact Nat.mod_lt _ hn
  refine ⟨by simpa using hl, by simp; omega, by simp; omega, fun k h1 h2 => ?_, fun k h1 h2 => ?_⟩
  · simp only [List.length_append, List.length_cons, List.length_nil] at h2
    by_cases hk : k = q.length
    · subst hk
      exact ⟨_, List.getElem?_set_self hlt, rfl, by simp⟩
    · obtain ⟨s, g1, g2, g3⟩ := h.on k h1 (by omega)
      refine ⟨s, ?_, g2, ?_⟩
      · rw [List.getElem?_set_ne (mod_ne (a := a) (by omega) (by omega) (by omega) (by omega) (Ne.symm hk))]
        exact g1
      · rw [List.getElem?_append_left (by omega)]
        exact g3
  · simp only [List.length_append, List.length_cons, List.length_nil] at h1
    obtain ⟨s, g1, g2⟩ := h.off k (by omega) h2
    exact ⟨s, by rw [List.getElem?_set_ne (mod_ne (a := a) (by omega) (by omega) (by omega) (by omega) (by omega))]; exact g1, g2⟩

theorem Rg.pop {full : Bool} {n : Nat} {l : List Sl} {a : Nat} {q : List (List UInt8)} (h : Rg full n l a q) (hlt : a < q.length) (x j : List UInt8) : Rg full n (l.set (a % n) ⟨!full, x, j⟩) (a + 1) q := by
  have hl := h.len
  have hbn := h.bn
  have hn : 0 < n := by omega
  have hlt2 : a % n < l.length := by rw [hl]; exact Nat.mod_lt _ hn
  refine ⟨by simpa using hl, by omega, by omega, fun k h1 h2 => ?_, fun k h1 h2 => ?_⟩
  · obtain ⟨s, g1, g2, g3⟩ := h.on k (by omega) h2
    exact ⟨s, by rw [List.getElem?_set_ne (mod_ne (a := a) (by omega) (by omega) (by omega) (by omega) (by omega))]; exact g1, g2, g3⟩
  · by_cases hk : k = a + n
    · subst hk
      rw [Nat.add_mod_right]
      exact ⟨_, List.getElem?_set_self hlt2, rfl⟩
    · obtain ⟨s, g1, g2⟩ := h.off k h1 (by omega)
      exact ⟨s, by rw [List.getElem?_set_ne (mod_ne (a := a) (by omega) (by omega) (by omega) (by omega) (by omega))]; exact g1, g2⟩

theorem Rg.at_b {full : Bool} {n : Nat} {l : List Sl} {a : Nat} {q : List (List UInt8)} (h : Rg full n l a q) (hn : 0 < n) : ∃ s, l[q.length % n]? = some s ∧ (q.length < a + n → s.own = !full) ∧ (¬ q.length < a + n → s.own = full) := by
  have hbn := h.bn
  by_cases hr : q.length < a + n
  · obtain ⟨s, g1, g2⟩ := h.off q.length (Nat.le_refl _) hr
    exact ⟨s, g1, fun _ => g2, fun h => absurd hr h⟩
  · have e : q.length = a + n := by omega
    obtain ⟨s, g1, g2, _⟩ := h.on a (Nat.le_refl _) (by omega)
    refine ⟨s, ?_, fun h => absurd h hr, fun _ => g2⟩
    rw [e, Nat.add_mod_right]
    exact g1

theorem Rg.at_a {full : Bool} {n : Nat} {l : List Sl} {a : Nat} {q : List (List UInt8)} (h : Rg full n l a q) (hn : 0 < n) : ∃ s, l[a % n]? = some s ∧ (a < q.length → s.own = full ∧ q[a]? = some s.d) ∧ (¬ a < q.length → s.own = !full) := by
  have hab := h.ab
  by_cases hr : a < q.length
  · obtain ⟨s, g1, g2, g3⟩ := h.on a (Nat.le_refl _) hr
    exact ⟨s, g1, fun _ => ⟨g2, g3⟩, fun h => absurd hr h⟩
  · obtain ⟨s, g1, g2⟩ := h.off a (by omega) (by omega)
    exact ⟨s, g1, fun h => absurd h hr, fun _ => g2⟩

theorem Rg.new (full : Bool) (n : Nat) : Rg full n (List.replicate n (slT !full)) 0 [] := by
  refine ⟨by simp, by simp, by simp, fun k h1 h2 => by simp at h2, fun k h1 h2 => ?_⟩
  rw [List.getElem?_replicate, if_pos (Nat.mod_lt _ (by omega))]
  exact ⟨_, rfl, rfl⟩

/-- The state of the flow: a card, what came, what was laid, how much was got, is gone. -/
structure Flow (n m : Nat) (k : CK) (came laid : List (List UInt8)) (got gone : Nat) : Prop where
  ok : k.ok
  rx : Rg false n k.rx got came
  tx : Rg true m k.tx gone laid
  rn : k.rn = came.length % n
  tn : k.tn = gone % m
  cin : k.cin = (came.length : Nat)
  cout : k.cout = (gone : Nat)

/-! ### Calls of the law -/
structure OpC where
  k : Int
  i : Int
  l : List UInt8
  sp : List UInt8
  c : Nat
abbrev OpC.rc (o : OpC) : List RC := [.v (.int .i64 o.k), .v (.int .i64 o.i), .sl (bsR (o.l ++ o.sp)) o.l.length o.c]
def OpC.ok (o : OpC) : Prop := o.l.length ≤ o.c ∧ o.c = o.l.length + o.sp.length ∧ o.c ≤ maxLen ∧ o.c ≤ 140737488351232
theorem OpC.form {n : Nat} {x : List RC} (h : RTy T reachBytes (n + 4) 37 x) : ∃ o : OpC, x = o.rc ∧ o.ok := by
  obtain ⟨parts, rfl, hp⟩ := RTy_struct T_37 h
  obtain ⟨p0, _, rfl, q0, hp⟩ := RTyL_cons hp
  obtain ⟨p1, _, rfl, q1, hp⟩ := RTyL_cons hp
  obtain ⟨p2, _, rfl, q2, hp⟩ := RTyL_cons hp
  obtain rfl := RTyL_nil hp
  obtain ⟨k, rfl, _⟩ := RTy_int T_3 q0
  obtain ⟨i, rfl, _⟩ := RTy_int T_3 q1
  obtain ⟨l, sp, c, rfl, hl⟩ := RTy_bytes q2
  exact ⟨⟨k, i, l, sp, c⟩, rfl, hl⟩

end Go.Proofs.Ytdfhmpheepobnaa.Sx
