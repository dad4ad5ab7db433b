/- The symbolic executor, at work: options as bytes, by definition. No condition. -/
import Derived.Test.YtflccffjfnfoiaaOpA
import Derived.Test.YtflccffjfnfoiaaOpB
namespace Go.Proofs.Ytflccffjfnfoiaa.Sx
open Go
set_option linter.unusedSimpArgs false
set_option linter.unusedVariables false
set_option maxRecDepth 10000
set_option maxHeartbeats 2000000

/-! ### What is laid -/
def pieceL (d : List UInt8) (j : Nat) : List UInt8 := (d.drop (255 * j)).take 255
def encN (b : UInt8) (d : List UInt8) : Nat → List UInt8
  | 0 => []
  | j + 1 => encN b d j ++ (b :: UInt8.ofNat (min 255 (d.length - 255 * j)) :: pieceL d j)
def encO (x : OI) : List UInt8 := encN (UInt8.ofInt x.k) x.d (pcs x.d.length)
def encAll (xs : List OI) : List UInt8 := xs.flatMap encO
def szO (xs : List OI) : Nat := (xs.map fun x => x.d.length + 2 * pcs x.d.length).sum
def totO (xs : List OI) : Nat := (xs.map fun x => x.d.length + 1).sum
theorem pieceL_len (d : List UInt8) (j : Nat) : (pieceL d j).length = min 255 (d.length - 255 * j) := by simp [pieceL]
theorem encN_len (b : UInt8) (d : List UInt8) : ∀ j, (encN b d j).length = 2 * j + min (255 * j) d.length
  | 0 => by simp [encN]
  | j + 1 => by
    simp only [encN, List.length_append, List.length_cons, pieceL_len, encN_len b d j]
    omega
theorem pcs_le {n j : Nat} (h : 255 * j < n ∨ j = 0) : j + 1 ≤ pcs n := by unfold pcs; omega
theorem pcs_full (n : Nat) : n ≤ 255 * pcs n := by unfold pcs; omega
theorem pcs_bound (n : Nat) : pcs n ≤ n + 1 := by unfold pcs; omega
theorem encO_len (x : OI) : (encO x).length = x.d.length + 2 * pcs x.d.length := by
  unfold encO
  rw [encN_len]
  have := pcs_full x.d.length
  omega
theorem encAll_len : ∀ xs : List OI, (encAll xs).length = szO xs
  | [] => rfl
  | x :: xs => by
    have := encAll_len xs
    simp only [encAll, szO, List.flatMap_cons, List.length_append, encO_len, List.map_cons, List.sum_cons] at this ⊢
    omega
theorem szO_le : ∀ xs : List OI, szO xs ≤ 3 * totO xs
  | [] => by simp [szO]
  | x :: xs => by
    have := szO_le xs
    have := pcs_bound x.d.length
    simp only [szO, totO, List.map_cons, List.sum_cons] at *
    omega
theorem totO_len : ∀ xs : List OI, xs.length ≤ totO xs
  | [] => Nat.zero_le _
  | x :: xs => by
    have := totO_len xs
    simp only [totO, List.map_cons, List.sum_cons, List.length_cons] at *
    omega
theorem szO_app (a b : List OI) : szO (a ++ b) = szO a + szO b := by simp [szO]
theorem totO_app (a b : List OI) : totO (a ++ b) = totO a + totO b := by simp [totO]
theorem take_nextO {xs : List OI} {i : Nat} {x : OI} (h : xs[i]? = some x) : xs.take (i + 1) = xs.take i ++ [x] := by
  obtain ⟨hi, rfl⟩ := List.getElem?_eq_some_iff.1 h
  exact (List.take_append_getElem hi).symm
theorem szO_next {xs : List OI} {i : Nat} {x : OI} (h : xs[i]? = some x) : szO (xs.take (i + 1)) = szO (xs.take i) + (x.d.length + 2 * pcs x.d.length) := by
  rw [take_nextO h, szO_app]; simp [szO]
theorem encAll_next {xs : List OI} {i : Nat} {x : OI} (h : xs[i]? = some x) : encAll (xs.take (i + 1)) = encAll (xs.take i) ++ encO x := by
  rw [take_nextO h]; simp [encAll]
theorem szO_take_le (xs : List OI) (i : Nat) : szO (xs.take i) ≤ szO xs := by
  conv => rhs; rw [← List.take_append_drop i xs]
  rw [szO_app]; omega
theorem mem_tot {xs : List OI} {x : OI} (h : x ∈ xs) : x.d.length + 1 ≤ totO xs := by
  obtain ⟨a, b, rfl⟩ := List.append_of_mem h
  simp [totO]; omega
theorem ceil_pcs (n : Nat) : (if (1 : Int) > ((n + 254) / 255 : Nat) then (1 : Int) else ((n + 254) / 255 : Nat)) = (pcs n : Nat) := by
  unfold pcs
  split <;> omega

/-! ### Which codes may not be -/
def BadAt (xs : List OI) (i : Nat) (x : OI) : Prop := x.k ≤ 0 ∨ 255 ≤ x.k ∨ ∃ y ∈ xs.take i, y.k = x.k
def Bad (xs : List OI) : Prop := ∃ i x, xs[i]? = some x ∧ BadAt xs i x
def seenF (xs : List OI) (n : Nat) : Bool := xs.any fun x => decide (x.k = (n : Int))
def seenC (s : Nat → Bool) : List SC := (List.range 255).map fun n => bC (s n)
theorem seenC_len (s : Nat → Bool) : (seenC s).length = 255 := by simp [seenC]
theorem seenC_zero : List.replicate 255 (SC.v (.bool false)) = seenC (seenF []) := by
  unfold seenC seenF
  apply List.ext_getElem?
  intro i
  simp only [List.getElem?_replicate, List.getElem?_map, List.any_nil]
  by_cases h : i < 255
  · rw [if_pos h, List.getElem?_range h]; rfl
  · rw [if_neg h, List.getElem?_eq_none (by simp; omega)]; rfl
theorem seenC_at (s : Nat → Bool) {n : Nat} (h : n < 255) : (seenC s).getD n .any = bC (s n) := by
  unfold seenC
  rw [List.getD_eq_getElem?_getD, List.getElem?_map, List.getElem?_range h]; rfl
theorem seenC_set (xs : List OI) {x : OI} {n : Nat} (hx : x.k = (n : Int)) (h : n < 255) : (seenC (seenF xs)).take n ++ [SC.v (.bool true)] ++ (seenC (seenF xs)).drop (n + 1) = seenC (seenF (xs ++ [x])) := by
  have e : (seenC (seenF xs)).take n ++ [SC.v (.bool true)] ++ (seenC (seenF xs)).drop (n + 1) = (seenC (seenF xs)).set n (.v (.bool true)) := by
    rw [List.set_eq_take_append_cons_drop, if_pos (by rw [seenC_len]; exact h), List.append_assoc]; rfl
  rw [e]
  apply List.ext_getElem?
  intro i
  by_cases hi : n = i
  · subst hi
    rw [List.getElem?_set_self (by rw [seenC_len]; exact h)]
    unfold seenC seenF
    rw [List.getElem?_map, List.getElem?_range h]
    simp [hx]
  · rw [List.getElem?_set_ne hi]
    unfold seenC seenF
    by_cases h' : i < 255
    · rw [List.getElem?_map, List.getElem?_map, List.getElem?_range h']
      have : decide (x.k = (i : Int)) = false := by simp only [decide_eq_false_iff_not]; omega
      simp [this]
    · rw [List.getElem?_eq_none (by simp; omega), List.getElem?_eq_none (by simp; omega)]
theorem seenC_mem {s : Nat → Bool} {x : SC} (h : x ∈ seenC s) : ∃ b, x = bC b := by
  simp only [seenC, List.mem_map] at h
  obtain ⟨n, _, rfl⟩ := h
  exact ⟨_, rfl⟩
theorem seenC_ids (p : Nat → Bool) (s : Nat → Bool) : (seenC s).all (SC.ids p) = true := by
  rw [List.all_eq_true]; intro x hx; obtain ⟨b, rfl⟩ := seenC_mem hx; rfl
theorem seenC_ren (r : Nat → Nat) (s : Nat → Bool) : (seenC s).map (SC.ren r) = seenC s := by
  conv => rhs; rw [← List.map_id (seenC s)]
  exact List.map_congr_left fun x hx => by obtain ⟨b, rfl⟩ := seenC_mem hx; rfl
theorem seenF_iff {xs : List OI} {i : Nat} {x : OI} {n : Nat} (hx : x.k = (n : Int)) : seenF (xs.take i) n = true ↔ ∃ y ∈ xs.take i, y.k = x.k := by
  unfold seenF
  rw [List.any_eq_true]
  simp only [decide_eq_true_eq, hx]

open Classical in
/-- What packing comes to: the bytes, the error. -/
noncomputable def packF (xs : List OI) (room : Int) : List UInt8 × Int :=
  if Bad xs then ([], 150) else if 64 < xs.length then ([], 2) else if room < 1 + (szO xs : Int) then ([], 2) else (encAll xs ++ [255], 0)

end Go.Proofs.Ytflccffjfnfoiaa.Sx
