/- The symbolic executor, at work: windows of which only some are known. No condition. -/
import Derived.Test.YtflccffjfnfoiaaBy
namespace Go.Proofs.Ytflccffjfnfoiaa.Sx
open Go
set_option linter.unusedSimpArgs false
set_option linter.unusedVariables false

theorem gset (l : List SB) (i : Nat) (a : SB) : (l.set i a)[i]? = (l[i]?).map fun _ => a := by
  rw [List.getElem?_set]
  by_cases h : i < l.length
  · simp [h]
  · simp [h, List.getElem?_eq_none (Nat.le_of_not_lt h)]
theorem maskL_nil : ∀ (h : List SB) (k : Nat), maskL [] k h = h
  | [], _ => rfl
  | b :: h, k => by simp [maskL, maskL_nil h (k + 1)]
theorem unL_nil : ∀ (h0 h : List SB) (k : Nat), unL [] k h0 h = h := by
  intro h0 h k
  apply List.ext_getElem?
  intro i
  rw [unL_get]
  cases h[i]? with
  | none => rfl
  | some b =>
    simp only [Option.map_some]
    cases h0[i]? <;> simp
theorem maskL_at {L : List Nat} {h : List SB} {i : Nat} {b : SB} (hb : h[i]? = some b) : ∃ o, (maskL L 0 h)[i]? = some ⟨o, b.ty, b.cells⟩ := by
  rw [maskL_get, hb]
  simp only [Option.map_some, Nat.zero_add]
  cases L.contains i
  · exact ⟨b.own, rfl⟩
  · exact ⟨false, rfl⟩
theorem unL_maskL (L : List Nat) (h : List SB) : unL L 0 h (maskL L 0 h) = h := by
  apply List.ext_getElem?
  intro i
  rw [unL_get, maskL_get]
  cases hb : h[i]? with
  | none => rfl
  | some b =>
    simp only [Option.map_some, Nat.zero_add]
    cases L.contains i <;> simp
theorem lt_of {h : List SB} {i : Nat} {b : SB} (hb : h[i]? = some b) : i < h.length := (List.getElem?_eq_some_iff.1 hb).1
theorem ne_of_ty {h : List SB} {i j : Nat} {a b : SB} (ha : h[i]? = some a) (hb : h[j]? = some b) (hne : a.ty ≠ b.ty) : i ≠ j := by
  rintro rfl
  rw [ha] at hb
  cases hb
  exact hne rfl
theorem kept_nil {h : List SB} : (([] : List Nat).all fun i => match h[i]? with
    | some b => !b.void
    | none => false) = true := rfl
theorem kept_cons {h : List SB} {i : Nat} {L : List Nat} {b : SB} (hb : h[i]? = some b) (hv : b.void = false) (hL : (L.all fun i => match h[i]? with
    | some b => !b.void
    | none => false) = true) : ((i :: L).all fun i => match h[i]? with
    | some b => !b.void
    | none => false) = true := by
  rw [List.all_cons, hL, hb, Bool.and_true]
  show (!b.void) = true
  rw [hv]; rfl
theorem rep_flat (n : Nat) (x : SC) : (List.replicate n [x]).flatten = List.replicate n x := by
  induction n with
  | zero => rfl
  | succ n ih => simp [List.replicate_succ, ih]
/-- Nil may stand for a list of nothing. -/
theorem wk_nil {π : List (Option Nat)} {i o : Nat} : leV π (.c (.v (.slice none 0 0))) (.c (.sl i o 0 0)) := .inr (.inr (.inr ⟨_, _, rfl, .inl rfl⟩))
theorem take_next (l : List UInt8) (i : Nat) (h : i < l.length) : l.take i ++ [l.getD i 0] = l.take (i + 1) := by
  rw [List.getD_eq_getElem?_getD, List.getElem?_eq_getElem h, Option.getD_some]; exact List.take_append_getElem h
theorem binS_ib {d : TD} {sz : List Bool} {fl : Bool} {op : BinOp} {k : IntKind} {a : Int} {b : Bool} : binS d sz fl op (.c (.v (.int k a))) (.c (.v (.bool b))) = .bad := by cases fl <;> rfl
theorem binS_bi {d : TD} {sz : List Bool} {fl : Bool} {op : BinOp} {k : IntKind} {a : Int} {b : Bool} : binS d sz fl op (.c (.v (.bool b))) (.c (.v (.int k a))) = .bad := by cases fl <;> rfl
theorem le_add1 (n : Nat) : n ≤ n + 1 := Nat.le_add_right n 1
end Go.Proofs.Ytflccffjfnfoiaa.Sx
