/- The symbolic executor, at work: what arguments may be, by type: bytes. No condition. -/
import Derived.Test.YtflccffjfnfoiaaBy
namespace Go.Proofs.Ytflccffjfnfoiaa.Sx
open Go
set_option linter.unusedSimpArgs false
set_option linter.unusedVariables false

theorem RTy_byte {B n : Nat} {x : List RC} (h : RTy T B (n + 1) 5 x) : ∃ b : UInt8, x = [byteR b] := by
  obtain ⟨z, rfl, h1, h2⟩ := RTy_int T_5 h
  simp [IntKind.min, IntKind.max, IntKind.bits, IntKind.signed] at h1 h2
  refine ⟨UInt8.ofNat z.toNat, ?_⟩
  simp only [byteR]
  congr 3
  simp
  omega

theorem bsR_flat : ∀ ys : List UInt8, (ys.map fun b : UInt8 => [byteR b]).flatten = bsR ys
  | [] => rfl
  | y :: ys => by simp only [List.map_cons, List.flatten_cons, bsR_flat ys]; rfl

theorem RTy_bytes {B n : Nat} {x : List RC} (h : RTy T B (n + 2) 25 x) : ∃ (l sp : List UInt8) (c : Nat), x = [.sl (bsR (l ++ sp)) l.length c] ∧ l.length ≤ c ∧ c = l.length + sp.length ∧ c ≤ maxLen ∧ c ≤ B := by
  obtain ⟨items, len, rfl, h1, h2, h3, h4⟩ := RTy_slice T_25 T_5 h
  obtain ⟨ys, rfl, _⟩ := all_form (p := fun _ => True) (f := fun b : UInt8 => [byteR b]) fun x hx => by
    obtain ⟨b, rfl⟩ := RTy_byte (h4 x hx)
    exact ⟨b, rfl, trivial⟩
  simp only [List.length_map, Nat.mul_one] at h1 h2 h3 ⊢
  refine ⟨ys.take len, ys.drop len, ys.length, ?_, ?_, ?_, h2, h3⟩
  · rw [bsR_flat, List.take_append_drop, List.length_take, Nat.min_eq_left h1]
  · rw [List.length_take]; omega
  · rw [List.length_take, List.length_drop]; omega

end Go.Proofs.Ytflccffjfnfoiaa.Sx
