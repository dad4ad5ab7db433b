/- The symbolic executor, at work: a station's address. No condition. -/
import Derived.Test.YtcihljikepielaaArg
namespace Go.Proofs.Ytcihljikepielaa.Sx
open Go
set_option linter.unusedSimpArgs false
set_option linter.unusedVariables false
set_option maxRecDepth 10000
set_option maxHeartbeats 1000000

/-- A station's address. -/
structure M6 where
  a : UInt8
  b : UInt8
  c : UInt8
  d : UInt8
  e : UInt8
  f : UInt8
deriving DecidableEq
abbrev M6.l (m : M6) : List UInt8 := [m.a, m.b, m.c, m.d, m.e, m.f]
theorem eqM (d o : M6) : eqCells [byteC d.a, byteC d.b, byteC d.c, byteC d.d, byteC d.e, byteC d.f] [byteC o.a, byteC o.b, byteC o.c, byteC o.d, byteC o.e, byteC o.f] = some (decide (d = o)) := by
  have e : ∀ a b : UInt8, ((a.toNat : Int) = (b.toNat : Int)) ↔ a = b := fun a b => by rw [Int.natCast_inj, UInt8.toNat_inj]
  simp only [eqCells, byteC, if_true, Option.map_some, Bool.and_true, e]
  congr 1
  obtain ⟨a, b, c, d, e, f⟩ := d
  obtain ⟨a', b', c', d', e', f'⟩ := o
  simp only [M6.mk.injEq]
  rw [Bool.eq_iff_iff]
  simp
abbrev M6.all : M6 := ⟨255, 255, 255, 255, 255, 255⟩
abbrev M6.group (m : M6) : Bool := decide (m.a.toNat % 2 = 1)


theorem RTy_mac {B n : Nat} {x : List RC} (h : RTy T B (n + 2) 24 x) : ∃ m : M6, x = bsR m.l := by
  obtain ⟨parts, h1, rfl, h2⟩ := RTy_array T_24 h
  obtain ⟨ys, rfl, _⟩ := all_form (p := fun _ => True) (f := fun b : UInt8 => [byteR b]) fun x hx => by
    obtain ⟨b, rfl⟩ := RTy_byte (h2 x hx)
    exact ⟨b, rfl, trivial⟩
  rw [List.length_map] at h1
  match ys, h1 with
  | [a, b, c, d, e, f], _ => exact ⟨⟨a, b, c, d, e, f⟩, rfl⟩

end Go.Proofs.Ytcihljikepielaa.Sx
