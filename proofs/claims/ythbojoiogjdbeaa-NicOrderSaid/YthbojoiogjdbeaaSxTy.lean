/- A symbolic executor for the model's code: how its table of types is checked. No condition. -/
import Derived.Test.YthbojoiogjdbeaaSxKit
namespace Go.Proofs.Ythbojoiogjdbeaa.Sx
open Go
set_option linter.unusedVariables false

def eqV : Value → Value → Bool
  | .int k n, .int k' n' => decide (k = k') && decide (n = n')
  | .bool b, .bool b' => b == b'
  | .string s, .string s' => decide (s.data.toList = s'.data.toList)
  | .pointer none, .pointer none => true
  | .slice none n c, .slice none n' c' => decide (n = n') && decide (c = c')
  | .nilFunc, .nilFunc => true
  | .nilIface, .nilIface => true
  | _, _ => false

theorem eqV_ok {a b : Value} (h : eqV a b = true) : a = b := by
  unfold eqV at h
  split at h <;> simp at h ⊢
  · exact h
  · exact h
  · rename_i s s'
    obtain ⟨x⟩ := s
    obtain ⟨y⟩ := s'
    simp only [ByteArray.mk.injEq]
    first | exact h | exact Array.ext' h
  · exact h

def eqVs : List Value → List Value → Bool
  | [], [] => true
  | a :: r, b :: s => eqV a b && eqVs r s
  | _, _ => false

theorem eqVs_ok : ∀ {a b : List Value}, eqVs a b = true → a = b
  | [], [], _ => rfl
  | a :: r, b :: s, h => by
    simp only [eqVs, Bool.and_eq_true] at h
    rw [eqV_ok h.1, eqVs_ok h.2]
  | [], _ :: _, h => by simp [eqVs] at h
  | _ :: _, [], h => by simp [eqVs] at h

def chkD (P : Program) (t : TypeId) : TD → Bool
  | .int k => match P.underlying t with
    | some (.int k') => decide (k = k')
    | _ => false
  | .bool => match P.underlying t with
    | some .bool => true
    | _ => false
  | .str => match P.underlying t with
    | some .string => true
    | _ => false
  | .ptr => match P.underlying t with
    | some (.pointer _) => true
    | _ => false
  | .slice e => match P.underlying t with
    | some (.slice e') => decide (e = e')
    | _ => false
  | .struct fs => match P.underlying t with
    | some (.struct flds) => decide (flds.toList.map (fun f => (f.offset, f.type)) = fs) && flds.toList.all fun f => (P.info? f.type).isSome
    | _ => false
  | .array n e => match P.underlying t with
    | some (.array n' e') => decide (n = n') && decide (e = e')
    | _ => false
  | .func => match P.underlying t with
    | some (.func _ _ _) => true
    | _ => false
  | .iface => match P.underlying t with
    | some (.interface _) => true
    | _ => false
  | .other => false

theorem chkD_ok {P : Program} {t : TypeId} {d : TD} (h : chkD P t d = true) : descOk P t d := by
  cases d <;> simp only [chkD] at h <;> (first | (cases h; done) | skip) <;> split at h <;> simp only [descOk] <;> first
    | (cases h; done)
    | (rename_i e; simp only [decide_eq_true_eq] at h; subst h; exact e)
    | (rename_i e; exact e)
    | (rename_i e; exact ⟨_, e⟩)
    | (rename_i e; exact ⟨_, _, _, e⟩)
    | (rename_i e; simp only [Bool.and_eq_true, decide_eq_true_eq] at h; exact ⟨_, e, h.1, fun f hf => List.all_eq_true.1 h.2 f hf⟩)
    | (rename_i e; simp only [Bool.and_eq_true, decide_eq_true_eq] at h; obtain ⟨rfl, rfl⟩ := h; exact e)

def chkT (P : Program) (t : TypeId) (ti : TI) : Bool :=
  (match P.info? t with
  | some inf => decide (inf.size = ti.size) && decide (inf.bytes = ti.bytes) && (match inf.zero with
    | some z => eqVs z.cells.toList ti.zero && decide (ti.zero.length = ti.size) && ti.zero.all Value.oneCell'
    | none => false)
  | none => false) && chkD P t ti.desc

theorem chkT_ok {P : Program} {t : TypeId} {ti : TI} (h : chkT P t ti = true) : TyOk P t ti := by
  unfold chkT at h
  rw [Bool.and_eq_true] at h
  obtain ⟨h, hd⟩ := h
  refine ⟨?_, chkD_ok hd⟩
  split at h
  · rename_i inf hi
    simp only [Bool.and_eq_true, decide_eq_true_eq] at h
    obtain ⟨⟨h1, h2⟩, h3⟩ := h
    split at h3
    · rename_i z hz
      simp only [Bool.and_eq_true, decide_eq_true_eq] at h3
      exact ⟨inf, z, hi, h1, h2, hz, eqVs_ok h3.1.1, h3.1.2, fun x hx => List.all_eq_true.1 h3.2 x hx⟩
    · cases h3
  · cases h

end Go.Proofs.Ythbojoiogjdbeaa.Sx
