/- A symbolic executor for the model's code: all of it, over this translation. No condition. -/
import Derived.Test.YthbojoiogjdbeaaSxCx
import Derived.Test.YthbojoiogjdbeaaSxFrame
import Derived.Test.YthbojoiogjdbeaaSxLaw
namespace Go.Proofs.Ythbojoiogjdbeaa.Sx
open Go
set_option linter.unusedVariables false

section
variable {cx : Cx} {L : List Nat} {all : List Oper} {σ : St} {Q : St → Prop} {take : Bool} {xn : XN} {g : Bool}
theorem PX_nil : PX cx L all [] σ Q = Q σ := rfl
theorem PX_cons {i : Nat} {pl : List (Nat × Bool)} : PX cx L all ((i, take) :: pl) σ Q = match all[i]? with
    | none => False
    | some o => PXo cx L take all o (PXn cx L all pl Q) σ := rfl
theorem PXn_ap {pl : List (Nat × Bool)} {k : List KI} {Q' : XE → St → Prop} : PXn cx L all pl Q k σ Q' = PX cx L all pl σ Q := rfl
theorem DK_ap {n : Nat} {k : List KI} {hp hp' : List SB} {nm nm' tm} {Q : XE → St → Prop} : DK cx n k L nm' hp Q ⟨nm, tm, hp'⟩ = X cx n k ⟨nm', tm, unL L 0 hp hp'⟩ Q := rfl
theorem PXo_n {dst op ty pos aft} : PXo cx L take all ⟨dst, op, ty, pos, aft, none⟩ xn σ =
    ((take = true → isValR (opG cx true σ op) = true ∧ rdOk L true σ.tm op = true) ∧ stepR cx.P xn false ⟨dst, op, ty, pos, aft, none⟩ [] σ noP (opG cx true σ op)) := rfl
theorem PXo_g {dst op ty pos aft gd} : PXo cx L take all ⟨dst, op, ty, pos, aft, some gd⟩ xn σ = match guardVal σ.tm (guardSlot all ⟨dst, op, ty, pos, aft, some gd⟩) with
    | none => False
    | some g => PXg cx L take ⟨dst, op, ty, pos, aft, some gd⟩ g xn σ (opG cx g σ op) := rfl
def PXv (xn : XN) (g : Bool) (p : Prop) (σA σB : St) : Prop := (g = true → p ∧ xn [] σA noP) ∧ (g = false → xn [] σB noP)
theorem PXv_t {p : Prop} {σA σB : St} : PXv xn true p σA σB = (p ∧ xn [] σA noP) := by simp [PXv]
theorem PXv_f {p : Prop} {σA σB : St} : PXv xn false p σA σB = xn [] σB noP := by simp [PXv]
theorem PXg_vc {o : Oper} {p : Prop} {x : SC} : PXg cx L take o g xn σ (.val p (.c x)) = ((take = true → rdOk L g σ.tm o.op = true) ∧ (g = true → p) ∧ xn [] ⟨σ.nm, put o.dst (.und g x) σ.tm, σ.hp⟩ noP) := rfl
theorem PXg_va {o : Oper} {p : Prop} {x : List SC} : PXg cx L take o g xn σ (.val p (.agg x)) = ((take = true → rdOk L g σ.tm o.op = true) ∧ PXv xn g p ⟨σ.nm, put o.dst (.agg x) σ.tm, σ.hp⟩ ⟨σ.nm, put o.dst skipV σ.tm, σ.hp⟩) := rfl
theorem PXg_vt {o : Oper} {p : Prop} {x : List (Bool × List SC)} : PXg cx L take o g xn σ (.val p (.tup x)) = ((take = true → rdOk L g σ.tm o.op = true) ∧ PXv xn g p ⟨σ.nm, put o.dst (.tup x) σ.tm, σ.hp⟩ ⟨σ.nm, put o.dst skipV σ.tm, σ.hp⟩) := rfl
theorem PXg_bad {o : Oper} : PXg cx L take o g xn σ .bad = (g = false ∧ xn [] ⟨σ.nm, put o.dst skipV σ.tm, σ.hp⟩ noP) := rfl
def PXm (cx : Cx) (take : Bool) (o : Oper) (g : Bool) (xn : XN) (σ : St) : Prop := take = false ∧ (g = true → stepR cx.P xn false o [] σ noP (opG cx true σ o.op)) ∧ (g = false → xn [] ⟨σ.nm, put o.dst skipV σ.tm, σ.hp⟩ noP)
theorem PXm_t {o : Oper} : PXm cx false o true xn σ = stepR cx.P xn false o [] σ noP (opG cx true σ o.op) := by simp [PXm]
theorem PXm_f {o : Oper} : PXm cx false o false xn σ = xn [] ⟨σ.nm, put o.dst skipV σ.tm, σ.hp⟩ noP := by simp [PXm]
theorem PXm_split {o : Oper} {g : Bool} (h1 : g = true → PXm cx false o true xn σ) (h2 : g = false → PXm cx false o false xn σ) : PXm cx false o g xn σ := by
  cases g
  · exact h2 rfl
  · exact h1 rfl
theorem PXg_mem {o : Oper} {p : Prop} {s h} : PXg cx L take o g xn σ (.mem p s h) = PXm cx take o g xn σ := rfl
theorem PXg_app {o : Oper} {p : Prop} {a b c d} : PXg cx L take o g xn σ (.app p a b c d) = PXm cx take o g xn σ := rfl
theorem PXg_conv {o : Oper} {p : Prop} {a b} : PXg cx L take o g xn σ (.conv p a b) = PXm cx take o g xn σ := rfl
theorem PXg_call {o : Oper} {p : Prop} {a b} : PXg cx L take o g xn σ (.call p a b) = PXm cx take o g xn σ := rfl
end

section
variable {xn : XN} {kA kB : List KI} {σA σB : St} {Q : XE → St → Prop} {b : Bool}
theorem XBr_pos (h : b = true) (hx : xn kA σA Q) : XBr xn b kA kB σA σB Q := ⟨fun _ => hx, fun h' => absurd (h.symm.trans h') (by simp)⟩
theorem XBr_neg (h : b = false) (hx : xn kB σB Q) : XBr xn b kA kB σA σB Q := ⟨fun h' => absurd (h.symm.trans h') (by simp), fun _ => hx⟩
end

theorem eqCells_i {k : IntKind} {a b : Int} {r s : List SC} : eqCells (.v (.int k a) :: r) (.v (.int k b) :: s) = (eqCells r s).map (decide (a = b) && ·) := by simp [eqCells]
theorem eqCells_t {a b : Bool} {r s : List SC} : eqCells (.v (.bool a) :: r) (.v (.bool b) :: s) = (eqCells r s).map ((a == b) && ·) := by simp [eqCells]
theorem eqCells_y {a b : UInt8} {r s : List SC} : eqCells (byteC a :: r) (byteC b :: s) = (eqCells r s).map (decide (a = b) && ·) := by
  have e : ((a.toNat : Int) = (b.toNat : Int)) ↔ a = b := by rw [Int.natCast_inj, UInt8.toNat_inj]
  simp only [eqCells, byteC, if_true, e]
theorem isB_i {k : IntKind} {a : Int} : isB (.v (.int k a)) = false := rfl
theorem isB_b {a : Bool} : isB (.v (.bool a)) = true := rfl
theorem isB_y {a : UInt8} : isB (byteC a) = false := rfl
theorem isBv_i {k : IntKind} {a : Int} : isBv (.int k a) = false := rfl
theorem isBv_b {a : Bool} : isBv (.bool a) = true := rfl
theorem eqCells_n : eqCells [] [] = some true := rfl
theorem binS_eql {d : TD} {sz : List Bool} {xs ys : List SC} : binS d sz true .eql (.agg xs) (.agg ys) = match eqCells xs ys with
    | some b => .val (xs.map isB = sz) (.c (.v (.bool b)))
    | none => .bad := by
  cases h : eqCells xs ys <;> simp [binS, h]
theorem binS_neq {d : TD} {sz : List Bool} {xs ys : List SC} : binS d sz true .neq (.agg xs) (.agg ys) = match eqCells xs ys with
    | some b => .val (xs.map isB = sz) (.c (.v (.bool (!b))))
    | none => .bad := by
  cases h : eqCells xs ys <;> simp [binS, h]

end Go.Proofs.Ythbojoiogjdbeaa.Sx
