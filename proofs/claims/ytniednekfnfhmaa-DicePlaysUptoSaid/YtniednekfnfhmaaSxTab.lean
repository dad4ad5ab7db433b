/- The types of the translation, as a table (by program). No condition. -/
import Derived.Test.YtniednekfnfhmaaProg
import Derived.Test.YtniednekfnfhmaaSxFlat
namespace Go.Proofs.Ytniednekfnfhmaa.Sx
open Go

def T : TypeId → Option TI
  | 1 => some ⟨.func, 1, 8, [.nilFunc]⟩
  | 2 => some ⟨.int .i64, 1, 8, [(.int .i64 0)]⟩
  | 3 => some ⟨.int .i64, 1, 8, [(.int .i64 0)]⟩
  | 4 => some ⟨.bool, 1, 1, [(.bool false)]⟩
  | 5 => some ⟨.int .u8, 1, 1, [(.int .u8 0)]⟩
  | 9 => some ⟨.str, 1, 16, [(.string ByteArray.empty)]⟩
  | 12 => some ⟨.int .u64, 1, 8, [(.int .u64 0)]⟩
  | 20 => some ⟨.iface, 1, 16, [.nilIface]⟩
  | 21 => some ⟨.int .i32, 1, 4, [(.int .i32 0)]⟩
  | 22 => some ⟨.slice 37, 1, 24, [(.slice none 0 0)]⟩
  | 23 => some ⟨.slice 34, 1, 24, [(.slice none 0 0)]⟩
  | 24 => some ⟨.func, 1, 8, [.nilFunc]⟩
  | 25 => some ⟨.func, 1, 8, [.nilFunc]⟩
  | 26 => some ⟨.ptr, 1, 8, [(.pointer none)]⟩
  | 27 => some ⟨.func, 1, 8, [.nilFunc]⟩
  | 28 => some ⟨.slice 26, 1, 24, [(.slice none 0 0)]⟩
  | 29 => some ⟨.ptr, 1, 8, [(.pointer none)]⟩
  | 30 => some ⟨.func, 1, 8, [.nilFunc]⟩
  | 31 => some ⟨.slice 29, 1, 24, [(.slice none 0 0)]⟩
  | 32 => some ⟨.func, 1, 8, [.nilFunc]⟩
  | 33 => some ⟨.struct [(0, 3), (1, 3), (2, 3), (3, 3), (4, 3), (5, 22)], 6, 64, [(.int .i64 0), (.int .i64 0), (.int .i64 0), (.int .i64 0), (.int .i64 0), (.slice none 0 0)]⟩
  | 34 => some ⟨.struct [(0, 3), (1, 3), (2, 3), (3, 3), (4, 3), (5, 22)], 6, 64, [(.int .i64 0), (.int .i64 0), (.int .i64 0), (.int .i64 0), (.int .i64 0), (.slice none 0 0)]⟩
  | 35 => some ⟨.func, 1, 8, [.nilFunc]⟩
  | 36 => some ⟨.func, 1, 8, [.nilFunc]⟩
  | 37 => some ⟨.int .u32, 1, 4, [(.int .u32 0)]⟩
  | 38 => some ⟨.func, 1, 8, [.nilFunc]⟩
  | 39 => some ⟨.func, 1, 8, [.nilFunc]⟩
  | 40 => some ⟨.func, 1, 8, [.nilFunc]⟩
  | 41 => some ⟨.func, 1, 8, [.nilFunc]⟩
  | 42 => some ⟨.func, 1, 8, [.nilFunc]⟩
  | 43 => some ⟨.func, 1, 8, [.nilFunc]⟩
  | 44 => some ⟨.func, 1, 8, [.nilFunc]⟩
  | 45 => some ⟨.struct [(0, 22)], 1, 24, [(.slice none 0 0)]⟩
  | 46 => some ⟨.struct [(0, 22)], 1, 24, [(.slice none 0 0)]⟩
  | 47 => some ⟨.struct [(0, 22)], 1, 24, [(.slice none 0 0)]⟩
  | 48 => some ⟨.struct [(0, 22)], 1, 24, [(.slice none 0 0)]⟩
  | 49 => some ⟨.func, 1, 8, [.nilFunc]⟩
  | 50 => some ⟨.int .u64, 1, 8, [(.int .u64 0)]⟩
  | 51 => some ⟨.func, 1, 8, [.nilFunc]⟩
  | 52 => some ⟨.func, 1, 8, [.nilFunc]⟩
  | 53 => some ⟨.func, 1, 8, [.nilFunc]⟩
  | 62 => some ⟨.ptr, 1, 8, [(.pointer none)]⟩
  | _ => none

theorem T_1 : T 1 = some ⟨.func, 1, 8, [.nilFunc]⟩ := rfl
theorem T_2 : T 2 = some ⟨.int .i64, 1, 8, [(.int .i64 0)]⟩ := rfl
theorem T_3 : T 3 = some ⟨.int .i64, 1, 8, [(.int .i64 0)]⟩ := rfl
theorem T_4 : T 4 = some ⟨.bool, 1, 1, [(.bool false)]⟩ := rfl
theorem T_5 : T 5 = some ⟨.int .u8, 1, 1, [(.int .u8 0)]⟩ := rfl
theorem T_9 : T 9 = some ⟨.str, 1, 16, [(.string ByteArray.empty)]⟩ := rfl
theorem T_12 : T 12 = some ⟨.int .u64, 1, 8, [(.int .u64 0)]⟩ := rfl
theorem T_20 : T 20 = some ⟨.iface, 1, 16, [.nilIface]⟩ := rfl
theorem T_21 : T 21 = some ⟨.int .i32, 1, 4, [(.int .i32 0)]⟩ := rfl
theorem T_22 : T 22 = some ⟨.slice 37, 1, 24, [(.slice none 0 0)]⟩ := rfl
theorem T_23 : T 23 = some ⟨.slice 34, 1, 24, [(.slice none 0 0)]⟩ := rfl
theorem T_24 : T 24 = some ⟨.func, 1, 8, [.nilFunc]⟩ := rfl
theorem T_25 : T 25 = some ⟨.func, 1, 8, [.nilFunc]⟩ := rfl
theorem T_26 : T 26 = some ⟨.ptr, 1, 8, [(.pointer none)]⟩ := rfl
theorem T_27 : T 27 = some ⟨.func, 1, 8, [.nilFunc]⟩ := rfl
theorem T_28 : T 28 = some ⟨.slice 26, 1, 24, [(.slice none 0 0)]⟩ := rfl
theorem T_29 : T 29 = some ⟨.ptr, 1, 8, [(.pointer none)]⟩ := rfl
theorem T_30 : T 30 = some ⟨.func, 1, 8, [.nilFunc]⟩ := rfl
theorem T_31 : T 31 = some ⟨.slice 29, 1, 24, [(.slice none 0 0)]⟩ := rfl
theorem T_32 : T 32 = some ⟨.func, 1, 8, [.nilFunc]⟩ := rfl
theorem T_33 : T 33 = some ⟨.struct [(0, 3), (1, 3), (2, 3), (3, 3), (4, 3), (5, 22)], 6, 64, [(.int .i64 0), (.int .i64 0), (.int .i64 0), (.int .i64 0), (.int .i64 0), (.slice none 0 0)]⟩ := rfl
theorem T_34 : T 34 = some ⟨.struct [(0, 3), (1, 3), (2, 3), (3, 3), (4, 3), (5, 22)], 6, 64, [(.int .i64 0), (.int .i64 0), (.int .i64 0), (.int .i64 0), (.int .i64 0), (.slice none 0 0)]⟩ := rfl
theorem T_35 : T 35 = some ⟨.func, 1, 8, [.nilFunc]⟩ := rfl
theorem T_36 : T 36 = some ⟨.func, 1, 8, [.nilFunc]⟩ := rfl
theorem T_37 : T 37 = some ⟨.int .u32, 1, 4, [(.int .u32 0)]⟩ := rfl
theorem T_38 : T 38 = some ⟨.func, 1, 8, [.nilFunc]⟩ := rfl
theorem T_39 : T 39 = some ⟨.func, 1, 8, [.nilFunc]⟩ := rfl
theorem T_40 : T 40 = some ⟨.func, 1, 8, [.nilFunc]⟩ := rfl
theorem T_41 : T 41 = some ⟨.func, 1, 8, [.nilFunc]⟩ := rfl
theorem T_42 : T 42 = some ⟨.func, 1, 8, [.nilFunc]⟩ := rfl
theorem T_43 : T 43 = some ⟨.func, 1, 8, [.nilFunc]⟩ := rfl
theorem T_44 : T 44 = some ⟨.func, 1, 8, [.nilFunc]⟩ := rfl
theorem T_45 : T 45 = some ⟨.struct [(0, 22)], 1, 24, [(.slice none 0 0)]⟩ := rfl
theorem T_46 : T 46 = some ⟨.struct [(0, 22)], 1, 24, [(.slice none 0 0)]⟩ := rfl
theorem T_47 : T 47 = some ⟨.struct [(0, 22)], 1, 24, [(.slice none 0 0)]⟩ := rfl
theorem T_48 : T 48 = some ⟨.struct [(0, 22)], 1, 24, [(.slice none 0 0)]⟩ := rfl
theorem T_49 : T 49 = some ⟨.func, 1, 8, [.nilFunc]⟩ := rfl
theorem T_50 : T 50 = some ⟨.int .u64, 1, 8, [(.int .u64 0)]⟩ := rfl
theorem T_51 : T 51 = some ⟨.func, 1, 8, [.nilFunc]⟩ := rfl
theorem T_52 : T 52 = some ⟨.func, 1, 8, [.nilFunc]⟩ := rfl
theorem T_53 : T 53 = some ⟨.func, 1, 8, [.nilFunc]⟩ := rfl
theorem T_62 : T 62 = some ⟨.ptr, 1, 8, [(.pointer none)]⟩ := rfl

def TL : List Nat := [1, 2, 3, 4, 5, 9, 12, 20, 21, 22, 23, 24, 25, 26, 27, 28, 29, 30, 31, 32, 33, 34, 35, 36, 37, 38, 39, 40, 41, 42, 43, 44, 45, 46, 47, 48, 49, 50, 51, 52, 53, 62]
theorem TL_chk : (TL.all fun t => match T t with | some ti => chkT Try.prog t ti | none => false) = true := by kernel_rfl
theorem T_mem : ∀ t ti, T t = some ti → t ∈ TL := by
  intro t ti h
  unfold T at h
  split at h <;> first | (simp [TL]; done) | (cases h)
theorem T_ok : TOk Try.prog T := fun t ti h => by
  have h1 := List.all_eq_true.1 TL_chk t (T_mem t ti h)
  rw [h] at h1
  exact chkT_ok h1

def FL : List Nat := []
def flat : TypeId → Bool
  | _ => false
theorem FL_chk : (FL.all fun t => flatChk Try.prog T t) = true := by kernel_rfl
theorem flat_ok : ∀ t, flat t = true → flatChk Try.prog T t = true := by
  intro t h
  refine List.all_eq_true.1 FL_chk t ?_
  unfold flat at h
  split at h <;> first | (simp [FL]; done) | (cases h)

set_option maxRecDepth 20000
/-- All of them, for simp. -/
theorem TT : type_of% (And.intro (And.intro (And.intro (And.intro (And.intro @T_1 @T_2) (And.intro @T_3 (And.intro @T_4 @T_5))) (And.intro (And.intro @T_9 @T_12) (And.intro @T_20 (And.intro @T_21 @T_22)))) (And.intro (And.intro (And.intro @T_23 @T_24) (And.intro @T_25 (And.intro @T_26 @T_27))) (And.intro (And.intro @T_28 (And.intro @T_29 @T_30)) (And.intro @T_31 (And.intro @T_32 @T_33))))) (And.intro (And.intro (And.intro (And.intro @T_34 @T_35) (And.intro @T_36 (And.intro @T_37 @T_38))) (And.intro (And.intro @T_39 @T_40) (And.intro @T_41 (And.intro @T_42 @T_43)))) (And.intro (And.intro (And.intro @T_44 @T_45) (And.intro @T_46 (And.intro @T_47 @T_48))) (And.intro (And.intro @T_49 (And.intro @T_50 @T_51)) (And.intro @T_52 (And.intro @T_53 @T_62)))))) := (And.intro (And.intro (And.intro (And.intro (And.intro @T_1 @T_2) (And.intro @T_3 (And.intro @T_4 @T_5))) (And.intro (And.intro @T_9 @T_12) (And.intro @T_20 (And.intro @T_21 @T_22)))) (And.intro (And.intro (And.intro @T_23 @T_24) (And.intro @T_25 (And.intro @T_26 @T_27))) (And.intro (And.intro @T_28 (And.intro @T_29 @T_30)) (And.intro @T_31 (And.intro @T_32 @T_33))))) (And.intro (And.intro (And.intro (And.intro @T_34 @T_35) (And.intro @T_36 (And.intro @T_37 @T_38))) (And.intro (And.intro @T_39 @T_40) (And.intro @T_41 (And.intro @T_42 @T_43)))) (And.intro (And.intro (And.intro @T_44 @T_45) (And.intro @T_46 (And.intro @T_47 @T_48))) (And.intro (And.intro @T_49 (And.intro @T_50 @T_51)) (And.intro @T_52 (And.intro @T_53 @T_62))))))

end Go.Proofs.Ytniednekfnfhmaa.Sx
