/- The types of the translation, as a table (by program). No condition. -/
import Derived.Test.YtipbnhgeanlkeaaProg
import Derived.Test.YtipbnhgeanlkeaaSxFlat
namespace Go.Proofs.Ytipbnhgeanlkeaa.Sx
open Go

def T : TypeId → Option TI
  | 1 => some ⟨.func, 1, 8, [.nilFunc]⟩
  | 2 => some ⟨.int .i64, 1, 8, [(.int .i64 0)]⟩
  | 3 => some ⟨.int .i64, 1, 8, [(.int .i64 0)]⟩
  | 4 => some ⟨.bool, 1, 1, [(.bool false)]⟩
  | 5 => some ⟨.int .u8, 1, 1, [(.int .u8 0)]⟩
  | 9 => some ⟨.str, 1, 16, [(.string ByteArray.empty)]⟩
  | 12 => some ⟨.int .u64, 1, 8, [(.int .u64 0)]⟩
  | 20 => some ⟨.iface, 1, 16, [.nilIface]⟩
  | 21 => some ⟨.int .i32, 1, 4, [(.int .i32 0)]⟩
  | 22 => some ⟨.func, 1, 8, [.nilFunc]⟩
  | 23 => some ⟨.int .i64, 1, 8, [(.int .i64 0)]⟩
  | 24 => some ⟨.slice 23, 1, 24, [(.slice none 0 0)]⟩
  | 25 => some ⟨.int .u32, 1, 4, [(.int .u32 0)]⟩
  | 26 => some ⟨.struct [(0, 3), (1, 3), (2, 3), (3, 3), (4, 4), (5, 25), (6, 25)], 7, 48, [(.int .i64 0), (.int .i64 0), (.int .i64 0), (.int .i64 0), (.bool false), (.int .u32 0), (.int .u32 0)]⟩
  | 27 => some ⟨.struct [(0, 3), (1, 3), (2, 3), (3, 3), (4, 4), (5, 25), (6, 25)], 7, 48, [(.int .i64 0), (.int .i64 0), (.int .i64 0), (.int .i64 0), (.bool false), (.int .u32 0), (.int .u32 0)]⟩
  | 28 => some ⟨.slice 5, 1, 24, [(.slice none 0 0)]⟩
  | 30 => some ⟨.func, 1, 8, [.nilFunc]⟩
  | 31 => some ⟨.func, 1, 8, [.nilFunc]⟩
  | 32 => some ⟨.func, 1, 8, [.nilFunc]⟩
  | 33 => some ⟨.ptr, 1, 8, [(.pointer none)]⟩
  | 34 => some ⟨.slice 28, 1, 24, [(.slice none 0 0)]⟩
  | 35 => some ⟨.slice 9, 1, 24, [(.slice none 0 0)]⟩
  | 36 => some ⟨.struct [(0, 34), (1, 35)], 2, 48, [(.slice none 0 0), (.slice none 0 0)]⟩
  | 37 => some ⟨.struct [(0, 34), (1, 35)], 2, 48, [(.slice none 0 0), (.slice none 0 0)]⟩
  | 38 => some ⟨.func, 1, 8, [.nilFunc]⟩
  | 39 => some ⟨.func, 1, 8, [.nilFunc]⟩
  | 41 => some ⟨.func, 1, 8, [.nilFunc]⟩
  | 42 => some ⟨.func, 1, 8, [.nilFunc]⟩
  | 43 => some ⟨.int .u64, 1, 8, [(.int .u64 0)]⟩
  | 44 => some ⟨.func, 1, 8, [.nilFunc]⟩
  | 45 => some ⟨.func, 1, 8, [.nilFunc]⟩
  | 46 => some ⟨.int .u16, 1, 2, [(.int .u16 0)]⟩
  | 47 => some ⟨.func, 1, 8, [.nilFunc]⟩
  | 48 => some ⟨.func, 1, 8, [.nilFunc]⟩
  | 49 => some ⟨.int .u64, 1, 8, [(.int .u64 0)]⟩
  | 50 => some ⟨.func, 1, 8, [.nilFunc]⟩
  | 51 => some ⟨.func, 1, 8, [.nilFunc]⟩
  | 52 => some ⟨.func, 1, 8, [.nilFunc]⟩
  | 53 => some ⟨.func, 1, 8, [.nilFunc]⟩
  | 55 => some ⟨.func, 1, 8, [.nilFunc]⟩
  | 56 => some ⟨.func, 1, 8, [.nilFunc]⟩
  | 57 => some ⟨.func, 1, 8, [.nilFunc]⟩
  | 58 => some ⟨.func, 1, 8, [.nilFunc]⟩
  | 59 => some ⟨.func, 1, 8, [.nilFunc]⟩
  | 60 => some ⟨.func, 1, 8, [.nilFunc]⟩
  | 61 => some ⟨.func, 1, 8, [.nilFunc]⟩
  | 67 => some ⟨.func, 1, 8, [.nilFunc]⟩
  | 71 => some ⟨.ptr, 1, 8, [(.pointer none)]⟩
  | _ => none

theorem T_1 : T 1 = some ⟨.func, 1, 8, [.nilFunc]⟩ := rfl
theorem T_2 : T 2 = some ⟨.int .i64, 1, 8, [(.int .i64 0)]⟩ := rfl
theorem T_3 : T 3 = some ⟨.int .i64, 1, 8, [(.int .i64 0)]⟩ := rfl
theorem T_4 : T 4 = some ⟨.bool, 1, 1, [(.bool false)]⟩ := rfl
theorem T_5 : T 5 = some ⟨.int .u8, 1, 1, [(.int .u8 0)]⟩ := rfl
theorem T_9 : T 9 = some ⟨.str, 1, 16, [(.string ByteArray.empty)]⟩ := rfl
theorem T_12 : T 12 = some ⟨.int .u64, 1, 8, [(.int .u64 0)]⟩ := rfl
theorem T_20 : T 20 = some ⟨.iface, 1, 16, [.nilIface]⟩ := rfl
theorem T_21 : T 21 = some ⟨.int .i32, 1, 4, [(.int .i32 0)]⟩ := rfl
theorem T_22 : T 22 = some ⟨.func, 1, 8, [.nilFunc]⟩ := rfl
theorem T_23 : T 23 = some ⟨.int .i64, 1, 8, [(.int .i64 0)]⟩ := rfl
theorem T_24 : T 24 = some ⟨.slice 23, 1, 24, [(.slice none 0 0)]⟩ := rfl
theorem T_25 : T 25 = some ⟨.int .u32, 1, 4, [(.int .u32 0)]⟩ := rfl
theorem T_26 : T 26 = some ⟨.struct [(0, 3), (1, 3), (2, 3), (3, 3), (4, 4), (5, 25), (6, 25)], 7, 48, [(.int .i64 0), (.int .i64 0), (.int .i64 0), (.int .i64 0), (.bool false), (.int .u32 0), (.int .u32 0)]⟩ := rfl
theorem T_27 : T 27 = some ⟨.struct [(0, 3), (1, 3), (2, 3), (3, 3), (4, 4), (5, 25), (6, 25)], 7, 48, [(.int .i64 0), (.int .i64 0), (.int .i64 0), (.int .i64 0), (.bool false), (.int .u32 0), (.int .u32 0)]⟩ := rfl
theorem T_28 : T 28 = some ⟨.slice 5, 1, 24, [(.slice none 0 0)]⟩ := rfl
theorem T_30 : T 30 = some ⟨.func, 1, 8, [.nilFunc]⟩ := rfl
theorem T_31 : T 31 = some ⟨.func, 1, 8, [.nilFunc]⟩ := rfl
theorem T_32 : T 32 = some ⟨.func, 1, 8, [.nilFunc]⟩ := rfl
theorem T_33 : T 33 = some ⟨.ptr, 1, 8, [(.pointer none)]⟩ := rfl
theorem T_34 : T 34 = some ⟨.slice 28, 1, 24, [(.slice none 0 0)]⟩ := rfl
theorem T_35 : T 35 = some ⟨.slice 9, 1, 24, [(.slice none 0 0)]⟩ := rfl
theorem T_36 : T 36 = some ⟨.struct [(0, 34), (1, 35)], 2, 48, [(.slice none 0 0), (.slice none 0 0)]⟩ := rfl
theorem T_37 : T 37 = some ⟨.struct [(0, 34), (1, 35)], 2, 48, [(.slice none 0 0), (.slice none 0 0)]⟩ := rfl
theorem T_38 : T 38 = some ⟨.func, 1, 8, [.nilFunc]⟩ := rfl
theorem T_39 : T 39 = some ⟨.func, 1, 8, [.nilFunc]⟩ := rfl
theorem T_41 : T 41 = some ⟨.func, 1, 8, [.nilFunc]⟩ := rfl
theorem T_42 : T 42 = some ⟨.func, 1, 8, [.nilFunc]⟩ := rfl
theorem T_43 : T 43 = some ⟨.int .u64, 1, 8, [(.int .u64 0)]⟩ := rfl
theorem T_44 : T 44 = some ⟨.func, 1, 8, [.nilFunc]⟩ := rfl
theorem T_45 : T 45 = some ⟨.func, 1, 8, [.nilFunc]⟩ := rfl
theorem T_46 : T 46 = some ⟨.int .u16, 1, 2, [(.int .u16 0)]⟩ := rfl
theorem T_47 : T 47 = some ⟨.func, 1, 8, [.nilFunc]⟩ := rfl
theorem T_48 : T 48 = some ⟨.func, 1, 8, [.nilFunc]⟩ := rfl
theorem T_49 : T 49 = some ⟨.int .u64, 1, 8, [(.int .u64 0)]⟩ := rfl
theorem T_50 : T 50 = some ⟨.func, 1, 8, [.nilFunc]⟩ := rfl
theorem T_51 : T 51 = some ⟨.func, 1, 8, [.nilFunc]⟩ := rfl
theorem T_52 : T 52 = some ⟨.func, 1, 8, [.nilFunc]⟩ := rfl
theorem T_53 : T 53 = some ⟨.func, 1, 8, [.nilFunc]⟩ := rfl
theorem T_55 : T 55 = some ⟨.func, 1, 8, [.nilFunc]⟩ := rfl
theorem T_56 : T 56 = some ⟨.func, 1, 8, [.nilFunc]⟩ := rfl
theorem T_57 : T 57 = some ⟨.func, 1, 8, [.nilFunc]⟩ := rfl
theorem T_58 : T 58 = some ⟨.func, 1, 8, [.nilFunc]⟩ := rfl
theorem T_59 : T 59 = some ⟨.func, 1, 8, [.nilFunc]⟩ := rfl
theorem T_60 : T 60 = some ⟨.func, 1, 8, [.nilFunc]⟩ := rfl
theorem T_61 : T 61 = some ⟨.func, 1, 8, [.nilFunc]⟩ := rfl
theorem T_67 : T 67 = some ⟨.func, 1, 8, [.nilFunc]⟩ := rfl
theorem T_71 : T 71 = some ⟨.ptr, 1, 8, [(.pointer none)]⟩ := rfl

def TL : List Nat := [1, 2, 3, 4, 5, 9, 12, 20, 21, 22, 23, 24, 25, 26, 27, 28, 30, 31, 32, 33, 34, 35, 36, 37, 38, 39, 41, 42, 43, 44, 45, 46, 47, 48, 49, 50, 51, 52, 53, 55, 56, 57, 58, 59, 60, 61, 67, 71]
theorem TL_chk : (TL.all fun t => match T t with | some ti => chkT Try.prog t ti | none => false) = true := by kernel_rfl
theorem T_mem : ∀ t ti, T t = some ti → t ∈ TL := by
  intro t ti h
  unfold T at h
  split at h <;> first | (simp [TL]; done) | (cases h)
theorem T_ok : TOk Try.prog T := fun t ti h => by
  have h1 := List.all_eq_true.1 TL_chk t (T_mem t ti h)
  rw [h] at h1
  exact chkT_ok h1

def FL : List Nat := [26, 27]
def flat : TypeId → Bool
  | 26 => true
  | 27 => true
  | _ => false
theorem flat_26 : flat 26 = true := rfl
theorem flat_27 : flat 27 = true := rfl
theorem FL_chk : (FL.all fun t => flatChk Try.prog T t) = true := by kernel_rfl
theorem flat_ok : ∀ t, flat t = true → flatChk Try.prog T t = true := by
  intro t h
  refine List.all_eq_true.1 FL_chk t ?_
  unfold flat at h
  split at h <;> first | (simp [FL]; done) | (cases h)

set_option maxRecDepth 20000
/-- All of them, for simp. -/
theorem TT : type_of% (And.intro (And.intro (And.intro (And.intro (And.intro @T_1 (And.intro @T_2 @T_3)) (And.intro @T_4 (And.intro @T_5 @T_9))) (And.intro (And.intro @T_12 (And.intro @T_20 @T_21)) (And.intro @T_22 (And.intro @T_23 @T_24)))) (And.intro (And.intro (And.intro @T_25 (And.intro @T_26 @T_27)) (And.intro @T_28 (And.intro @T_30 @T_31))) (And.intro (And.intro @T_32 (And.intro @T_33 @T_34)) (And.intro (And.intro @T_35 @T_36) (And.intro @T_37 @T_38))))) (And.intro (And.intro (And.intro (And.intro @T_39 (And.intro @T_41 @T_42)) (And.intro @T_43 (And.intro @T_44 @T_45))) (And.intro (And.intro @T_46 (And.intro @T_47 @T_48)) (And.intro @T_49 (And.intro @T_50 @T_51)))) (And.intro (And.intro (And.intro @T_52 (And.intro @T_53 @T_55)) (And.intro @T_56 (And.intro @T_57 @T_58))) (And.intro (And.intro @T_59 (And.intro @T_60 @T_61)) (And.intro (And.intro @T_67 @T_71) (And.intro @flat_26 @flat_27)))))) := (And.intro (And.intro (And.intro (And.intro (And.intro @T_1 (And.intro @T_2 @T_3)) (And.intro @T_4 (And.intro @T_5 @T_9))) (And.intro (And.intro @T_12 (And.intro @T_20 @T_21)) (And.intro @T_22 (And.intro @T_23 @T_24)))) (And.intro (And.intro (And.intro @T_25 (And.intro @T_26 @T_27)) (And.intro @T_28 (And.intro @T_30 @T_31))) (And.intro (And.intro @T_32 (And.intro @T_33 @T_34)) (And.intro (And.intro @T_35 @T_36) (And.intro @T_37 @T_38))))) (And.intro (And.intro (And.intro (And.intro @T_39 (And.intro @T_41 @T_42)) (And.intro @T_43 (And.intro @T_44 @T_45))) (And.intro (And.intro @T_46 (And.intro @T_47 @T_48)) (And.intro @T_49 (And.intro @T_50 @T_51)))) (And.intro (And.intro (And.intro @T_52 (And.intro @T_53 @T_55)) (And.intro @T_56 (And.intro @T_57 @T_58))) (And.intro (And.intro @T_59 (And.intro @T_60 @T_61)) (And.intro (And.intro @T_67 @T_71) (And.intro @flat_26 @flat_27))))))

end Go.Proofs.Ytipbnhgeanlkeaa.Sx
