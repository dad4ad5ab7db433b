/- The types of the translation, as a table (by program). No condition. -/
import Derived.Test.YtdfhmpheepobnaaProg
import Derived.Test.YtdfhmpheepobnaaSxFlat
namespace Go.Proofs.Ytdfhmpheepobnaa.Sx
open Go

def T : TypeId → Option TI
  | 1 => some ⟨.func, 1, 8, [.nilFunc]⟩
  | 2 => some ⟨.int .i64, 1, 8, [(.int .i64 0)]⟩
  | 3 => some ⟨.int .i64, 1, 8, [(.int .i64 0)]⟩
  | 4 => some ⟨.bool, 1, 1, [(.bool false)]⟩
  | 5 => some ⟨.int .u8, 1, 1, [(.int .u8 0)]⟩
  | 9 => some ⟨.str, 1, 16, [(.string ByteArray.empty)]⟩
  | 12 => some ⟨.int .u64, 1, 8, [(.int .u64 0)]⟩
  | 20 => some ⟨.iface, 1, 16, [.nilIface]⟩
  | 21 => some ⟨.int .i32, 1, 4, [(.int .i32 0)]⟩
  | 22 => some ⟨.func, 1, 8, [.nilFunc]⟩
  | 23 => some ⟨.ptr, 1, 8, [(.pointer none)]⟩
  | 24 => some ⟨.func, 1, 8, [.nilFunc]⟩
  | 25 => some ⟨.ptr, 1, 8, [(.pointer none)]⟩
  | 26 => some ⟨.func, 1, 8, [.nilFunc]⟩
  | 28 => some ⟨.func, 1, 8, [.nilFunc]⟩
  | 29 => some ⟨.struct [(0, 3), (1, 3), (2, 3)], 3, 24, [(.int .i64 0), (.int .i64 0), (.int .i64 0)]⟩
  | 30 => some ⟨.struct [(0, 3), (1, 3), (2, 3)], 3, 24, [(.int .i64 0), (.int .i64 0), (.int .i64 0)]⟩
  | 31 => some ⟨.func, 1, 8, [.nilFunc]⟩
  | 32 => some ⟨.func, 1, 8, [.nilFunc]⟩
  | 33 => some ⟨.slice 37, 1, 24, [(.slice none 0 0)]⟩
  | 34 => some ⟨.slice 9, 1, 24, [(.slice none 0 0)]⟩
  | 35 => some ⟨.slice 5, 1, 24, [(.slice none 0 0)]⟩
  | 36 => some ⟨.struct [(0, 3), (1, 3), (2, 35)], 3, 40, [(.int .i64 0), (.int .i64 0), (.slice none 0 0)]⟩
  | 37 => some ⟨.struct [(0, 3), (1, 3), (2, 35)], 3, 40, [(.int .i64 0), (.int .i64 0), (.slice none 0 0)]⟩
  | 38 => some ⟨.func, 1, 8, [.nilFunc]⟩
  | 39 => some ⟨.struct [(0, 4), (1, 35)], 2, 32, [(.bool false), (.slice none 0 0)]⟩
  | 40 => some ⟨.struct [(0, 4), (1, 35)], 2, 32, [(.bool false), (.slice none 0 0)]⟩
  | 41 => some ⟨.int .i64, 1, 8, [(.int .i64 0)]⟩
  | 43 => some ⟨.func, 1, 8, [.nilFunc]⟩
  | 44 => some ⟨.func, 1, 8, [.nilFunc]⟩
  | 45 => some ⟨.func, 1, 8, [.nilFunc]⟩
  | 47 => some ⟨.func, 1, 8, [.nilFunc]⟩
  | 48 => some ⟨.func, 1, 8, [.nilFunc]⟩
  | 49 => some ⟨.ptr, 1, 8, [(.pointer none)]⟩
  | 50 => some ⟨.slice 35, 1, 24, [(.slice none 0 0)]⟩
  | 51 => some ⟨.struct [(0, 50), (1, 34)], 2, 48, [(.slice none 0 0), (.slice none 0 0)]⟩
  | 52 => some ⟨.struct [(0, 50), (1, 34)], 2, 48, [(.slice none 0 0), (.slice none 0 0)]⟩
  | 53 => some ⟨.ptr, 1, 8, [(.pointer none)]⟩
  | 54 => some ⟨.struct [(0, 23), (1, 25), (2, 49)], 3, 24, [(.pointer none), (.pointer none), (.pointer none)]⟩
  | 55 => some ⟨.struct [(0, 23), (1, 25), (2, 49)], 3, 24, [(.pointer none), (.pointer none), (.pointer none)]⟩
  | 56 => some ⟨.func, 1, 8, [.nilFunc]⟩
  | 57 => some ⟨.func, 1, 8, [.nilFunc]⟩
  | 58 => some ⟨.func, 1, 8, [.nilFunc]⟩
  | 59 => some ⟨.slice 66, 1, 24, [(.slice none 0 0)]⟩
  | 60 => some ⟨.struct [(0, 59), (1, 3)], 2, 32, [(.slice none 0 0), (.int .i64 0)]⟩
  | 61 => some ⟨.struct [(0, 59), (1, 3)], 2, 32, [(.slice none 0 0), (.int .i64 0)]⟩
  | 62 => some ⟨.struct [(0, 61), (2, 61), (4, 30)], 7, 88, [(.slice none 0 0), (.int .i64 0), (.slice none 0 0), (.int .i64 0), (.int .i64 0), (.int .i64 0), (.int .i64 0)]⟩
  | 63 => some ⟨.struct [(0, 61), (2, 61), (4, 30)], 7, 88, [(.slice none 0 0), (.int .i64 0), (.slice none 0 0), (.int .i64 0), (.int .i64 0), (.int .i64 0), (.int .i64 0)]⟩
  | 64 => some ⟨.array 1514 5, 1514, 1514, (List.replicate 1514 (.int .u8 0))⟩
  | 65 => some ⟨.struct [(0, 4), (1, 64), (1515, 3)], 1516, 1528, ([(.bool false)] ++ List.replicate 1514 (.int .u8 0) ++ [(.int .i64 0)])⟩
  | 66 => some ⟨.struct [(0, 4), (1, 64), (1515, 3)], 1516, 1528, ([(.bool false)] ++ List.replicate 1514 (.int .u8 0) ++ [(.int .i64 0)])⟩
  | 67 => some ⟨.slice 40, 1, 24, [(.slice none 0 0)]⟩
  | 68 => some ⟨.struct [(0, 67), (1, 67), (2, 3), (3, 3), (4, 30)], 7, 88, [(.slice none 0 0), (.slice none 0 0), (.int .i64 0), (.int .i64 0), (.int .i64 0), (.int .i64 0), (.int .i64 0)]⟩
  | 69 => some ⟨.struct [(0, 67), (1, 67), (2, 3), (3, 3), (4, 30)], 7, 88, [(.slice none 0 0), (.slice none 0 0), (.int .i64 0), (.int .i64 0), (.int .i64 0), (.int .i64 0), (.int .i64 0)]⟩
  | 70 => some ⟨.ptr, 1, 8, [(.pointer none)]⟩
  | 71 => some ⟨.func, 1, 8, [.nilFunc]⟩
  | 72 => some ⟨.func, 1, 8, [.nilFunc]⟩
  | 73 => some ⟨.func, 1, 8, [.nilFunc]⟩
  | 74 => some ⟨.func, 1, 8, [.nilFunc]⟩
  | 75 => some ⟨.func, 1, 8, [.nilFunc]⟩
  | 76 => some ⟨.func, 1, 8, [.nilFunc]⟩
  | 77 => some ⟨.func, 1, 8, [.nilFunc]⟩
  | 78 => some ⟨.func, 1, 8, [.nilFunc]⟩
  | 79 => some ⟨.ptr, 1, 8, [(.pointer none)]⟩
  | 80 => some ⟨.func, 1, 8, [.nilFunc]⟩
  | 86 => some ⟨.func, 1, 8, [.nilFunc]⟩
  | 87 => some ⟨.int .u32, 1, 4, [(.int .u32 0)]⟩
  | 91 => some ⟨.ptr, 1, 8, [(.pointer none)]⟩
  | _ => none

theorem T_1 : T 1 = some ⟨.func, 1, 8, [.nilFunc]⟩ := rfl
theorem T_2 : T 2 = some ⟨.int .i64, 1, 8, [(.int .i64 0)]⟩ := rfl
theorem T_3 : T 3 = some ⟨.int .i64, 1, 8, [(.int .i64 0)]⟩ := rfl
theorem T_4 : T 4 = some ⟨.bool, 1, 1, [(.bool false)]⟩ := rfl
theorem T_5 : T 5 = some ⟨.int .u8, 1, 1, [(.int .u8 0)]⟩ := rfl
theorem T_9 : T 9 = some ⟨.str, 1, 16, [(.string ByteArray.empty)]⟩ := rfl
theorem T_12 : T 12 = some ⟨.int .u64, 1, 8, [(.int .u64 0)]⟩ := rfl
theorem T_20 : T 20 = some ⟨.iface, 1, 16, [.nilIface]⟩ := rfl
theorem T_21 : T 21 = some ⟨.int .i32, 1, 4, [(.int .i32 0)]⟩ := rfl
theorem T_22 : T 22 = some ⟨.func, 1, 8, [.nilFunc]⟩ := rfl
theorem T_23 : T 23 = some ⟨.ptr, 1, 8, [(.pointer none)]⟩ := rfl
theorem T_24 : T 24 = some ⟨.func, 1, 8, [.nilFunc]⟩ := rfl
theorem T_25 : T 25 = some ⟨.ptr, 1, 8, [(.pointer none)]⟩ := rfl
theorem T_26 : T 26 = some ⟨.func, 1, 8, [.nilFunc]⟩ := rfl
theorem T_28 : T 28 = some ⟨.func, 1, 8, [.nilFunc]⟩ := rfl
theorem T_29 : T 29 = some ⟨.struct [(0, 3), (1, 3), (2, 3)], 3, 24, [(.int .i64 0), (.int .i64 0), (.int .i64 0)]⟩ := rfl
theorem T_30 : T 30 = some ⟨.struct [(0, 3), (1, 3), (2, 3)], 3, 24, [(.int .i64 0), (.int .i64 0), (.int .i64 0)]⟩ := rfl
theorem T_31 : T 31 = some ⟨.func, 1, 8, [.nilFunc]⟩ := rfl
theorem T_32 : T 32 = some ⟨.func, 1, 8, [.nilFunc]⟩ := rfl
theorem T_33 : T 33 = some ⟨.slice 37, 1, 24, [(.slice none 0 0)]⟩ := rfl
theorem T_34 : T 34 = some ⟨.slice 9, 1, 24, [(.slice none 0 0)]⟩ := rfl
theorem T_35 : T 35 = some ⟨.slice 5, 1, 24, [(.slice none 0 0)]⟩ := rfl
theorem T_36 : T 36 = some ⟨.struct [(0, 3), (1, 3), (2, 35)], 3, 40, [(.int .i64 0), (.int .i64 0), (.slice none 0 0)]⟩ := rfl
theorem T_37 : T 37 = some ⟨.struct [(0, 3), (1, 3), (2, 35)], 3, 40, [(.int .i64 0), (.int .i64 0), (.slice none 0 0)]⟩ := rfl
theorem T_38 : T 38 = some ⟨.func, 1, 8, [.nilFunc]⟩ := rfl
theorem T_39 : T 39 = some ⟨.struct [(0, 4), (1, 35)], 2, 32, [(.bool false), (.slice none 0 0)]⟩ := rfl
theorem T_40 : T 40 = some ⟨.struct [(0, 4), (1, 35)], 2, 32, [(.bool false), (.slice none 0 0)]⟩ := rfl
theorem T_41 : T 41 = some ⟨.int .i64, 1, 8, [(.int .i64 0)]⟩ := rfl
theorem T_43 : T 43 = some ⟨.func, 1, 8, [.nilFunc]⟩ := rfl
theorem T_44 : T 44 = some ⟨.func, 1, 8, [.nilFunc]⟩ := rfl
theorem T_45 : T 45 = some ⟨.func, 1, 8, [.nilFunc]⟩ := rfl
theorem T_47 : T 47 = some ⟨.func, 1, 8, [.nilFunc]⟩ := rfl
theorem T_48 : T 48 = some ⟨.func, 1, 8, [.nilFunc]⟩ := rfl
theorem T_49 : T 49 = some ⟨.ptr, 1, 8, [(.pointer none)]⟩ := rfl
theorem T_50 : T 50 = some ⟨.slice 35, 1, 24, [(.slice none 0 0)]⟩ := rfl
theorem T_51 : T 51 = some ⟨.struct [(0, 50), (1, 34)], 2, 48, [(.slice none 0 0), (.slice none 0 0)]⟩ := rfl
theorem T_52 : T 52 = some ⟨.struct [(0, 50), (1, 34)], 2, 48, [(.slice none 0 0), (.slice none 0 0)]⟩ := rfl
theorem T_53 : T 53 = some ⟨.ptr, 1, 8, [(.pointer none)]⟩ := rfl
theorem T_54 : T 54 = some ⟨.struct [(0, 23), (1, 25), (2, 49)], 3, 24, [(.pointer none), (.pointer none), (.pointer none)]⟩ := rfl
theorem T_55 : T 55 = some ⟨.struct [(0, 23), (1, 25), (2, 49)], 3, 24, [(.pointer none), (.pointer none), (.pointer none)]⟩ := rfl
theorem T_56 : T 56 = some ⟨.func, 1, 8, [.nilFunc]⟩ := rfl
theorem T_57 : T 57 = some ⟨.func, 1, 8, [.nilFunc]⟩ := rfl
theorem T_58 : T 58 = some ⟨.func, 1, 8, [.nilFunc]⟩ := rfl
theorem T_59 : T 59 = some ⟨.slice 66, 1, 24, [(.slice none 0 0)]⟩ := rfl
theorem T_60 : T 60 = some ⟨.struct [(0, 59), (1, 3)], 2, 32, [(.slice none 0 0), (.int .i64 0)]⟩ := rfl
theorem T_61 : T 61 = some ⟨.struct [(0, 59), (1, 3)], 2, 32, [(.slice none 0 0), (.int .i64 0)]⟩ := rfl
theorem T_62 : T 62 = some ⟨.struct [(0, 61), (2, 61), (4, 30)], 7, 88, [(.slice none 0 0), (.int .i64 0), (.slice none 0 0), (.int .i64 0), (.int .i64 0), (.int .i64 0), (.int .i64 0)]⟩ := rfl
theorem T_63 : T 63 = some ⟨.struct [(0, 61), (2, 61), (4, 30)], 7, 88, [(.slice none 0 0), (.int .i64 0), (.slice none 0 0), (.int .i64 0), (.int .i64 0), (.int .i64 0), (.int .i64 0)]⟩ := rfl
theorem T_64 : T 64 = some ⟨.array 1514 5, 1514, 1514, (List.replicate 1514 (.int .u8 0))⟩ := rfl
theorem T_65 : T 65 = some ⟨.struct [(0, 4), (1, 64), (1515, 3)], 1516, 1528, ([(.bool false)] ++ List.replicate 1514 (.int .u8 0) ++ [(.int .i64 0)])⟩ := rfl
theorem T_66 : T 66 = some ⟨.struct [(0, 4), (1, 64), (1515, 3)], 1516, 1528, ([(.bool false)] ++ List.replicate 1514 (.int .u8 0) ++ [(.int .i64 0)])⟩ := rfl
theorem T_67 : T 67 = some ⟨.slice 40, 1, 24, [(.slice none 0 0)]⟩ := rfl
theorem T_68 : T 68 = some ⟨.struct [(0, 67), (1, 67), (2, 3), (3, 3), (4, 30)], 7, 88, [(.slice none 0 0), (.slice none 0 0), (.int .i64 0), (.int .i64 0), (.int .i64 0), (.int .i64 0), (.int .i64 0)]⟩ := rfl
theorem T_69 : T 69 = some ⟨.struct [(0, 67), (1, 67), (2, 3), (3, 3), (4, 30)], 7, 88, [(.slice none 0 0), (.slice none 0 0), (.int .i64 0), (.int .i64 0), (.int .i64 0), (.int .i64 0), (.int .i64 0)]⟩ := rfl
theorem T_70 : T 70 = some ⟨.ptr, 1, 8, [(.pointer none)]⟩ := rfl
theorem T_71 : T 71 = some ⟨.func, 1, 8, [.nilFunc]⟩ := rfl
theorem T_72 : T 72 = some ⟨.func, 1, 8, [.nilFunc]⟩ := rfl
theorem T_73 : T 73 = some ⟨.func, 1, 8, [.nilFunc]⟩ := rfl
theorem T_74 : T 74 = some ⟨.func, 1, 8, [.nilFunc]⟩ := rfl
theorem T_75 : T 75 = some ⟨.func, 1, 8, [.nilFunc]⟩ := rfl
theorem T_76 : T 76 = some ⟨.func, 1, 8, [.nilFunc]⟩ := rfl
theorem T_77 : T 77 = some ⟨.func, 1, 8, [.nilFunc]⟩ := rfl
theorem T_78 : T 78 = some ⟨.func, 1, 8, [.nilFunc]⟩ := rfl
theorem T_79 : T 79 = some ⟨.ptr, 1, 8, [(.pointer none)]⟩ := rfl
theorem T_80 : T 80 = some ⟨.func, 1, 8, [.nilFunc]⟩ := rfl
theorem T_86 : T 86 = some ⟨.func, 1, 8, [.nilFunc]⟩ := rfl
theorem T_87 : T 87 = some ⟨.int .u32, 1, 4, [(.int .u32 0)]⟩ := rfl
theorem T_91 : T 91 = some ⟨.ptr, 1, 8, [(.pointer none)]⟩ := rfl

def TL : List Nat := [1, 2, 3, 4, 5, 9, 12, 20, 21, 22, 23, 24, 25, 26, 28, 29, 30, 31, 32, 33, 34, 35, 36, 37, 38, 39, 40, 41, 43, 44, 45, 47, 48, 49, 50, 51, 52, 53, 54, 55, 56, 57, 58, 59, 60, 61, 62, 63, 64, 65, 66, 67, 68, 69, 70, 71, 72, 73, 74, 75, 76, 77, 78, 79, 80, 86, 87, 91]
theorem TL_chk : (TL.all fun t => match T t with | some ti => chkT Try.prog t ti | none => false) = true := by kernel_rfl
theorem T_mem : ∀ t ti, T t = some ti → t ∈ TL := by
  intro t ti h
  unfold T at h
  split at h <;> first | (simp [TL]; done) | (cases h)
theorem T_ok : TOk Try.prog T := fun t ti h => by
  have h1 := List.all_eq_true.1 TL_chk t (T_mem t ti h)
  rw [h] at h1
  exact chkT_ok h1

def FL : List Nat := [29, 30]
def flat : TypeId → Bool
  | 29 => true
  | 30 => true
  | _ => false
theorem flat_29 : flat 29 = true := rfl
theorem flat_30 : flat 30 = true := rfl
theorem FL_chk : (FL.all fun t => flatChk Try.prog T t) = true := by kernel_rfl
theorem flat_ok : ∀ t, flat t = true → flatChk Try.prog T t = true := by
  intro t h
  refine List.all_eq_true.1 FL_chk t ?_
  unfold flat at h
  split at h <;> first | (simp [FL]; done) | (cases h)

set_option maxRecDepth 20000
/-- All of them, for simp. -/
theorem TT : type_of% (And.intro (And.intro (And.intro (And.intro (And.intro (And.intro @T_1 @T_2) (And.intro @T_3 @T_4)) (And.intro (And.intro @T_5 @T_9) (And.intro @T_12 @T_20))) (And.intro (And.intro (And.intro @T_21 @T_22) (And.intro @T_23 @T_24)) (And.intro (And.intro @T_25 @T_26) (And.intro @T_28 (And.intro @T_29 @T_30))))) (And.intro (And.intro (And.intro (And.intro @T_31 @T_32) (And.intro @T_33 @T_34)) (And.intro (And.intro @T_35 @T_36) (And.intro @T_37 (And.intro @T_38 @T_39)))) (And.intro (And.intro (And.intro @T_40 @T_41) (And.intro @T_43 @T_44)) (And.intro (And.intro @T_45 @T_47) (And.intro @T_48 (And.intro @T_49 @T_50)))))) (And.intro (And.intro (And.intro (And.intro (And.intro @T_51 @T_52) (And.intro @T_53 @T_54)) (And.intro (And.intro @T_55 @T_56) (And.intro @T_57 @T_58))) (And.intro (And.intro (And.intro @T_59 @T_60) (And.intro @T_61 @T_62)) (And.intro (And.intro @T_63 @T_64) (And.intro @T_65 (And.intro @T_66 @T_67))))) (And.intro (And.intro (And.intro (And.intro @T_68 @T_69) (And.intro @T_70 @T_71)) (And.intro (And.intro @T_72 @T_73) (And.intro @T_74 (And.intro @T_75 @T_76)))) (And.intro (And.intro (And.intro @T_77 @T_78) (And.intro @T_79 @T_80)) (And.intro (And.intro @T_86 @T_87) (And.intro @T_91 (And.intro @flat_29 @flat_30))))))) := (And.intro (And.intro (And.intro (And.intro (And.intro (And.intro @T_1 @T_2) (And.intro @T_3 @T_4)) (And.intro (And.intro @T_5 @T_9) (And.intro @T_12 @T_20))) (And.intro (And.intro (And.intro @T_21 @T_22) (And.intro @T_23 @T_24)) (And.intro (And.intro @T_25 @T_26) (And.intro @T_28 (And.intro @T_29 @T_30))))) (And.intro (And.intro (And.intro (And.intro @T_31 @T_32) (And.intro @T_33 @T_34)) (And.intro (And.intro @T_35 @T_36) (And.intro @T_37 (And.intro @T_38 @T_39)))) (And.intro (And.intro (And.intro @T_40 @T_41) (And.intro @T_43 @T_44)) (And.intro (And.intro @T_45 @T_47) (And.intro @T_48 (And.intro @T_49 @T_50)))))) (And.intro (And.intro (And.intro (And.intro (And.intro @T_51 @T_52) (And.intro @T_53 @T_54)) (And.intro (And.intro @T_55 @T_56) (And.intro @T_57 @T_58))) (And.intro (And.intro (And.intro @T_59 @T_60) (And.intro @T_61 @T_62)) (And.intro (And.intro @T_63 @T_64) (And.intro @T_65 (And.intro @T_66 @T_67))))) (And.intro (And.intro (And.intro (And.intro @T_68 @T_69) (And.intro @T_70 @T_71)) (And.intro (And.intro @T_72 @T_73) (And.intro @T_74 (And.intro @T_75 @T_76)))) (And.intro (And.intro (And.intro @T_77 @T_78) (And.intro @T_79 @T_80)) (And.intro (And.intro @T_86 @T_87) (And.intro @T_91 (And.intro @flat_29 @flat_30)))))))

end Go.Proofs.Ytdfhmpheepobnaa.Sx
