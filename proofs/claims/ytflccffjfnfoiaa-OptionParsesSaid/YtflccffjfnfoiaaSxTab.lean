/- The types of the translation, as a table (by program). No condition. -/
import Derived.Test.YtflccffjfnfoiaaProg
import Derived.Test.YtflccffjfnfoiaaSxFlat
namespace Go.Proofs.Ytflccffjfnfoiaa.Sx
open Go

def T : TypeId → Option TI
  | 1 => some ⟨.func, 1, 8, [.nilFunc]⟩
  | 2 => some ⟨.int .i64, 1, 8, [(.int .i64 0)]⟩
  | 3 => some ⟨.int .i64, 1, 8, [(.int .i64 0)]⟩
  | 4 => some ⟨.bool, 1, 1, [(.bool false)]⟩
  | 5 => some ⟨.int .u8, 1, 1, [(.int .u8 0)]⟩
  | 9 => some ⟨.str, 1, 16, [(.string ByteArray.empty)]⟩
  | 12 => some ⟨.int .u64, 1, 8, [(.int .u64 0)]⟩
  | 20 => some ⟨.iface, 1, 16, [.nilIface]⟩
  | 21 => some ⟨.int .i32, 1, 4, [(.int .i32 0)]⟩
  | 22 => some ⟨.func, 1, 8, [.nilFunc]⟩
  | 23 => some ⟨.slice 3, 1, 24, [(.slice none 0 0)]⟩
  | 24 => some ⟨.slice 58, 1, 24, [(.slice none 0 0)]⟩
  | 25 => some ⟨.slice 5, 1, 24, [(.slice none 0 0)]⟩
  | 26 => some ⟨.int .i64, 1, 8, [(.int .i64 0)]⟩
  | 28 => some ⟨.func, 1, 8, [.nilFunc]⟩
  | 29 => some ⟨.func, 1, 8, [.nilFunc]⟩
  | 30 => some ⟨.func, 1, 8, [.nilFunc]⟩
  | 31 => some ⟨.ptr, 1, 8, [(.pointer none)]⟩
  | 32 => some ⟨.slice 25, 1, 24, [(.slice none 0 0)]⟩
  | 33 => some ⟨.slice 9, 1, 24, [(.slice none 0 0)]⟩
  | 34 => some ⟨.struct [(0, 32), (1, 33)], 2, 48, [(.slice none 0 0), (.slice none 0 0)]⟩
  | 35 => some ⟨.struct [(0, 32), (1, 33)], 2, 48, [(.slice none 0 0), (.slice none 0 0)]⟩
  | 36 => some ⟨.func, 1, 8, [.nilFunc]⟩
  | 37 => some ⟨.func, 1, 8, [.nilFunc]⟩
  | 38 => some ⟨.func, 1, 8, [.nilFunc]⟩
  | 40 => some ⟨.func, 1, 8, [.nilFunc]⟩
  | 41 => some ⟨.func, 1, 8, [.nilFunc]⟩
  | 42 => some ⟨.func, 1, 8, [.nilFunc]⟩
  | 43 => some ⟨.func, 1, 8, [.nilFunc]⟩
  | 44 => some ⟨.ptr, 1, 8, [(.pointer none)]⟩
  | 45 => some ⟨.slice 24, 1, 24, [(.slice none 0 0)]⟩
  | 46 => some ⟨.struct [(0, 35), (2, 45), (3, 45)], 4, 96, [(.slice none 0 0), (.slice none 0 0), (.slice none 0 0), (.slice none 0 0)]⟩
  | 47 => some ⟨.struct [(0, 35), (2, 45), (3, 45)], 4, 96, [(.slice none 0 0), (.slice none 0 0), (.slice none 0 0), (.slice none 0 0)]⟩
  | 48 => some ⟨.func, 1, 8, [.nilFunc]⟩
  | 50 => some ⟨.func, 1, 8, [.nilFunc]⟩
  | 51 => some ⟨.int .u32, 1, 4, [(.int .u32 0)]⟩
  | 53 => some ⟨.func, 1, 8, [.nilFunc]⟩
  | 55 => some ⟨.func, 1, 8, [.nilFunc]⟩
  | 56 => some ⟨.func, 1, 8, [.nilFunc]⟩
  | 57 => some ⟨.struct [(0, 3), (1, 25)], 2, 32, [(.int .i64 0), (.slice none 0 0)]⟩
  | 58 => some ⟨.struct [(0, 3), (1, 25)], 2, 32, [(.int .i64 0), (.slice none 0 0)]⟩
  | 59 => some ⟨.func, 1, 8, [.nilFunc]⟩
  | 60 => some ⟨.func, 1, 8, [.nilFunc]⟩
  | 61 => some ⟨.func, 1, 8, [.nilFunc]⟩
  | 62 => some ⟨.func, 1, 8, [.nilFunc]⟩
  | 63 => some ⟨.func, 1, 8, [.nilFunc]⟩
  | 64 => some ⟨.func, 1, 8, [.nilFunc]⟩
  | 65 => some ⟨.slice 4, 1, 24, [(.slice none 0 0)]⟩
  | 66 => some ⟨.func, 1, 8, [.nilFunc]⟩
  | 67 => some ⟨.func, 1, 8, [.nilFunc]⟩
  | 68 => some ⟨.array 255 4, 255, 255, (List.replicate 255 (.bool false))⟩
  | 69 => some ⟨.func, 1, 8, [.nilFunc]⟩
  | 70 => some ⟨.func, 1, 8, [.nilFunc]⟩
  | 71 => some ⟨.func, 1, 8, [.nilFunc]⟩
  | 72 => some ⟨.func, 1, 8, [.nilFunc]⟩
  | 73 => some ⟨.func, 1, 8, [.nilFunc]⟩
  | 74 => some ⟨.func, 1, 8, [.nilFunc]⟩
  | 75 => some ⟨.func, 1, 8, [.nilFunc]⟩
  | 76 => some ⟨.func, 1, 8, [.nilFunc]⟩
  | 77 => some ⟨.int .u64, 1, 8, [(.int .u64 0)]⟩
  | 79 => some ⟨.func, 1, 8, [.nilFunc]⟩
  | 80 => some ⟨.func, 1, 8, [.nilFunc]⟩
  | 81 => some ⟨.int .u64, 1, 8, [(.int .u64 0)]⟩
  | 82 => some ⟨.func, 1, 8, [.nilFunc]⟩
  | 88 => some ⟨.func, 1, 8, [.nilFunc]⟩
  | 92 => some ⟨.ptr, 1, 8, [(.pointer none)]⟩
  | _ => none

theorem T_1 : T 1 = some ⟨.func, 1, 8, [.nilFunc]⟩ := rfl
theorem T_2 : T 2 = some ⟨.int .i64, 1, 8, [(.int .i64 0)]⟩ := rfl
theorem T_3 : T 3 = some ⟨.int .i64, 1, 8, [(.int .i64 0)]⟩ := rfl
theorem T_4 : T 4 = some ⟨.bool, 1, 1, [(.bool false)]⟩ := rfl
theorem T_5 : T 5 = some ⟨.int .u8, 1, 1, [(.int .u8 0)]⟩ := rfl
theorem T_9 : T 9 = some ⟨.str, 1, 16, [(.string ByteArray.empty)]⟩ := rfl
theorem T_12 : T 12 = some ⟨.int .u64, 1, 8, [(.int .u64 0)]⟩ := rfl
theorem T_20 : T 20 = some ⟨.iface, 1, 16, [.nilIface]⟩ := rfl
theorem T_21 : T 21 = some ⟨.int .i32, 1, 4, [(.int .i32 0)]⟩ := rfl
theorem T_22 : T 22 = some ⟨.func, 1, 8, [.nilFunc]⟩ := rfl
theorem T_23 : T 23 = some ⟨.slice 3, 1, 24, [(.slice none 0 0)]⟩ := rfl
theorem T_24 : T 24 = some ⟨.slice 58, 1, 24, [(.slice none 0 0)]⟩ := rfl
theorem T_25 : T 25 = some ⟨.slice 5, 1, 24, [(.slice none 0 0)]⟩ := rfl
theorem T_26 : T 26 = some ⟨.int .i64, 1, 8, [(.int .i64 0)]⟩ := rfl
theorem T_28 : T 28 = some ⟨.func, 1, 8, [.nilFunc]⟩ := rfl
theorem T_29 : T 29 = some ⟨.func, 1, 8, [.nilFunc]⟩ := rfl
theorem T_30 : T 30 = some ⟨.func, 1, 8, [.nilFunc]⟩ := rfl
theorem T_31 : T 31 = some ⟨.ptr, 1, 8, [(.pointer none)]⟩ := rfl
theorem T_32 : T 32 = some ⟨.slice 25, 1, 24, [(.slice none 0 0)]⟩ := rfl
theorem T_33 : T 33 = some ⟨.slice 9, 1, 24, [(.slice none 0 0)]⟩ := rfl
theorem T_34 : T 34 = some ⟨.struct [(0, 32), (1, 33)], 2, 48, [(.slice none 0 0), (.slice none 0 0)]⟩ := rfl
theorem T_35 : T 35 = some ⟨.struct [(0, 32), (1, 33)], 2, 48, [(.slice none 0 0), (.slice none 0 0)]⟩ := rfl
theorem T_36 : T 36 = some ⟨.func, 1, 8, [.nilFunc]⟩ := rfl
theorem T_37 : T 37 = some ⟨.func, 1, 8, [.nilFunc]⟩ := rfl
theorem T_38 : T 38 = some ⟨.func, 1, 8, [.nilFunc]⟩ := rfl
theorem T_40 : T 40 = some ⟨.func, 1, 8, [.nilFunc]⟩ := rfl
theorem T_41 : T 41 = some ⟨.func, 1, 8, [.nilFunc]⟩ := rfl
theorem T_42 : T 42 = some ⟨.func, 1, 8, [.nilFunc]⟩ := rfl
theorem T_43 : T 43 = some ⟨.func, 1, 8, [.nilFunc]⟩ := rfl
theorem T_44 : T 44 = some ⟨.ptr, 1, 8, [(.pointer none)]⟩ := rfl
theorem T_45 : T 45 = some ⟨.slice 24, 1, 24, [(.slice none 0 0)]⟩ := rfl
theorem T_46 : T 46 = some ⟨.struct [(0, 35), (2, 45), (3, 45)], 4, 96, [(.slice none 0 0), (.slice none 0 0), (.slice none 0 0), (.slice none 0 0)]⟩ := rfl
theorem T_47 : T 47 = some ⟨.struct [(0, 35), (2, 45), (3, 45)], 4, 96, [(.slice none 0 0), (.slice none 0 0), (.slice none 0 0), (.slice none 0 0)]⟩ := rfl
theorem T_48 : T 48 = some ⟨.func, 1, 8, [.nilFunc]⟩ := rfl
theorem T_50 : T 50 = some ⟨.func, 1, 8, [.nilFunc]⟩ := rfl
theorem T_51 : T 51 = some ⟨.int .u32, 1, 4, [(.int .u32 0)]⟩ := rfl
theorem T_53 : T 53 = some ⟨.func, 1, 8, [.nilFunc]⟩ := rfl
theorem T_55 : T 55 = some ⟨.func, 1, 8, [.nilFunc]⟩ := rfl
theorem T_56 : T 56 = some ⟨.func, 1, 8, [.nilFunc]⟩ := rfl
theorem T_57 : T 57 = some ⟨.struct [(0, 3), (1, 25)], 2, 32, [(.int .i64 0), (.slice none 0 0)]⟩ := rfl
theorem T_58 : T 58 = some ⟨.struct [(0, 3), (1, 25)], 2, 32, [(.int .i64 0), (.slice none 0 0)]⟩ := rfl
theorem T_59 : T 59 = some ⟨.func, 1, 8, [.nilFunc]⟩ := rfl
theorem T_60 : T 60 = some ⟨.func, 1, 8, [.nilFunc]⟩ := rfl
theorem T_61 : T 61 = some ⟨.func, 1, 8, [.nilFunc]⟩ := rfl
theorem T_62 : T 62 = some ⟨.func, 1, 8, [.nilFunc]⟩ := rfl
theorem T_63 : T 63 = some ⟨.func, 1, 8, [.nilFunc]⟩ := rfl
theorem T_64 : T 64 = some ⟨.func, 1, 8, [.nilFunc]⟩ := rfl
theorem T_65 : T 65 = some ⟨.slice 4, 1, 24, [(.slice none 0 0)]⟩ := rfl
theorem T_66 : T 66 = some ⟨.func, 1, 8, [.nilFunc]⟩ := rfl
theorem T_67 : T 67 = some ⟨.func, 1, 8, [.nilFunc]⟩ := rfl
theorem T_68 : T 68 = some ⟨.array 255 4, 255, 255, (List.replicate 255 (.bool false))⟩ := rfl
theorem T_69 : T 69 = some ⟨.func, 1, 8, [.nilFunc]⟩ := rfl
theorem T_70 : T 70 = some ⟨.func, 1, 8, [.nilFunc]⟩ := rfl
theorem T_71 : T 71 = some ⟨.func, 1, 8, [.nilFunc]⟩ := rfl
theorem T_72 : T 72 = some ⟨.func, 1, 8, [.nilFunc]⟩ := rfl
theorem T_73 : T 73 = some ⟨.func, 1, 8, [.nilFunc]⟩ := rfl
theorem T_74 : T 74 = some ⟨.func, 1, 8, [.nilFunc]⟩ := rfl
theorem T_75 : T 75 = some ⟨.func, 1, 8, [.nilFunc]⟩ := rfl
theorem T_76 : T 76 = some ⟨.func, 1, 8, [.nilFunc]⟩ := rfl
theorem T_77 : T 77 = some ⟨.int .u64, 1, 8, [(.int .u64 0)]⟩ := rfl
theorem T_79 : T 79 = some ⟨.func, 1, 8, [.nilFunc]⟩ := rfl
theorem T_80 : T 80 = some ⟨.func, 1, 8, [.nilFunc]⟩ := rfl
theorem T_81 : T 81 = some ⟨.int .u64, 1, 8, [(.int .u64 0)]⟩ := rfl
theorem T_82 : T 82 = some ⟨.func, 1, 8, [.nilFunc]⟩ := rfl
theorem T_88 : T 88 = some ⟨.func, 1, 8, [.nilFunc]⟩ := rfl
theorem T_92 : T 92 = some ⟨.ptr, 1, 8, [(.pointer none)]⟩ := rfl

def TL : List Nat := [1, 2, 3, 4, 5, 9, 12, 20, 21, 22, 23, 24, 25, 26, 28, 29, 30, 31, 32, 33, 34, 35, 36, 37, 38, 40, 41, 42, 43, 44, 45, 46, 47, 48, 50, 51, 53, 55, 56, 57, 58, 59, 60, 61, 62, 63, 64, 65, 66, 67, 68, 69, 70, 71, 72, 73, 74, 75, 76, 77, 79, 80, 81, 82, 88, 92]
theorem TL_chk : (TL.all fun t => match T t with | some ti => chkT Try.prog t ti | none => false) = true := by kernel_rfl
theorem T_mem : ∀ t ti, T t = some ti → t ∈ TL := by
  intro t ti h
  unfold T at h
  split at h <;> first | (simp [TL]; done) | (cases h)
theorem T_ok : TOk Try.prog T := fun t ti h => by
  have h1 := List.all_eq_true.1 TL_chk t (T_mem t ti h)
  rw [h] at h1
  exact chkT_ok h1

def FL : List Nat := []
def flat : TypeId → Bool
  | _ => false
theorem FL_chk : (FL.all fun t => flatChk Try.prog T t) = true := by kernel_rfl
theorem flat_ok : ∀ t, flat t = true → flatChk Try.prog T t = true := by
  intro t h
  refine List.all_eq_true.1 FL_chk t ?_
  unfold flat at h
  split at h <;> first | (simp [FL]; done) | (cases h)

set_option maxRecDepth 20000
/-- All of them, for simp. -/
theorem TT : type_of% (And.intro (And.intro (And.intro (And.intro (And.intro (And.intro @T_1 @T_2) (And.intro @T_3 @T_4)) (And.intro (And.intro @T_5 @T_9) (And.intro @T_12 @T_20))) (And.intro (And.intro (And.intro @T_21 @T_22) (And.intro @T_23 @T_24)) (And.intro (And.intro @T_25 @T_26) (And.intro @T_28 @T_29)))) (And.intro (And.intro (And.intro (And.intro @T_30 @T_31) (And.intro @T_32 @T_33)) (And.intro (And.intro @T_34 @T_35) (And.intro @T_36 @T_37))) (And.intro (And.intro (And.intro @T_38 @T_40) (And.intro @T_41 @T_42)) (And.intro (And.intro @T_43 @T_44) (And.intro @T_45 (And.intro @T_46 @T_47)))))) (And.intro (And.intro (And.intro (And.intro (And.intro @T_48 @T_50) (And.intro @T_51 @T_53)) (And.intro (And.intro @T_55 @T_56) (And.intro @T_57 @T_58))) (And.intro (And.intro (And.intro @T_59 @T_60) (And.intro @T_61 @T_62)) (And.intro (And.intro @T_63 @T_64) (And.intro @T_65 @T_66)))) (And.intro (And.intro (And.intro (And.intro @T_67 @T_68) (And.intro @T_69 @T_70)) (And.intro (And.intro @T_71 @T_72) (And.intro @T_73 @T_74))) (And.intro (And.intro (And.intro @T_75 @T_76) (And.intro @T_77 @T_79)) (And.intro (And.intro @T_80 @T_81) (And.intro @T_82 (And.intro @T_88 @T_92))))))) := (And.intro (And.intro (And.intro (And.intro (And.intro (And.intro @T_1 @T_2) (And.intro @T_3 @T_4)) (And.intro (And.intro @T_5 @T_9) (And.intro @T_12 @T_20))) (And.intro (And.intro (And.intro @T_21 @T_22) (And.intro @T_23 @T_24)) (And.intro (And.intro @T_25 @T_26) (And.intro @T_28 @T_29)))) (And.intro (And.intro (And.intro (And.intro @T_30 @T_31) (And.intro @T_32 @T_33)) (And.intro (And.intro @T_34 @T_35) (And.intro @T_36 @T_37))) (And.intro (And.intro (And.intro @T_38 @T_40) (And.intro @T_41 @T_42)) (And.intro (And.intro @T_43 @T_44) (And.intro @T_45 (And.intro @T_46 @T_47)))))) (And.intro (And.intro (And.intro (And.intro (And.intro @T_48 @T_50) (And.intro @T_51 @T_53)) (And.intro (And.intro @T_55 @T_56) (And.intro @T_57 @T_58))) (And.intro (And.intro (And.intro @T_59 @T_60) (And.intro @T_61 @T_62)) (And.intro (And.intro @T_63 @T_64) (And.intro @T_65 @T_66)))) (And.intro (And.intro (And.intro (And.intro @T_67 @T_68) (And.intro @T_69 @T_70)) (And.intro (And.intro @T_71 @T_72) (And.intro @T_73 @T_74))) (And.intro (And.intro (And.intro @T_75 @T_76) (And.intro @T_77 @T_79)) (And.intro (And.intro @T_80 @T_81) (And.intro @T_82 (And.intro @T_88 @T_92)))))))

end Go.Proofs.Ytflccffjfnfoiaa.Sx
