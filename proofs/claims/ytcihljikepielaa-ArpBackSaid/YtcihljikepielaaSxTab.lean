/- The types of the translation, as a table (by program). No condition. -/
import Derived.Test.YtcihljikepielaaProg
import Derived.Test.YtcihljikepielaaSxFlat
namespace Go.Proofs.Ytcihljikepielaa.Sx
open Go

def T : TypeId → Option TI
  | 1 => some ⟨.func, 1, 8, [.nilFunc]⟩
  | 2 => some ⟨.int .i64, 1, 8, [(.int .i64 0)]⟩
  | 3 => some ⟨.int .i64, 1, 8, [(.int .i64 0)]⟩
  | 4 => some ⟨.bool, 1, 1, [(.bool false)]⟩
  | 5 => some ⟨.int .u8, 1, 1, [(.int .u8 0)]⟩
  | 9 => some ⟨.str, 1, 16, [(.string ByteArray.empty)]⟩
  | 12 => some ⟨.int .u64, 1, 8, [(.int .u64 0)]⟩
  | 20 => some ⟨.iface, 1, 16, [.nilIface]⟩
  | 21 => some ⟨.int .i32, 1, 4, [(.int .i32 0)]⟩
  | 22 => some ⟨.func, 1, 8, [.nilFunc]⟩
  | 23 => some ⟨.array 6 5, 6, 6, [(.int .u8 0), (.int .u8 0), (.int .u8 0), (.int .u8 0), (.int .u8 0), (.int .u8 0)]⟩
  | 24 => some ⟨.array 6 5, 6, 6, [(.int .u8 0), (.int .u8 0), (.int .u8 0), (.int .u8 0), (.int .u8 0), (.int .u8 0)]⟩
  | 25 => some ⟨.int .u32, 1, 4, [(.int .u32 0)]⟩
  | 26 => some ⟨.struct [(0, 3), (1, 24), (7, 25), (8, 24), (14, 25)], 15, 32, [(.int .i64 0), (.int .u8 0), (.int .u8 0), (.int .u8 0), (.int .u8 0), (.int .u8 0), (.int .u8 0), (.int .u32 0), (.int .u8 0), (.int .u8 0), (.int .u8 0), (.int .u8 0), (.int .u8 0), (.int .u8 0), (.int .u32 0)]⟩
  | 27 => some ⟨.struct [(0, 3), (1, 24), (7, 25), (8, 24), (14, 25)], 15, 32, [(.int .i64 0), (.int .u8 0), (.int .u8 0), (.int .u8 0), (.int .u8 0), (.int .u8 0), (.int .u8 0), (.int .u32 0), (.int .u8 0), (.int .u8 0), (.int .u8 0), (.int .u8 0), (.int .u8 0), (.int .u8 0), (.int .u32 0)]⟩
  | 28 => some ⟨.slice 5, 1, 24, [(.slice none 0 0)]⟩
  | 29 => some ⟨.int .i64, 1, 8, [(.int .i64 0)]⟩
  | 31 => some ⟨.func, 1, 8, [.nilFunc]⟩
  | 32 => some ⟨.ptr, 1, 8, [(.pointer none)]⟩
  | 33 => some ⟨.slice 28, 1, 24, [(.slice none 0 0)]⟩
  | 34 => some ⟨.slice 9, 1, 24, [(.slice none 0 0)]⟩
  | 35 => some ⟨.struct [(0, 33), (1, 34)], 2, 48, [(.slice none 0 0), (.slice none 0 0)]⟩
  | 36 => some ⟨.struct [(0, 33), (1, 34)], 2, 48, [(.slice none 0 0), (.slice none 0 0)]⟩
  | 37 => some ⟨.func, 1, 8, [.nilFunc]⟩
  | 38 => some ⟨.func, 1, 8, [.nilFunc]⟩
  | 39 => some ⟨.func, 1, 8, [.nilFunc]⟩
  | 41 => some ⟨.func, 1, 8, [.nilFunc]⟩
  | 42 => some ⟨.func, 1, 8, [.nilFunc]⟩
  | 43 => some ⟨.func, 1, 8, [.nilFunc]⟩
  | 44 => some ⟨.func, 1, 8, [.nilFunc]⟩
  | 45 => some ⟨.func, 1, 8, [.nilFunc]⟩
  | 46 => some ⟨.func, 1, 8, [.nilFunc]⟩
  | 47 => some ⟨.func, 1, 8, [.nilFunc]⟩
  | 48 => some ⟨.func, 1, 8, [.nilFunc]⟩
  | 49 => some ⟨.func, 1, 8, [.nilFunc]⟩
  | 50 => some ⟨.func, 1, 8, [.nilFunc]⟩
  | 51 => some ⟨.int .u64, 1, 8, [(.int .u64 0)]⟩
  | 52 => some ⟨.func, 1, 8, [.nilFunc]⟩
  | 53 => some ⟨.func, 1, 8, [.nilFunc]⟩
  | 54 => some ⟨.func, 1, 8, [.nilFunc]⟩
  | 55 => some ⟨.func, 1, 8, [.nilFunc]⟩
  | 56 => some ⟨.int .u64, 1, 8, [(.int .u64 0)]⟩
  | 57 => some ⟨.func, 1, 8, [.nilFunc]⟩
  | 58 => some ⟨.func, 1, 8, [.nilFunc]⟩
  | 60 => some ⟨.func, 1, 8, [.nilFunc]⟩
  | 61 => some ⟨.func, 1, 8, [.nilFunc]⟩
  | 67 => some ⟨.func, 1, 8, [.nilFunc]⟩
  | 71 => some ⟨.ptr, 1, 8, [(.pointer none)]⟩
  | _ => none

theorem T_1 : T 1 = some ⟨.func, 1, 8, [.nilFunc]⟩ := rfl
theorem T_2 : T 2 = some ⟨.int .i64, 1, 8, [(.int .i64 0)]⟩ := rfl
theorem T_3 : T 3 = some ⟨.int .i64, 1, 8, [(.int .i64 0)]⟩ := rfl
theorem T_4 : T 4 = some ⟨.bool, 1, 1, [(.bool false)]⟩ := rfl
theorem T_5 : T 5 = some ⟨.int .u8, 1, 1, [(.int .u8 0)]⟩ := rfl
theorem T_9 : T 9 = some ⟨.str, 1, 16, [(.string ByteArray.empty)]⟩ := rfl
theorem T_12 : T 12 = some ⟨.int .u64, 1, 8, [(.int .u64 0)]⟩ := rfl
theorem T_20 : T 20 = some ⟨.iface, 1, 16, [.nilIface]⟩ := rfl
theorem T_21 : T 21 = some ⟨.int .i32, 1, 4, [(.int .i32 0)]⟩ := rfl
theorem T_22 : T 22 = some ⟨.func, 1, 8, [.nilFunc]⟩ := rfl
theorem T_23 : T 23 = some ⟨.array 6 5, 6, 6, [(.int .u8 0), (.int .u8 0), (.int .u8 0), (.int .u8 0), (.int .u8 0), (.int .u8 0)]⟩ := rfl
theorem T_24 : T 24 = some ⟨.array 6 5, 6, 6, [(.int .u8 0), (.int .u8 0), (.int .u8 0), (.int .u8 0), (.int .u8 0), (.int .u8 0)]⟩ := rfl
theorem T_25 : T 25 = some ⟨.int .u32, 1, 4, [(.int .u32 0)]⟩ := rfl
theorem T_26 : T 26 = some ⟨.struct [(0, 3), (1, 24), (7, 25), (8, 24), (14, 25)], 15, 32, [(.int .i64 0), (.int .u8 0), (.int .u8 0), (.int .u8 0), (.int .u8 0), (.int .u8 0), (.int .u8 0), (.int .u32 0), (.int .u8 0), (.int .u8 0), (.int .u8 0), (.int .u8 0), (.int .u8 0), (.int .u8 0), (.int .u32 0)]⟩ := rfl
theorem T_27 : T 27 = some ⟨.struct [(0, 3), (1, 24), (7, 25), (8, 24), (14, 25)], 15, 32, [(.int .i64 0), (.int .u8 0), (.int .u8 0), (.int .u8 0), (.int .u8 0), (.int .u8 0), (.int .u8 0), (.int .u32 0), (.int .u8 0), (.int .u8 0), (.int .u8 0), (.int .u8 0), (.int .u8 0), (.int .u8 0), (.int .u32 0)]⟩ := rfl
theorem T_28 : T 28 = some ⟨.slice 5, 1, 24, [(.slice none 0 0)]⟩ := rfl
theorem T_29 : T 29 = some ⟨.int .i64, 1, 8, [(.int .i64 0)]⟩ := rfl
theorem T_31 : T 31 = some ⟨.func, 1, 8, [.nilFunc]⟩ := rfl
theorem T_32 : T 32 = some ⟨.ptr, 1, 8, [(.pointer none)]⟩ := rfl
theorem T_33 : T 33 = some ⟨.slice 28, 1, 24, [(.slice none 0 0)]⟩ := rfl
theorem T_34 : T 34 = some ⟨.slice 9, 1, 24, [(.slice none 0 0)]⟩ := rfl
theorem T_35 : T 35 = some ⟨.struct [(0, 33), (1, 34)], 2, 48, [(.slice none 0 0), (.slice none 0 0)]⟩ := rfl
theorem T_36 : T 36 = some ⟨.struct [(0, 33), (1, 34)], 2, 48, [(.slice none 0 0), (.slice none 0 0)]⟩ := rfl
theorem T_37 : T 37 = some ⟨.func, 1, 8, [.nilFunc]⟩ := rfl
theorem T_38 : T 38 = some ⟨.func, 1, 8, [.nilFunc]⟩ := rfl
theorem T_39 : T 39 = some ⟨.func, 1, 8, [.nilFunc]⟩ := rfl
theorem T_41 : T 41 = some ⟨.func, 1, 8, [.nilFunc]⟩ := rfl
theorem T_42 : T 42 = some ⟨.func, 1, 8, [.nilFunc]⟩ := rfl
theorem T_43 : T 43 = some ⟨.func, 1, 8, [.nilFunc]⟩ := rfl
theorem T_44 : T 44 = some ⟨.func, 1, 8, [.nilFunc]⟩ := rfl
theorem T_45 : T 45 = some ⟨.func, 1, 8, [.nilFunc]⟩ := rfl
theorem T_46 : T 46 = some ⟨.func, 1, 8, [.nilFunc]⟩ := rfl
theorem T_47 : T 47 = some ⟨.func, 1, 8, [.nilFunc]⟩ := rfl
theorem T_48 : T 48 = some ⟨.func, 1, 8, [.nilFunc]⟩ := rfl
theorem T_49 : T 49 = some ⟨.func, 1, 8, [.nilFunc]⟩ := rfl
theorem T_50 : T 50 = some ⟨.func, 1, 8, [.nilFunc]⟩ := rfl
theorem T_51 : T 51 = some ⟨.int .u64, 1, 8, [(.int .u64 0)]⟩ := rfl
theorem T_52 : T 52 = some ⟨.func, 1, 8, [.nilFunc]⟩ := rfl
theorem T_53 : T 53 = some ⟨.func, 1, 8, [.nilFunc]⟩ := rfl
theorem T_54 : T 54 = some ⟨.func, 1, 8, [.nilFunc]⟩ := rfl
theorem T_55 : T 55 = some ⟨.func, 1, 8, [.nilFunc]⟩ := rfl
theorem T_56 : T 56 = some ⟨.int .u64, 1, 8, [(.int .u64 0)]⟩ := rfl
theorem T_57 : T 57 = some ⟨.func, 1, 8, [.nilFunc]⟩ := rfl
theorem T_58 : T 58 = some ⟨.func, 1, 8, [.nilFunc]⟩ := rfl
theorem T_60 : T 60 = some ⟨.func, 1, 8, [.nilFunc]⟩ := rfl
theorem T_61 : T 61 = some ⟨.func, 1, 8, [.nilFunc]⟩ := rfl
theorem T_67 : T 67 = some ⟨.func, 1, 8, [.nilFunc]⟩ := rfl
theorem T_71 : T 71 = some ⟨.ptr, 1, 8, [(.pointer none)]⟩ := rfl

def TL : List Nat := [1, 2, 3, 4, 5, 9, 12, 20, 21, 22, 23, 24, 25, 26, 27, 28, 29, 31, 32, 33, 34, 35, 36, 37, 38, 39, 41, 42, 43, 44, 45, 46, 47, 48, 49, 50, 51, 52, 53, 54, 55, 56, 57, 58, 60, 61, 67, 71]
theorem TL_chk : (TL.all fun t => match T t with | some ti => chkT Try.prog t ti | none => false) = true := by kernel_rfl
theorem T_mem : ∀ t ti, T t = some ti → t ∈ TL := by
  intro t ti h
  unfold T at h
  split at h <;> first | (simp [TL]; done) | (cases h)
theorem T_ok : TOk Try.prog T := fun t ti h => by
  have h1 := List.all_eq_true.1 TL_chk t (T_mem t ti h)
  rw [h] at h1
  exact chkT_ok h1

def FL : List Nat := [23, 24, 26, 27]
def flat : TypeId → Bool
  | 23 => true
  | 24 => true
  | 26 => true
  | 27 => true
  | _ => false
theorem flat_23 : flat 23 = true := rfl
theorem flat_24 : flat 24 = true := rfl
theorem flat_26 : flat 26 = true := rfl
theorem flat_27 : flat 27 = true := rfl
theorem FL_chk : (FL.all fun t => flatChk Try.prog T t) = true := by kernel_rfl
theorem flat_ok : ∀ t, flat t = true → flatChk Try.prog T t = true := by
  intro t h
  refine List.all_eq_true.1 FL_chk t ?_
  unfold flat at h
  split at h <;> first | (simp [FL]; done) | (cases h)

set_option maxRecDepth 20000
/-- All of them, for simp. -/
theorem TT : type_of% (And.intro (And.intro (And.intro (And.intro (And.intro @T_1 (And.intro @T_2 @T_3)) (And.intro @T_4 (And.intro @T_5 @T_9))) (And.intro (And.intro @T_12 (And.intro @T_20 @T_21)) (And.intro (And.intro @T_22 @T_23) (And.intro @T_24 @T_25)))) (And.intro (And.intro (And.intro @T_26 (And.intro @T_27 @T_28)) (And.intro @T_29 (And.intro @T_31 @T_32))) (And.intro (And.intro @T_33 (And.intro @T_34 @T_35)) (And.intro (And.intro @T_36 @T_37) (And.intro @T_38 @T_39))))) (And.intro (And.intro (And.intro (And.intro @T_41 (And.intro @T_42 @T_43)) (And.intro @T_44 (And.intro @T_45 @T_46))) (And.intro (And.intro @T_47 (And.intro @T_48 @T_49)) (And.intro (And.intro @T_50 @T_51) (And.intro @T_52 @T_53)))) (And.intro (And.intro (And.intro @T_54 (And.intro @T_55 @T_56)) (And.intro @T_57 (And.intro @T_58 @T_60))) (And.intro (And.intro @T_61 (And.intro @T_67 @T_71)) (And.intro (And.intro @flat_23 @flat_24) (And.intro @flat_26 @flat_27)))))) := (And.intro (And.intro (And.intro (And.intro (And.intro @T_1 (And.intro @T_2 @T_3)) (And.intro @T_4 (And.intro @T_5 @T_9))) (And.intro (And.intro @T_12 (And.intro @T_20 @T_21)) (And.intro (And.intro @T_22 @T_23) (And.intro @T_24 @T_25)))) (And.intro (And.intro (And.intro @T_26 (And.intro @T_27 @T_28)) (And.intro @T_29 (And.intro @T_31 @T_32))) (And.intro (And.intro @T_33 (And.intro @T_34 @T_35)) (And.intro (And.intro @T_36 @T_37) (And.intro @T_38 @T_39))))) (And.intro (And.intro (And.intro (And.intro @T_41 (And.intro @T_42 @T_43)) (And.intro @T_44 (And.intro @T_45 @T_46))) (And.intro (And.intro @T_47 (And.intro @T_48 @T_49)) (And.intro (And.intro @T_50 @T_51) (And.intro @T_52 @T_53)))) (And.intro (And.intro (And.intro @T_54 (And.intro @T_55 @T_56)) (And.intro @T_57 (And.intro @T_58 @T_60))) (And.intro (And.intro @T_61 (And.intro @T_67 @T_71)) (And.intro (And.intro @flat_23 @flat_24) (And.intro @flat_26 @flat_27))))))

end Go.Proofs.Ytcihljikepielaa.Sx
