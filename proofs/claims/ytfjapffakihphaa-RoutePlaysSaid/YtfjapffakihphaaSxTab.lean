/- The types of the translation, as a table (by program). No condition. -/
import Derived.Test.YtfjapffakihphaaProg
import Derived.Test.YtfjapffakihphaaSxFlat
namespace Go.Proofs.Ytfjapffakihphaa.Sx
open Go

def T : TypeId → Option TI
  | 1 => some ⟨.func, 1, 8, [.nilFunc]⟩
  | 2 => some ⟨.int .i64, 1, 8, [(.int .i64 0)]⟩
  | 3 => some ⟨.int .i64, 1, 8, [(.int .i64 0)]⟩
  | 4 => some ⟨.bool, 1, 1, [(.bool false)]⟩
  | 5 => some ⟨.int .u8, 1, 1, [(.int .u8 0)]⟩
  | 9 => some ⟨.str, 1, 16, [(.string ByteArray.empty)]⟩
  | 12 => some ⟨.int .u64, 1, 8, [(.int .u64 0)]⟩
  | 20 => some ⟨.iface, 1, 16, [.nilIface]⟩
  | 21 => some ⟨.int .i32, 1, 4, [(.int .i32 0)]⟩
  | 22 => some ⟨.func, 1, 8, [.nilFunc]⟩
  | 23 => some ⟨.slice 31, 1, 24, [(.slice none 0 0)]⟩
  | 24 => some ⟨.ptr, 1, 8, [(.pointer none)]⟩
  | 25 => some ⟨.func, 1, 8, [.nilFunc]⟩
  | 26 => some ⟨.ptr, 1, 8, [(.pointer none)]⟩
  | 27 => some ⟨.func, 1, 8, [.nilFunc]⟩
  | 28 => some ⟨.func, 1, 8, [.nilFunc]⟩
  | 29 => some ⟨.int .u32, 1, 4, [(.int .u32 0)]⟩
  | 30 => some ⟨.struct [(0, 3), (1, 29), (2, 29), (3, 29)], 4, 24, [(.int .i64 0), (.int .u32 0), (.int .u32 0), (.int .u32 0)]⟩
  | 31 => some ⟨.struct [(0, 3), (1, 29), (2, 29), (3, 29)], 4, 24, [(.int .i64 0), (.int .u32 0), (.int .u32 0), (.int .u32 0)]⟩
  | 32 => some ⟨.func, 1, 8, [.nilFunc]⟩
  | 33 => some ⟨.func, 1, 8, [.nilFunc]⟩
  | 34 => some ⟨.int .i64, 1, 8, [(.int .i64 0)]⟩
  | 35 => some ⟨.func, 1, 8, [.nilFunc]⟩
  | 37 => some ⟨.func, 1, 8, [.nilFunc]⟩
  | 38 => some ⟨.func, 1, 8, [.nilFunc]⟩
  | 39 => some ⟨.func, 1, 8, [.nilFunc]⟩
  | 40 => some ⟨.struct [(0, 29), (1, 29), (2, 29)], 3, 12, [(.int .u32 0), (.int .u32 0), (.int .u32 0)]⟩
  | 41 => some ⟨.struct [(0, 29), (1, 29), (2, 29)], 3, 12, [(.int .u32 0), (.int .u32 0), (.int .u32 0)]⟩
  | 42 => some ⟨.struct [(0, 41)], 3, 12, [(.int .u32 0), (.int .u32 0), (.int .u32 0)]⟩
  | 43 => some ⟨.struct [(0, 41)], 3, 12, [(.int .u32 0), (.int .u32 0), (.int .u32 0)]⟩
  | 44 => some ⟨.struct [(0, 4), (1, 29), (2, 29), (3, 29)], 4, 16, [(.bool false), (.int .u32 0), (.int .u32 0), (.int .u32 0)]⟩
  | 45 => some ⟨.struct [(0, 4), (1, 29), (2, 29), (3, 29)], 4, 16, [(.bool false), (.int .u32 0), (.int .u32 0), (.int .u32 0)]⟩
  | 46 => some ⟨.func, 1, 8, [.nilFunc]⟩
  | 48 => some ⟨.func, 1, 8, [.nilFunc]⟩
  | 49 => some ⟨.int .u64, 1, 8, [(.int .u64 0)]⟩
  | 50 => some ⟨.func, 1, 8, [.nilFunc]⟩
  | 52 => some ⟨.func, 1, 8, [.nilFunc]⟩
  | 53 => some ⟨.func, 1, 8, [.nilFunc]⟩
  | 59 => some ⟨.func, 1, 8, [.nilFunc]⟩
  | 63 => some ⟨.ptr, 1, 8, [(.pointer none)]⟩
  | _ => none

theorem T_1 : T 1 = some ⟨.func, 1, 8, [.nilFunc]⟩ := rfl
theorem T_2 : T 2 = some ⟨.int .i64, 1, 8, [(.int .i64 0)]⟩ := rfl
theorem T_3 : T 3 = some ⟨.int .i64, 1, 8, [(.int .i64 0)]⟩ := rfl
theorem T_4 : T 4 = some ⟨.bool, 1, 1, [(.bool false)]⟩ := rfl
theorem T_5 : T 5 = some ⟨.int .u8, 1, 1, [(.int .u8 0)]⟩ := rfl
theorem T_9 : T 9 = some ⟨.str, 1, 16, [(.string ByteArray.empty)]⟩ := rfl
theorem T_12 : T 12 = some ⟨.int .u64, 1, 8, [(.int .u64 0)]⟩ := rfl
theorem T_20 : T 20 = some ⟨.iface, 1, 16, [.nilIface]⟩ := rfl
theorem T_21 : T 21 = some ⟨.int .i32, 1, 4, [(.int .i32 0)]⟩ := rfl
theorem T_22 : T 22 = some ⟨.func, 1, 8, [.nilFunc]⟩ := rfl
theorem T_23 : T 23 = some ⟨.slice 31, 1, 24, [(.slice none 0 0)]⟩ := rfl
theorem T_24 : T 24 = some ⟨.ptr, 1, 8, [(.pointer none)]⟩ := rfl
theorem T_25 : T 25 = some ⟨.func, 1, 8, [.nilFunc]⟩ := rfl
theorem T_26 : T 26 = some ⟨.ptr, 1, 8, [(.pointer none)]⟩ := rfl
theorem T_27 : T 27 = some ⟨.func, 1, 8, [.nilFunc]⟩ := rfl
theorem T_28 : T 28 = some ⟨.func, 1, 8, [.nilFunc]⟩ := rfl
theorem T_29 : T 29 = some ⟨.int .u32, 1, 4, [(.int .u32 0)]⟩ := rfl
theorem T_30 : T 30 = some ⟨.struct [(0, 3), (1, 29), (2, 29), (3, 29)], 4, 24, [(.int .i64 0), (.int .u32 0), (.int .u32 0), (.int .u32 0)]⟩ := rfl
theorem T_31 : T 31 = some ⟨.struct [(0, 3), (1, 29), (2, 29), (3, 29)], 4, 24, [(.int .i64 0), (.int .u32 0), (.int .u32 0), (.int .u32 0)]⟩ := rfl
theorem T_32 : T 32 = some ⟨.func, 1, 8, [.nilFunc]⟩ := rfl
theorem T_33 : T 33 = some ⟨.func, 1, 8, [.nilFunc]⟩ := rfl
theorem T_34 : T 34 = some ⟨.int .i64, 1, 8, [(.int .i64 0)]⟩ := rfl
theorem T_35 : T 35 = some ⟨.func, 1, 8, [.nilFunc]⟩ := rfl
theorem T_37 : T 37 = some ⟨.func, 1, 8, [.nilFunc]⟩ := rfl
theorem T_38 : T 38 = some ⟨.func, 1, 8, [.nilFunc]⟩ := rfl
theorem T_39 : T 39 = some ⟨.func, 1, 8, [.nilFunc]⟩ := rfl
theorem T_40 : T 40 = some ⟨.struct [(0, 29), (1, 29), (2, 29)], 3, 12, [(.int .u32 0), (.int .u32 0), (.int .u32 0)]⟩ := rfl
theorem T_41 : T 41 = some ⟨.struct [(0, 29), (1, 29), (2, 29)], 3, 12, [(.int .u32 0), (.int .u32 0), (.int .u32 0)]⟩ := rfl
theorem T_42 : T 42 = some ⟨.struct [(0, 41)], 3, 12, [(.int .u32 0), (.int .u32 0), (.int .u32 0)]⟩ := rfl
theorem T_43 : T 43 = some ⟨.struct [(0, 41)], 3, 12, [(.int .u32 0), (.int .u32 0), (.int .u32 0)]⟩ := rfl
theorem T_44 : T 44 = some ⟨.struct [(0, 4), (1, 29), (2, 29), (3, 29)], 4, 16, [(.bool false), (.int .u32 0), (.int .u32 0), (.int .u32 0)]⟩ := rfl
theorem T_45 : T 45 = some ⟨.struct [(0, 4), (1, 29), (2, 29), (3, 29)], 4, 16, [(.bool false), (.int .u32 0), (.int .u32 0), (.int .u32 0)]⟩ := rfl
theorem T_46 : T 46 = some ⟨.func, 1, 8, [.nilFunc]⟩ := rfl
theorem T_48 : T 48 = some ⟨.func, 1, 8, [.nilFunc]⟩ := rfl
theorem T_49 : T 49 = some ⟨.int .u64, 1, 8, [(.int .u64 0)]⟩ := rfl
theorem T_50 : T 50 = some ⟨.func, 1, 8, [.nilFunc]⟩ := rfl
theorem T_52 : T 52 = some ⟨.func, 1, 8, [.nilFunc]⟩ := rfl
theorem T_53 : T 53 = some ⟨.func, 1, 8, [.nilFunc]⟩ := rfl
theorem T_59 : T 59 = some ⟨.func, 1, 8, [.nilFunc]⟩ := rfl
theorem T_63 : T 63 = some ⟨.ptr, 1, 8, [(.pointer none)]⟩ := rfl

def TL : List Nat := [1, 2, 3, 4, 5, 9, 12, 20, 21, 22, 23, 24, 25, 26, 27, 28, 29, 30, 31, 32, 33, 34, 35, 37, 38, 39, 40, 41, 42, 43, 44, 45, 46, 48, 49, 50, 52, 53, 59, 63]
theorem TL_chk : (TL.all fun t => match T t with | some ti => chkT Try.prog t ti | none => false) = true := by kernel_rfl
theorem T_mem : ∀ t ti, T t = some ti → t ∈ TL := by
  intro t ti h
  unfold T at h
  split at h <;> first | (simp [TL]; done) | (cases h)
theorem T_ok : TOk Try.prog T := fun t ti h => by
  have h1 := List.all_eq_true.1 TL_chk t (T_mem t ti h)
  rw [h] at h1
  exact chkT_ok h1

def FL : List Nat := [30, 31, 40, 41]
def flat : TypeId → Bool
  | 30 => true
  | 31 => true
  | 40 => true
  | 41 => true
  | _ => false
theorem flat_30 : flat 30 = true := rfl
theorem flat_31 : flat 31 = true := rfl
theorem flat_40 : flat 40 = true := rfl
theorem flat_41 : flat 41 = true := rfl
theorem FL_chk : (FL.all fun t => flatChk Try.prog T t) = true := by kernel_rfl
theorem flat_ok : ∀ t, flat t = true → flatChk Try.prog T t = true := by
  intro t h
  refine List.all_eq_true.1 FL_chk t ?_
  unfold flat at h
  split at h <;> first | (simp [FL]; done) | (cases h)

set_option maxRecDepth 20000
/-- All of them, for simp. -/
theorem TT : type_of% (And.intro (And.intro (And.intro (And.intro (And.intro @T_1 @T_2) (And.intro @T_3 (And.intro @T_4 @T_5))) (And.intro (And.intro @T_9 (And.intro @T_12 @T_20)) (And.intro @T_21 (And.intro @T_22 @T_23)))) (And.intro (And.intro (And.intro @T_24 @T_25) (And.intro @T_26 (And.intro @T_27 @T_28))) (And.intro (And.intro @T_29 (And.intro @T_30 @T_31)) (And.intro @T_32 (And.intro @T_33 @T_34))))) (And.intro (And.intro (And.intro (And.intro @T_35 @T_37) (And.intro @T_38 (And.intro @T_39 @T_40))) (And.intro (And.intro @T_41 (And.intro @T_42 @T_43)) (And.intro @T_44 (And.intro @T_45 @T_46)))) (And.intro (And.intro (And.intro @T_48 @T_49) (And.intro @T_50 (And.intro @T_52 @T_53))) (And.intro (And.intro @T_59 (And.intro @T_63 @flat_30)) (And.intro @flat_31 (And.intro @flat_40 @flat_41)))))) := (And.intro (And.intro (And.intro (And.intro (And.intro @T_1 @T_2) (And.intro @T_3 (And.intro @T_4 @T_5))) (And.intro (And.intro @T_9 (And.intro @T_12 @T_20)) (And.intro @T_21 (And.intro @T_22 @T_23)))) (And.intro (And.intro (And.intro @T_24 @T_25) (And.intro @T_26 (And.intro @T_27 @T_28))) (And.intro (And.intro @T_29 (And.intro @T_30 @T_31)) (And.intro @T_32 (And.intro @T_33 @T_34))))) (And.intro (And.intro (And.intro (And.intro @T_35 @T_37) (And.intro @T_38 (And.intro @T_39 @T_40))) (And.intro (And.intro @T_41 (And.intro @T_42 @T_43)) (And.intro @T_44 (And.intro @T_45 @T_46)))) (And.intro (And.intro (And.intro @T_48 @T_49) (And.intro @T_50 (And.intro @T_52 @T_53))) (And.intro (And.intro @T_59 (And.intro @T_63 @flat_30)) (And.intro @flat_31 (And.intro @flat_40 @flat_41))))))

end Go.Proofs.Ytfjapffakihphaa.Sx
