/- The types of the translation, as a table (by program). No condition. -/
import Derived.Test.YthbojoiogjdbeaaProg
import Derived.Test.YthbojoiogjdbeaaSxFlat
namespace Go.Proofs.Ythbojoiogjdbeaa.Sx
open Go

def T : TypeId → Option TI
  | 1 => some ⟨.func, 1, 8, [.nilFunc]⟩
  | 2 => some ⟨.int .i64, 1, 8, [(.int .i64 0)]⟩
  | 3 => some ⟨.int .i64, 1, 8, [(.int .i64 0)]⟩
  | 4 => some ⟨.bool, 1, 1, [(.bool false)]⟩
  | 5 => some ⟨.int .u8, 1, 1, [(.int .u8 0)]⟩
  | 9 => some ⟨.str, 1, 16, [(.string ByteArray.empty)]⟩
  | 12 => some ⟨.int .u64, 1, 8, [(.int .u64 0)]⟩
  | 20 => some ⟨.iface, 1, 16, [.nilIface]⟩
  | 21 => some ⟨.int .i32, 1, 4, [(.int .i32 0)]⟩
  | 22 => some ⟨.func, 1, 8, [.nilFunc]⟩
  | 23 => some ⟨.array 6 5, 6, 6, [(.int .u8 0), (.int .u8 0), (.int .u8 0), (.int .u8 0), (.int .u8 0), (.int .u8 0)]⟩
  | 24 => some ⟨.array 6 5, 6, 6, [(.int .u8 0), (.int .u8 0), (.int .u8 0), (.int .u8 0), (.int .u8 0), (.int .u8 0)]⟩
  | 25 => some ⟨.slice 37, 1, 24, [(.slice none 0 0)]⟩
  | 26 => some ⟨.ptr, 1, 8, [(.pointer none)]⟩
  | 27 => some ⟨.func, 1, 8, [.nilFunc]⟩
  | 28 => some ⟨.ptr, 1, 8, [(.pointer none)]⟩
  | 29 => some ⟨.func, 1, 8, [.nilFunc]⟩
  | 30 => some ⟨.ptr, 1, 8, [(.pointer none)]⟩
  | 31 => some ⟨.func, 1, 8, [.nilFunc]⟩
  | 32 => some ⟨.slice 33, 1, 24, [(.slice none 0 0)]⟩
  | 33 => some ⟨.slice 5, 1, 24, [(.slice none 0 0)]⟩
  | 34 => some ⟨.struct [(0, 24), (6, 3), (7, 33)], 8, 40, [(.int .u8 0), (.int .u8 0), (.int .u8 0), (.int .u8 0), (.int .u8 0), (.int .u8 0), (.int .i64 0), (.slice none 0 0)]⟩
  | 35 => some ⟨.struct [(0, 24), (6, 3), (7, 33)], 8, 40, [(.int .u8 0), (.int .u8 0), (.int .u8 0), (.int .u8 0), (.int .u8 0), (.int .u8 0), (.int .i64 0), (.slice none 0 0)]⟩
  | 36 => some ⟨.struct [(0, 3), (1, 3), (2, 33), (3, 35)], 11, 80, [(.int .i64 0), (.int .i64 0), (.slice none 0 0), (.int .u8 0), (.int .u8 0), (.int .u8 0), (.int .u8 0), (.int .u8 0), (.int .u8 0), (.int .i64 0), (.slice none 0 0)]⟩
  | 37 => some ⟨.struct [(0, 3), (1, 3), (2, 33), (3, 35)], 11, 80, [(.int .i64 0), (.int .i64 0), (.slice none 0 0), (.int .u8 0), (.int .u8 0), (.int .u8 0), (.int .u8 0), (.int .u8 0), (.int .u8 0), (.int .i64 0), (.slice none 0 0)]⟩
  | 38 => some ⟨.func, 1, 8, [.nilFunc]⟩
  | 39 => some ⟨.struct [(0, 24), (6, 24), (12, 3), (13, 33)], 14, 48, [(.int .u8 0), (.int .u8 0), (.int .u8 0), (.int .u8 0), (.int .u8 0), (.int .u8 0), (.int .u8 0), (.int .u8 0), (.int .u8 0), (.int .u8 0), (.int .u8 0), (.int .u8 0), (.int .i64 0), (.slice none 0 0)]⟩
  | 40 => some ⟨.struct [(0, 24), (6, 24), (12, 3), (13, 33)], 14, 48, [(.int .u8 0), (.int .u8 0), (.int .u8 0), (.int .u8 0), (.int .u8 0), (.int .u8 0), (.int .u8 0), (.int .u8 0), (.int .u8 0), (.int .u8 0), (.int .u8 0), (.int .u8 0), (.int .i64 0), (.slice none 0 0)]⟩
  | 41 => some ⟨.int .i64, 1, 8, [(.int .i64 0)]⟩
  | 43 => some ⟨.func, 1, 8, [.nilFunc]⟩
  | 44 => some ⟨.func, 1, 8, [.nilFunc]⟩
  | 46 => some ⟨.func, 1, 8, [.nilFunc]⟩
  | 47 => some ⟨.slice 40, 1, 24, [(.slice none 0 0)]⟩
  | 48 => some ⟨.func, 1, 8, [.nilFunc]⟩
  | 50 => some ⟨.func, 1, 8, [.nilFunc]⟩
  | 51 => some ⟨.func, 1, 8, [.nilFunc]⟩
  | 52 => some ⟨.func, 1, 8, [.nilFunc]⟩
  | 53 => some ⟨.ptr, 1, 8, [(.pointer none)]⟩
  | 54 => some ⟨.ptr, 1, 8, [(.pointer none)]⟩
  | 55 => some ⟨.slice 9, 1, 24, [(.slice none 0 0)]⟩
  | 56 => some ⟨.struct [(0, 32), (1, 55)], 2, 48, [(.slice none 0 0), (.slice none 0 0)]⟩
  | 57 => some ⟨.struct [(0, 32), (1, 55)], 2, 48, [(.slice none 0 0), (.slice none 0 0)]⟩
  | 58 => some ⟨.ptr, 1, 8, [(.pointer none)]⟩
  | 59 => some ⟨.struct [(0, 26), (1, 28), (2, 30), (3, 58), (4, 54)], 5, 40, [(.pointer none), (.pointer none), (.pointer none), (.pointer none), (.pointer none)]⟩
  | 60 => some ⟨.struct [(0, 26), (1, 28), (2, 30), (3, 58), (4, 54)], 5, 40, [(.pointer none), (.pointer none), (.pointer none), (.pointer none), (.pointer none)]⟩
  | 61 => some ⟨.func, 1, 8, [.nilFunc]⟩
  | 62 => some ⟨.func, 1, 8, [.nilFunc]⟩
  | 63 => some ⟨.func, 1, 8, [.nilFunc]⟩
  | 64 => some ⟨.struct [(0, 3), (1, 3), (2, 3), (3, 3)], 4, 32, [(.int .i64 0), (.int .i64 0), (.int .i64 0), (.int .i64 0)]⟩
  | 65 => some ⟨.struct [(0, 3), (1, 3), (2, 3), (3, 3)], 4, 32, [(.int .i64 0), (.int .i64 0), (.int .i64 0), (.int .i64 0)]⟩
  | 66 => some ⟨.func, 1, 8, [.nilFunc]⟩
  | 67 => some ⟨.slice 76, 1, 24, [(.slice none 0 0)]⟩
  | 68 => some ⟨.struct [(0, 67), (1, 3)], 2, 32, [(.slice none 0 0), (.int .i64 0)]⟩
  | 69 => some ⟨.struct [(0, 67), (1, 3)], 2, 32, [(.slice none 0 0), (.int .i64 0)]⟩
  | 70 => some ⟨.struct [(0, 3), (1, 3), (2, 3)], 3, 24, [(.int .i64 0), (.int .i64 0), (.int .i64 0)]⟩
  | 71 => some ⟨.struct [(0, 3), (1, 3), (2, 3)], 3, 24, [(.int .i64 0), (.int .i64 0), (.int .i64 0)]⟩
  | 72 => some ⟨.struct [(0, 69), (2, 69), (4, 71)], 7, 88, [(.slice none 0 0), (.int .i64 0), (.slice none 0 0), (.int .i64 0), (.int .i64 0), (.int .i64 0), (.int .i64 0)]⟩
  | 73 => some ⟨.struct [(0, 69), (2, 69), (4, 71)], 7, 88, [(.slice none 0 0), (.int .i64 0), (.slice none 0 0), (.int .i64 0), (.int .i64 0), (.int .i64 0), (.int .i64 0)]⟩
  | 74 => some ⟨.array 1514 5, 1514, 1514, (List.replicate 1514 (.int .u8 0))⟩
  | 75 => some ⟨.struct [(0, 4), (1, 74), (1515, 3)], 1516, 1528, ([(.bool false)] ++ List.replicate 1514 (.int .u8 0) ++ [(.int .i64 0)])⟩
  | 76 => some ⟨.struct [(0, 4), (1, 74), (1515, 3)], 1516, 1528, ([(.bool false)] ++ List.replicate 1514 (.int .u8 0) ++ [(.int .i64 0)])⟩
  | 77 => some ⟨.struct [(0, 3), (1, 3), (2, 3), (3, 3)], 4, 32, [(.int .i64 0), (.int .i64 0), (.int .i64 0), (.int .i64 0)]⟩
  | 78 => some ⟨.struct [(0, 3), (1, 3), (2, 3), (3, 3)], 4, 32, [(.int .i64 0), (.int .i64 0), (.int .i64 0), (.int .i64 0)]⟩
  | 79 => some ⟨.struct [(0, 78), (4, 26), (5, 24), (11, 3), (12, 3)], 13, 64, [(.int .i64 0), (.int .i64 0), (.int .i64 0), (.int .i64 0), (.pointer none), (.int .u8 0), (.int .u8 0), (.int .u8 0), (.int .u8 0), (.int .u8 0), (.int .u8 0), (.int .i64 0), (.int .i64 0)]⟩
  | 80 => some ⟨.struct [(0, 78), (4, 26), (5, 24), (11, 3), (12, 3)], 13, 64, [(.int .i64 0), (.int .i64 0), (.int .i64 0), (.int .i64 0), (.pointer none), (.int .u8 0), (.int .u8 0), (.int .u8 0), (.int .u8 0), (.int .u8 0), (.int .u8 0), (.int .i64 0), (.int .i64 0)]⟩
  | 81 => some ⟨.slice 85, 1, 24, [(.slice none 0 0)]⟩
  | 82 => some ⟨.struct [(0, 81), (1, 81), (2, 3), (3, 3), (4, 71)], 7, 88, [(.slice none 0 0), (.slice none 0 0), (.int .i64 0), (.int .i64 0), (.int .i64 0), (.int .i64 0), (.int .i64 0)]⟩
  | 83 => some ⟨.struct [(0, 81), (1, 81), (2, 3), (3, 3), (4, 71)], 7, 88, [(.slice none 0 0), (.slice none 0 0), (.int .i64 0), (.int .i64 0), (.int .i64 0), (.int .i64 0), (.int .i64 0)]⟩
  | 84 => some ⟨.struct [(0, 4), (1, 33)], 2, 32, [(.bool false), (.slice none 0 0)]⟩
  | 85 => some ⟨.struct [(0, 4), (1, 33)], 2, 32, [(.bool false), (.slice none 0 0)]⟩
  | 86 => some ⟨.ptr, 1, 8, [(.pointer none)]⟩
  | 87 => some ⟨.func, 1, 8, [.nilFunc]⟩
  | 88 => some ⟨.func, 1, 8, [.nilFunc]⟩
  | 89 => some ⟨.func, 1, 8, [.nilFunc]⟩
  | 90 => some ⟨.func, 1, 8, [.nilFunc]⟩
  | 92 => some ⟨.func, 1, 8, [.nilFunc]⟩
  | 94 => some ⟨.func, 1, 8, [.nilFunc]⟩
  | 95 => some ⟨.func, 1, 8, [.nilFunc]⟩
  | 96 => some ⟨.func, 1, 8, [.nilFunc]⟩
  | 97 => some ⟨.func, 1, 8, [.nilFunc]⟩
  | 98 => some ⟨.int .u64, 1, 8, [(.int .u64 0)]⟩
  | 99 => some ⟨.struct [(0, 30), (1, 24), (7, 3), (8, 3), (9, 65)], 13, 64, [(.pointer none), (.int .u8 0), (.int .u8 0), (.int .u8 0), (.int .u8 0), (.int .u8 0), (.int .u8 0), (.int .i64 0), (.int .i64 0), (.int .i64 0), (.int .i64 0), (.int .i64 0), (.int .i64 0)]⟩
  | 100 => some ⟨.struct [(0, 30), (1, 24), (7, 3), (8, 3), (9, 65)], 13, 64, [(.pointer none), (.int .u8 0), (.int .u8 0), (.int .u8 0), (.int .u8 0), (.int .u8 0), (.int .u8 0), (.int .i64 0), (.int .i64 0), (.int .i64 0), (.int .i64 0), (.int .i64 0), (.int .i64 0)]⟩
  | 101 => some ⟨.func, 1, 8, [.nilFunc]⟩
  | 102 => some ⟨.func, 1, 8, [.nilFunc]⟩
  | 103 => some ⟨.func, 1, 8, [.nilFunc]⟩
  | 104 => some ⟨.func, 1, 8, [.nilFunc]⟩
  | 105 => some ⟨.func, 1, 8, [.nilFunc]⟩
  | 106 => some ⟨.ptr, 1, 8, [(.pointer none)]⟩
  | 108 => some ⟨.func, 1, 8, [.nilFunc]⟩
  | 109 => some ⟨.func, 1, 8, [.nilFunc]⟩
  | 110 => some ⟨.func, 1, 8, [.nilFunc]⟩
  | 111 => some ⟨.func, 1, 8, [.nilFunc]⟩
  | 112 => some ⟨.int .u64, 1, 8, [(.int .u64 0)]⟩
  | 113 => some ⟨.func, 1, 8, [.nilFunc]⟩
  | 119 => some ⟨.func, 1, 8, [.nilFunc]⟩
  | 120 => some ⟨.int .u32, 1, 4, [(.int .u32 0)]⟩
  | 124 => some ⟨.ptr, 1, 8, [(.pointer none)]⟩
  | _ => none

theorem T_1 : T 1 = some ⟨.func, 1, 8, [.nilFunc]⟩ := rfl
theorem T_2 : T 2 = some ⟨.int .i64, 1, 8, [(.int .i64 0)]⟩ := rfl
theorem T_3 : T 3 = some ⟨.int .i64, 1, 8, [(.int .i64 0)]⟩ := rfl
theorem T_4 : T 4 = some ⟨.bool, 1, 1, [(.bool false)]⟩ := rfl
theorem T_5 : T 5 = some ⟨.int .u8, 1, 1, [(.int .u8 0)]⟩ := rfl
theorem T_9 : T 9 = some ⟨.str, 1, 16, [(.string ByteArray.empty)]⟩ := rfl
theorem T_12 : T 12 = some ⟨.int .u64, 1, 8, [(.int .u64 0)]⟩ := rfl
theorem T_20 : T 20 = some ⟨.iface, 1, 16, [.nilIface]⟩ := rfl
theorem T_21 : T 21 = some ⟨.int .i32, 1, 4, [(.int .i32 0)]⟩ := rfl
theorem T_22 : T 22 = some ⟨.func, 1, 8, [.nilFunc]⟩ := rfl
theorem T_23 : T 23 = some ⟨.array 6 5, 6, 6, [(.int .u8 0), (.int .u8 0), (.int .u8 0), (.int .u8 0), (.int .u8 0), (.int .u8 0)]⟩ := rfl
theorem T_24 : T 24 = some ⟨.array 6 5, 6, 6, [(.int .u8 0), (.int .u8 0), (.int .u8 0), (.int .u8 0), (.int .u8 0), (.int .u8 0)]⟩ := rfl
theorem T_25 : T 25 = some ⟨.slice 37, 1, 24, [(.slice none 0 0)]⟩ := rfl
theorem T_26 : T 26 = some ⟨.ptr, 1, 8, [(.pointer none)]⟩ := rfl
theorem T_27 : T 27 = some ⟨.func, 1, 8, [.nilFunc]⟩ := rfl
theorem T_28 : T 28 = some ⟨.ptr, 1, 8, [(.pointer none)]⟩ := rfl
theorem T_29 : T 29 = some ⟨.func, 1, 8, [.nilFunc]⟩ := rfl
theorem T_30 : T 30 = some ⟨.ptr, 1, 8, [(.pointer none)]⟩ := rfl
theorem T_31 : T 31 = some ⟨.func, 1, 8, [.nilFunc]⟩ := rfl
theorem T_32 : T 32 = some ⟨.slice 33, 1, 24, [(.slice none 0 0)]⟩ := rfl
theorem T_33 : T 33 = some ⟨.slice 5, 1, 24, [(.slice none 0 0)]⟩ := rfl
theorem T_34 : T 34 = some ⟨.struct [(0, 24), (6, 3), (7, 33)], 8, 40, [(.int .u8 0), (.int .u8 0), (.int .u8 0), (.int .u8 0), (.int .u8 0), (.int .u8 0), (.int .i64 0), (.slice none 0 0)]⟩ := rfl
theorem T_35 : T 35 = some ⟨.struct [(0, 24), (6, 3), (7, 33)], 8, 40, [(.int .u8 0), (.int .u8 0), (.int .u8 0), (.int .u8 0), (.int .u8 0), (.int .u8 0), (.int .i64 0), (.slice none 0 0)]⟩ := rfl
theorem T_36 : T 36 = some ⟨.struct [(0, 3), (1, 3), (2, 33), (3, 35)], 11, 80, [(.int .i64 0), (.int .i64 0), (.slice none 0 0), (.int .u8 0), (.int .u8 0), (.int .u8 0), (.int .u8 0), (.int .u8 0), (.int .u8 0), (.int .i64 0), (.slice none 0 0)]⟩ := rfl
theorem T_37 : T 37 = some ⟨.struct [(0, 3), (1, 3), (2, 33), (3, 35)], 11, 80, [(.int .i64 0), (.int .i64 0), (.slice none 0 0), (.int .u8 0), (.int .u8 0), (.int .u8 0), (.int .u8 0), (.int .u8 0), (.int .u8 0), (.int .i64 0), (.slice none 0 0)]⟩ := rfl
theorem T_38 : T 38 = some ⟨.func, 1, 8, [.nilFunc]⟩ := rfl
theorem T_39 : T 39 = some ⟨.struct [(0, 24), (6, 24), (12, 3), (13, 33)], 14, 48, [(.int .u8 0), (.int .u8 0), (.int .u8 0), (.int .u8 0), (.int .u8 0), (.int .u8 0), (.int .u8 0), (.int .u8 0), (.int .u8 0), (.int .u8 0), (.int .u8 0), (.int .u8 0), (.int .i64 0), (.slice none 0 0)]⟩ := rfl
theorem T_40 : T 40 = some ⟨.struct [(0, 24), (6, 24), (12, 3), (13, 33)], 14, 48, [(.int .u8 0), (.int .u8 0), (.int .u8 0), (.int .u8 0), (.int .u8 0), (.int .u8 0), (.int .u8 0), (.int .u8 0), (.int .u8 0), (.int .u8 0), (.int .u8 0), (.int .u8 0), (.int .i64 0), (.slice none 0 0)]⟩ := rfl
theorem T_41 : T 41 = some ⟨.int .i64, 1, 8, [(.int .i64 0)]⟩ := rfl
theorem T_43 : T 43 = some ⟨.func, 1, 8, [.nilFunc]⟩ := rfl
theorem T_44 : T 44 = some ⟨.func, 1, 8, [.nilFunc]⟩ := rfl
theorem T_46 : T 46 = some ⟨.func, 1, 8, [.nilFunc]⟩ := rfl
theorem T_47 : T 47 = some ⟨.slice 40, 1, 24, [(.slice none 0 0)]⟩ := rfl
theorem T_48 : T 48 = some ⟨.func, 1, 8, [.nilFunc]⟩ := rfl
theorem T_50 : T 50 = some ⟨.func, 1, 8, [.nilFunc]⟩ := rfl
theorem T_51 : T 51 = some ⟨.func, 1, 8, [.nilFunc]⟩ := rfl
theorem T_52 : T 52 = some ⟨.func, 1, 8, [.nilFunc]⟩ := rfl
theorem T_53 : T 53 = some ⟨.ptr, 1, 8, [(.pointer none)]⟩ := rfl
theorem T_54 : T 54 = some ⟨.ptr, 1, 8, [(.pointer none)]⟩ := rfl
theorem T_55 : T 55 = some ⟨.slice 9, 1, 24, [(.slice none 0 0)]⟩ := rfl
theorem T_56 : T 56 = some ⟨.struct [(0, 32), (1, 55)], 2, 48, [(.slice none 0 0), (.slice none 0 0)]⟩ := rfl
theorem T_57 : T 57 = some ⟨.struct [(0, 32), (1, 55)], 2, 48, [(.slice none 0 0), (.slice none 0 0)]⟩ := rfl
theorem T_58 : T 58 = some ⟨.ptr, 1, 8, [(.pointer none)]⟩ := rfl
theorem T_59 : T 59 = some ⟨.struct [(0, 26), (1, 28), (2, 30), (3, 58), (4, 54)], 5, 40, [(.pointer none), (.pointer none), (.pointer none), (.pointer none), (.pointer none)]⟩ := rfl
theorem T_60 : T 60 = some ⟨.struct [(0, 26), (1, 28), (2, 30), (3, 58), (4, 54)], 5, 40, [(.pointer none), (.pointer none), (.pointer none), (.pointer none), (.pointer none)]⟩ := rfl
theorem T_61 : T 61 = some ⟨.func, 1, 8, [.nilFunc]⟩ := rfl
theorem T_62 : T 62 = some ⟨.func, 1, 8, [.nilFunc]⟩ := rfl
theorem T_63 : T 63 = some ⟨.func, 1, 8, [.nilFunc]⟩ := rfl
theorem T_64 : T 64 = some ⟨.struct [(0, 3), (1, 3), (2, 3), (3, 3)], 4, 32, [(.int .i64 0), (.int .i64 0), (.int .i64 0), (.int .i64 0)]⟩ := rfl
theorem T_65 : T 65 = some ⟨.struct [(0, 3), (1, 3), (2, 3), (3, 3)], 4, 32, [(.int .i64 0), (.int .i64 0), (.int .i64 0), (.int .i64 0)]⟩ := rfl
theorem T_66 : T 66 = some ⟨.func, 1, 8, [.nilFunc]⟩ := rfl
theorem T_67 : T 67 = some ⟨.slice 76, 1, 24, [(.slice none 0 0)]⟩ := rfl
theorem T_68 : T 68 = some ⟨.struct [(0, 67), (1, 3)], 2, 32, [(.slice none 0 0), (.int .i64 0)]⟩ := rfl
theorem T_69 : T 69 = some ⟨.struct [(0, 67), (1, 3)], 2, 32, [(.slice none 0 0), (.int .i64 0)]⟩ := rfl
theorem T_70 : T 70 = some ⟨.struct [(0, 3), (1, 3), (2, 3)], 3, 24, [(.int .i64 0), (.int .i64 0), (.int .i64 0)]⟩ := rfl
theorem T_71 : T 71 = some ⟨.struct [(0, 3), (1, 3), (2, 3)], 3, 24, [(.int .i64 0), (.int .i64 0), (.int .i64 0)]⟩ := rfl
theorem T_72 : T 72 = some ⟨.struct [(0, 69), (2, 69), (4, 71)], 7, 88, [(.slice none 0 0), (.int .i64 0), (.slice none 0 0), (.int .i64 0), (.int .i64 0), (.int .i64 0), (.int .i64 0)]⟩ := rfl
theorem T_73 : T 73 = some ⟨.struct [(0, 69), (2, 69), (4, 71)], 7, 88, [(.slice none 0 0), (.int .i64 0), (.slice none 0 0), (.int .i64 0), (.int .i64 0), (.int .i64 0), (.int .i64 0)]⟩ := rfl
theorem T_74 : T 74 = some ⟨.array 1514 5, 1514, 1514, (List.replicate 1514 (.int .u8 0))⟩ := rfl
theorem T_75 : T 75 = some ⟨.struct [(0, 4), (1, 74), (1515, 3)], 1516, 1528, ([(.bool false)] ++ List.replicate 1514 (.int .u8 0) ++ [(.int .i64 0)])⟩ := rfl
theorem T_76 : T 76 = some ⟨.struct [(0, 4), (1, 74), (1515, 3)], 1516, 1528, ([(.bool false)] ++ List.replicate 1514 (.int .u8 0) ++ [(.int .i64 0)])⟩ := rfl
theorem T_77 : T 77 = some ⟨.struct [(0, 3), (1, 3), (2, 3), (3, 3)], 4, 32, [(.int .i64 0), (.int .i64 0), (.int .i64 0), (.int .i64 0)]⟩ := rfl
theorem T_78 : T 78 = some ⟨.struct [(0, 3), (1, 3), (2, 3), (3, 3)], 4, 32, [(.int .i64 0), (.int .i64 0), (.int .i64 0), (.int .i64 0)]⟩ := rfl
theorem T_79 : T 79 = some ⟨.struct [(0, 78), (4, 26), (5, 24), (11, 3), (12, 3)], 13, 64, [(.int .i64 0), (.int .i64 0), (.int .i64 0), (.int .i64 0), (.pointer none), (.int .u8 0), (.int .u8 0), (.int .u8 0), (.int .u8 0), (.int .u8 0), (.int .u8 0), (.int .i64 0), (.int .i64 0)]⟩ := rfl
theorem T_80 : T 80 = some ⟨.struct [(0, 78), (4, 26), (5, 24), (11, 3), (12, 3)], 13, 64, [(.int .i64 0), (.int .i64 0), (.int .i64 0), (.int .i64 0), (.pointer none), (.int .u8 0), (.int .u8 0), (.int .u8 0), (.int .u8 0), (.int .u8 0), (.int .u8 0), (.int .i64 0), (.int .i64 0)]⟩ := rfl
theorem T_81 : T 81 = some ⟨.slice 85, 1, 24, [(.slice none 0 0)]⟩ := rfl
theorem T_82 : T 82 = some ⟨.struct [(0, 81), (1, 81), (2, 3), (3, 3), (4, 71)], 7, 88, [(.slice none 0 0), (.slice none 0 0), (.int .i64 0), (.int .i64 0), (.int .i64 0), (.int .i64 0), (.int .i64 0)]⟩ := rfl
theorem T_83 : T 83 = some ⟨.struct [(0, 81), (1, 81), (2, 3), (3, 3), (4, 71)], 7, 88, [(.slice none 0 0), (.slice none 0 0), (.int .i64 0), (.int .i64 0), (.int .i64 0), (.int .i64 0), (.int .i64 0)]⟩ := rfl
theorem T_84 : T 84 = some ⟨.struct [(0, 4), (1, 33)], 2, 32, [(.bool false), (.slice none 0 0)]⟩ := rfl
theorem T_85 : T 85 = some ⟨.struct [(0, 4), (1, 33)], 2, 32, [(.bool false), (.slice none 0 0)]⟩ := rfl
theorem T_86 : T 86 = some ⟨.ptr, 1, 8, [(.pointer none)]⟩ := rfl
theorem T_87 : T 87 = some ⟨.func, 1, 8, [.nilFunc]⟩ := rfl
theorem T_88 : T 88 = some ⟨.func, 1, 8, [.nilFunc]⟩ := rfl
theorem T_89 : T 89 = some ⟨.func, 1, 8, [.nilFunc]⟩ := rfl
theorem T_90 : T 90 = some ⟨.func, 1, 8, [.nilFunc]⟩ := rfl
theorem T_92 : T 92 = some ⟨.func, 1, 8, [.nilFunc]⟩ := rfl
theorem T_94 : T 94 = some ⟨.func, 1, 8, [.nilFunc]⟩ := rfl
theorem T_95 : T 95 = some ⟨.func, 1, 8, [.nilFunc]⟩ := rfl
theorem T_96 : T 96 = some ⟨.func, 1, 8, [.nilFunc]⟩ := rfl
theorem T_97 : T 97 = some ⟨.func, 1, 8, [.nilFunc]⟩ := rfl
theorem T_98 : T 98 = some ⟨.int .u64, 1, 8, [(.int .u64 0)]⟩ := rfl
theorem T_99 : T 99 = some ⟨.struct [(0, 30), (1, 24), (7, 3), (8, 3), (9, 65)], 13, 64, [(.pointer none), (.int .u8 0), (.int .u8 0), (.int .u8 0), (.int .u8 0), (.int .u8 0), (.int .u8 0), (.int .i64 0), (.int .i64 0), (.int .i64 0), (.int .i64 0), (.int .i64 0), (.int .i64 0)]⟩ := rfl
theorem T_100 : T 100 = some ⟨.struct [(0, 30), (1, 24), (7, 3), (8, 3), (9, 65)], 13, 64, [(.pointer none), (.int .u8 0), (.int .u8 0), (.int .u8 0), (.int .u8 0), (.int .u8 0), (.int .u8 0), (.int .i64 0), (.int .i64 0), (.int .i64 0), (.int .i64 0), (.int .i64 0), (.int .i64 0)]⟩ := rfl
theorem T_101 : T 101 = some ⟨.func, 1, 8, [.nilFunc]⟩ := rfl
theorem T_102 : T 102 = some ⟨.func, 1, 8, [.nilFunc]⟩ := rfl
theorem T_103 : T 103 = some ⟨.func, 1, 8, [.nilFunc]⟩ := rfl
theorem T_104 : T 104 = some ⟨.func, 1, 8, [.nilFunc]⟩ := rfl
theorem T_105 : T 105 = some ⟨.func, 1, 8, [.nilFunc]⟩ := rfl
theorem T_106 : T 106 = some ⟨.ptr, 1, 8, [(.pointer none)]⟩ := rfl
theorem T_108 : T 108 = some ⟨.func, 1, 8, [.nilFunc]⟩ := rfl
theorem T_109 : T 109 = some ⟨.func, 1, 8, [.nilFunc]⟩ := rfl
theorem T_110 : T 110 = some ⟨.func, 1, 8, [.nilFunc]⟩ := rfl
theorem T_111 : T 111 = some ⟨.func, 1, 8, [.nilFunc]⟩ := rfl
theorem T_112 : T 112 = some ⟨.int .u64, 1, 8, [(.int .u64 0)]⟩ := rfl
theorem T_113 : T 113 = some ⟨.func, 1, 8, [.nilFunc]⟩ := rfl
theorem T_119 : T 119 = some ⟨.func, 1, 8, [.nilFunc]⟩ := rfl
theorem T_120 : T 120 = some ⟨.int .u32, 1, 4, [(.int .u32 0)]⟩ := rfl
theorem T_124 : T 124 = some ⟨.ptr, 1, 8, [(.pointer none)]⟩ := rfl

def TL : List Nat := [1, 2, 3, 4, 5, 9, 12, 20, 21, 22, 23, 24, 25, 26, 27, 28, 29, 30, 31, 32, 33, 34, 35, 36, 37, 38, 39, 40, 41, 43, 44, 46, 47, 48, 50, 51, 52, 53, 54, 55, 56, 57, 58, 59, 60, 61, 62, 63, 64, 65, 66, 67, 68, 69, 70, 71, 72, 73, 74, 75, 76, 77, 78, 79, 80, 81, 82, 83, 84, 85, 86, 87, 88, 89, 90, 92, 94, 95, 96, 97, 98, 99, 100, 101, 102, 103, 104, 105, 106, 108, 109, 110, 111, 112, 113, 119, 120, 124]
theorem TL_chk : (TL.all fun t => match T t with | some ti => chkT Try.prog t ti | none => false) = true := by kernel_rfl
theorem T_mem : ∀ t ti, T t = some ti → t ∈ TL := by
  intro t ti h
  unfold T at h
  split at h <;> first | (simp [TL]; done) | (cases h)
theorem T_ok : TOk Try.prog T := fun t ti h => by
  have h1 := List.all_eq_true.1 TL_chk t (T_mem t ti h)
  rw [h] at h1
  exact chkT_ok h1

def FL : List Nat := [23, 24, 64, 65, 70, 71, 77, 78]
def flat : TypeId → Bool
  | 23 => true
  | 24 => true
  | 64 => true
  | 65 => true
  | 70 => true
  | 71 => true
  | 77 => true
  | 78 => true
  | _ => false
theorem flat_23 : flat 23 = true := rfl
theorem flat_24 : flat 24 = true := rfl
theorem flat_64 : flat 64 = true := rfl
theorem flat_65 : flat 65 = true := rfl
theorem flat_70 : flat 70 = true := rfl
theorem flat_71 : flat 71 = true := rfl
theorem flat_77 : flat 77 = true := rfl
theorem flat_78 : flat 78 = true := rfl
theorem FL_chk : (FL.all fun t => flatChk Try.prog T t) = true := by kernel_rfl
theorem flat_ok : ∀ t, flat t = true → flatChk Try.prog T t = true := by
  intro t h
  refine List.all_eq_true.1 FL_chk t ?_
  unfold flat at h
  split at h <;> first | (simp [FL]; done) | (cases h)

set_option maxRecDepth 20000
/-- All of them, for simp. -/
theorem TT : type_of% (And.intro (And.intro (And.intro (And.intro (And.intro (And.intro @T_1 (And.intro @T_2 @T_3)) (And.intro @T_4 (And.intro @T_5 @T_9))) (And.intro (And.intro @T_12 (And.intro @T_20 @T_21)) (And.intro (And.intro @T_22 @T_23) (And.intro @T_24 @T_25)))) (And.intro (And.intro (And.intro @T_26 (And.intro @T_27 @T_28)) (And.intro @T_29 (And.intro @T_30 @T_31))) (And.intro (And.intro @T_32 (And.intro @T_33 @T_34)) (And.intro (And.intro @T_35 @T_36) (And.intro @T_37 @T_38))))) (And.intro (And.intro (And.intro (And.intro @T_39 (And.intro @T_40 @T_41)) (And.intro @T_43 (And.intro @T_44 @T_46))) (And.intro (And.intro @T_47 (And.intro @T_48 @T_50)) (And.intro (And.intro @T_51 @T_52) (And.intro @T_53 @T_54)))) (And.intro (And.intro (And.intro @T_55 (And.intro @T_56 @T_57)) (And.intro (And.intro @T_58 @T_59) (And.intro @T_60 @T_61))) (And.intro (And.intro @T_62 (And.intro @T_63 @T_64)) (And.intro (And.intro @T_65 @T_66) (And.intro @T_67 @T_68)))))) (And.intro (And.intro (And.intro (And.intro (And.intro @T_69 (And.intro @T_70 @T_71)) (And.intro @T_72 (And.intro @T_73 @T_74))) (And.intro (And.intro @T_75 (And.intro @T_76 @T_77)) (And.intro (And.intro @T_78 @T_79) (And.intro @T_80 @T_81)))) (And.intro (And.intro (And.intro @T_82 (And.intro @T_83 @T_84)) (And.intro @T_85 (And.intro @T_86 @T_87))) (And.intro (And.intro @T_88 (And.intro @T_89 @T_90)) (And.intro (And.intro @T_92 @T_94) (And.intro @T_95 @T_96))))) (And.intro (And.intro (And.intro (And.intro @T_97 (And.intro @T_98 @T_99)) (And.intro @T_100 (And.intro @T_101 @T_102))) (And.intro (And.intro @T_103 (And.intro @T_104 @T_105)) (And.intro (And.intro @T_106 @T_108) (And.intro @T_109 @T_110)))) (And.intro (And.intro (And.intro @T_111 (And.intro @T_112 @T_113)) (And.intro (And.intro @T_119 @T_120) (And.intro @T_124 @flat_23))) (And.intro (And.intro @flat_24 (And.intro @flat_64 @flat_65)) (And.intro (And.intro @flat_70 @flat_71) (And.intro @flat_77 @flat_78))))))) := (And.intro (And.intro (And.intro (And.intro (And.intro (And.intro @T_1 (And.intro @T_2 @T_3)) (And.intro @T_4 (And.intro @T_5 @T_9))) (And.intro (And.intro @T_12 (And.intro @T_20 @T_21)) (And.intro (And.intro @T_22 @T_23) (And.intro @T_24 @T_25)))) (And.intro (And.intro (And.intro @T_26 (And.intro @T_27 @T_28)) (And.intro @T_29 (And.intro @T_30 @T_31))) (And.intro (And.intro @T_32 (And.intro @T_33 @T_34)) (And.intro (And.intro @T_35 @T_36) (And.intro @T_37 @T_38))))) (And.intro (And.intro (And.intro (And.intro @T_39 (And.intro @T_40 @T_41)) (And.intro @T_43 (And.intro @T_44 @T_46))) (And.intro (And.intro @T_47 (And.intro @T_48 @T_50)) (And.intro (And.intro @T_51 @T_52) (And.intro @T_53 @T_54)))) (And.intro (And.intro (And.intro @T_55 (And.intro @T_56 @T_57)) (And.intro (And.intro @T_58 @T_59) (And.intro @T_60 @T_61))) (And.intro (And.intro @T_62 (And.intro @T_63 @T_64)) (And.intro (And.intro @T_65 @T_66) (And.intro @T_67 @T_68)))))) (And.intro (And.intro (And.intro (And.intro (And.intro @T_69 (And.intro @T_70 @T_71)) (And.intro @T_72 (And.intro @T_73 @T_74))) (And.intro (And.intro @T_75 (And.intro @T_76 @T_77)) (And.intro (And.intro @T_78 @T_79) (And.intro @T_80 @T_81)))) (And.intro (And.intro (And.intro @T_82 (And.intro @T_83 @T_84)) (And.intro @T_85 (And.intro @T_86 @T_87))) (And.intro (And.intro @T_88 (And.intro @T_89 @T_90)) (And.intro (And.intro @T_92 @T_94) (And.intro @T_95 @T_96))))) (And.intro (And.intro (And.intro (And.intro @T_97 (And.intro @T_98 @T_99)) (And.intro @T_100 (And.intro @T_101 @T_102))) (And.intro (And.intro @T_103 (And.intro @T_104 @T_105)) (And.intro (And.intro @T_106 @T_108) (And.intro @T_109 @T_110)))) (And.intro (And.intro (And.intro @T_111 (And.intro @T_112 @T_113)) (And.intro (And.intro @T_119 @T_120) (And.intro @T_124 @flat_23))) (And.intro (And.intro @flat_24 (And.intro @flat_64 @flat_65)) (And.intro (And.intro @flat_70 @flat_71) (And.intro @flat_77 @flat_78)))))))

end Go.Proofs.Ythbojoiogjdbeaa.Sx
