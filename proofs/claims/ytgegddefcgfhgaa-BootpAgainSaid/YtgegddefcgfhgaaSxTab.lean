/- The types of the translation, as a table (by program). No condition. -/
import Derived.Test.YtgegddefcgfhgaaProg
import Derived.Test.YtgegddefcgfhgaaSxFlat
namespace Go.Proofs.Ytgegddefcgfhgaa.Sx
open Go

def T : TypeId → Option TI
  | 1 => some ⟨.func, 1, 8, [.nilFunc]⟩
  | 2 => some ⟨.int .i64, 1, 8, [(.int .i64 0)]⟩
  | 3 => some ⟨.int .i64, 1, 8, [(.int .i64 0)]⟩
  | 4 => some ⟨.bool, 1, 1, [(.bool false)]⟩
  | 5 => some ⟨.int .u8, 1, 1, [(.int .u8 0)]⟩
  | 9 => some ⟨.str, 1, 16, [(.string ByteArray.empty)]⟩
  | 12 => some ⟨.int .u64, 1, 8, [(.int .u64 0)]⟩
  | 20 => some ⟨.iface, 1, 16, [.nilIface]⟩
  | 21 => some ⟨.int .i32, 1, 4, [(.int .i32 0)]⟩
  | 22 => some ⟨.slice 5, 1, 24, [(.slice none 0 0)]⟩
  | 23 => some ⟨.func, 1, 8, [.nilFunc]⟩
  | 24 => some ⟨.int .u32, 1, 4, [(.int .u32 0)]⟩
  | 25 => some ⟨.array 6 5, 6, 6, [(.int .u8 0), (.int .u8 0), (.int .u8 0), (.int .u8 0), (.int .u8 0), (.int .u8 0)]⟩
  | 26 => some ⟨.array 6 5, 6, 6, [(.int .u8 0), (.int .u8 0), (.int .u8 0), (.int .u8 0), (.int .u8 0), (.int .u8 0)]⟩
  | 27 => some ⟨.slice 74, 1, 24, [(.slice none 0 0)]⟩
  | 28 => some ⟨.struct [(0, 3), (1, 3), (2, 24), (3, 3), (4, 4), (5, 24), (6, 24), (7, 24), (8, 24), (9, 26), (15, 9), (16, 9), (17, 27)], 18, 120, [(.int .i64 0), (.int .i64 0), (.int .u32 0), (.int .i64 0), (.bool false), (.int .u32 0), (.int .u32 0), (.int .u32 0), (.int .u32 0), (.int .u8 0), (.int .u8 0), (.int .u8 0), (.int .u8 0), (.int .u8 0), (.int .u8 0), (.string ByteArray.empty), (.string ByteArray.empty), (.slice none 0 0)]⟩
  | 29 => some ⟨.struct [(0, 3), (1, 3), (2, 24), (3, 3), (4, 4), (5, 24), (6, 24), (7, 24), (8, 24), (9, 26), (15, 9), (16, 9), (17, 27)], 18, 120, [(.int .i64 0), (.int .i64 0), (.int .u32 0), (.int .i64 0), (.bool false), (.int .u32 0), (.int .u32 0), (.int .u32 0), (.int .u32 0), (.int .u8 0), (.int .u8 0), (.int .u8 0), (.int .u8 0), (.int .u8 0), (.int .u8 0), (.string ByteArray.empty), (.string ByteArray.empty), (.slice none 0 0)]⟩
  | 30 => some ⟨.int .i64, 1, 8, [(.int .i64 0)]⟩
  | 32 => some ⟨.func, 1, 8, [.nilFunc]⟩
  | 33 => some ⟨.func, 1, 8, [.nilFunc]⟩
  | 35 => some ⟨.func, 1, 8, [.nilFunc]⟩
  | 36 => some ⟨.func, 1, 8, [.nilFunc]⟩
  | 37 => some ⟨.func, 1, 8, [.nilFunc]⟩
  | 38 => some ⟨.func, 1, 8, [.nilFunc]⟩
  | 39 => some ⟨.func, 1, 8, [.nilFunc]⟩
  | 40 => some ⟨.func, 1, 8, [.nilFunc]⟩
  | 41 => some ⟨.func, 1, 8, [.nilFunc]⟩
  | 42 => some ⟨.func, 1, 8, [.nilFunc]⟩
  | 43 => some ⟨.func, 1, 8, [.nilFunc]⟩
  | 44 => some ⟨.func, 1, 8, [.nilFunc]⟩
  | 45 => some ⟨.func, 1, 8, [.nilFunc]⟩
  | 46 => some ⟨.func, 1, 8, [.nilFunc]⟩
  | 47 => some ⟨.ptr, 1, 8, [(.pointer none)]⟩
  | 48 => some ⟨.slice 22, 1, 24, [(.slice none 0 0)]⟩
  | 49 => some ⟨.slice 9, 1, 24, [(.slice none 0 0)]⟩
  | 50 => some ⟨.struct [(0, 48), (1, 49)], 2, 48, [(.slice none 0 0), (.slice none 0 0)]⟩
  | 51 => some ⟨.struct [(0, 48), (1, 49)], 2, 48, [(.slice none 0 0), (.slice none 0 0)]⟩
  | 52 => some ⟨.func, 1, 8, [.nilFunc]⟩
  | 53 => some ⟨.func, 1, 8, [.nilFunc]⟩
  | 54 => some ⟨.func, 1, 8, [.nilFunc]⟩
  | 55 => some ⟨.func, 1, 8, [.nilFunc]⟩
  | 56 => some ⟨.func, 1, 8, [.nilFunc]⟩
  | 58 => some ⟨.func, 1, 8, [.nilFunc]⟩
  | 60 => some ⟨.func, 1, 8, [.nilFunc]⟩
  | 61 => some ⟨.slice 66, 1, 24, [(.slice none 0 0)]⟩
  | 62 => some ⟨.func, 1, 8, [.nilFunc]⟩
  | 63 => some ⟨.func, 1, 8, [.nilFunc]⟩
  | 64 => some ⟨.func, 1, 8, [.nilFunc]⟩
  | 65 => some ⟨.struct [(0, 3), (1, 3), (2, 63), (3, 64)], 4, 32, [(.int .i64 0), (.int .i64 0), .nilFunc, .nilFunc]⟩
  | 66 => some ⟨.struct [(0, 3), (1, 3), (2, 63), (3, 64)], 4, 32, [(.int .i64 0), (.int .i64 0), .nilFunc, .nilFunc]⟩
  | 67 => some ⟨.int .u64, 1, 8, [(.int .u64 0)]⟩
  | 69 => some ⟨.func, 1, 8, [.nilFunc]⟩
  | 70 => some ⟨.ptr, 1, 8, [(.pointer none)]⟩
  | 71 => some ⟨.func, 1, 8, [.nilFunc]⟩
  | 72 => some ⟨.func, 1, 8, [.nilFunc]⟩
  | 73 => some ⟨.struct [(0, 3), (1, 22)], 2, 32, [(.int .i64 0), (.slice none 0 0)]⟩
  | 74 => some ⟨.struct [(0, 3), (1, 22)], 2, 32, [(.int .i64 0), (.slice none 0 0)]⟩
  | 75 => some ⟨.func, 1, 8, [.nilFunc]⟩
  | 76 => some ⟨.func, 1, 8, [.nilFunc]⟩
  | 77 => some ⟨.func, 1, 8, [.nilFunc]⟩
  | 78 => some ⟨.slice 4, 1, 24, [(.slice none 0 0)]⟩
  | 79 => some ⟨.func, 1, 8, [.nilFunc]⟩
  | 80 => some ⟨.func, 1, 8, [.nilFunc]⟩
  | 81 => some ⟨.func, 1, 8, [.nilFunc]⟩
  | 82 => some ⟨.func, 1, 8, [.nilFunc]⟩
  | 84 => some ⟨.func, 1, 8, [.nilFunc]⟩
  | 85 => some ⟨.func, 1, 8, [.nilFunc]⟩
  | 86 => some ⟨.func, 1, 8, [.nilFunc]⟩
  | 87 => some ⟨.func, 1, 8, [.nilFunc]⟩
  | 88 => some ⟨.func, 1, 8, [.nilFunc]⟩
  | 89 => some ⟨.func, 1, 8, [.nilFunc]⟩
  | 90 => some ⟨.func, 1, 8, [.nilFunc]⟩
  | 91 => some ⟨.func, 1, 8, [.nilFunc]⟩
  | 92 => some ⟨.func, 1, 8, [.nilFunc]⟩
  | 93 => some ⟨.ptr, 1, 8, [(.pointer none)]⟩
  | 94 => some ⟨.func, 1, 8, [.nilFunc]⟩
  | 95 => some ⟨.func, 1, 8, [.nilFunc]⟩
  | 96 => some ⟨.ptr, 1, 8, [(.pointer none)]⟩
  | 97 => some ⟨.func, 1, 8, [.nilFunc]⟩
  | 98 => some ⟨.int .u64, 1, 8, [(.int .u64 0)]⟩
  | 100 => some ⟨.func, 1, 8, [.nilFunc]⟩
  | 101 => some ⟨.func, 1, 8, [.nilFunc]⟩
  | 102 => some ⟨.func, 1, 8, [.nilFunc]⟩
  | 103 => some ⟨.array 255 4, 255, 255, (List.replicate 255 (.bool false))⟩
  | 104 => some ⟨.func, 1, 8, [.nilFunc]⟩
  | 105 => some ⟨.func, 1, 8, [.nilFunc]⟩
  | 106 => some ⟨.func, 1, 8, [.nilFunc]⟩
  | 107 => some ⟨.func, 1, 8, [.nilFunc]⟩
  | 108 => some ⟨.func, 1, 8, [.nilFunc]⟩
  | 109 => some ⟨.func, 1, 8, [.nilFunc]⟩
  | 110 => some ⟨.func, 1, 8, [.nilFunc]⟩
  | 111 => some ⟨.func, 1, 8, [.nilFunc]⟩
  | 112 => some ⟨.func, 1, 8, [.nilFunc]⟩
  | 114 => some ⟨.func, 1, 8, [.nilFunc]⟩
  | 115 => some ⟨.func, 1, 8, [.nilFunc]⟩
  | 116 => some ⟨.func, 1, 8, [.nilFunc]⟩
  | 117 => some ⟨.func, 1, 8, [.nilFunc]⟩
  | 123 => some ⟨.func, 1, 8, [.nilFunc]⟩
  | 127 => some ⟨.ptr, 1, 8, [(.pointer none)]⟩
  | _ => none

theorem T_1 : T 1 = some ⟨.func, 1, 8, [.nilFunc]⟩ := rfl
theorem T_2 : T 2 = some ⟨.int .i64, 1, 8, [(.int .i64 0)]⟩ := rfl
theorem T_3 : T 3 = some ⟨.int .i64, 1, 8, [(.int .i64 0)]⟩ := rfl
theorem T_4 : T 4 = some ⟨.bool, 1, 1, [(.bool false)]⟩ := rfl
theorem T_5 : T 5 = some ⟨.int .u8, 1, 1, [(.int .u8 0)]⟩ := rfl
theorem T_9 : T 9 = some ⟨.str, 1, 16, [(.string ByteArray.empty)]⟩ := rfl
theorem T_12 : T 12 = some ⟨.int .u64, 1, 8, [(.int .u64 0)]⟩ := rfl
theorem T_20 : T 20 = some ⟨.iface, 1, 16, [.nilIface]⟩ := rfl
theorem T_21 : T 21 = some ⟨.int .i32, 1, 4, [(.int .i32 0)]⟩ := rfl
theorem T_22 : T 22 = some ⟨.slice 5, 1, 24, [(.slice none 0 0)]⟩ := rfl
theorem T_23 : T 23 = some ⟨.func, 1, 8, [.nilFunc]⟩ := rfl
theorem T_24 : T 24 = some ⟨.int .u32, 1, 4, [(.int .u32 0)]⟩ := rfl
theorem T_25 : T 25 = some ⟨.array 6 5, 6, 6, [(.int .u8 0), (.int .u8 0), (.int .u8 0), (.int .u8 0), (.int .u8 0), (.int .u8 0)]⟩ := rfl
theorem T_26 : T 26 = some ⟨.array 6 5, 6, 6, [(.int .u8 0), (.int .u8 0), (.int .u8 0), (.int .u8 0), (.int .u8 0), (.int .u8 0)]⟩ := rfl
theorem T_27 : T 27 = some ⟨.slice 74, 1, 24, [(.slice none 0 0)]⟩ := rfl
theorem T_28 : T 28 = some ⟨.struct [(0, 3), (1, 3), (2, 24), (3, 3), (4, 4), (5, 24), (6, 24), (7, 24), (8, 24), (9, 26), (15, 9), (16, 9), (17, 27)], 18, 120, [(.int .i64 0), (.int .i64 0), (.int .u32 0), (.int .i64 0), (.bool false), (.int .u32 0), (.int .u32 0), (.int .u32 0), (.int .u32 0), (.int .u8 0), (.int .u8 0), (.int .u8 0), (.int .u8 0), (.int .u8 0), (.int .u8 0), (.string ByteArray.empty), (.string ByteArray.empty), (.slice none 0 0)]⟩ := rfl
theorem T_29 : T 29 = some ⟨.struct [(0, 3), (1, 3), (2, 24), (3, 3), (4, 4), (5, 24), (6, 24), (7, 24), (8, 24), (9, 26), (15, 9), (16, 9), (17, 27)], 18, 120, [(.int .i64 0), (.int .i64 0), (.int .u32 0), (.int .i64 0), (.bool false), (.int .u32 0), (.int .u32 0), (.int .u32 0), (.int .u32 0), (.int .u8 0), (.int .u8 0), (.int .u8 0), (.int .u8 0), (.int .u8 0), (.int .u8 0), (.string ByteArray.empty), (.string ByteArray.empty), (.slice none 0 0)]⟩ := rfl
theorem T_30 : T 30 = some ⟨.int .i64, 1, 8, [(.int .i64 0)]⟩ := rfl
theorem T_32 : T 32 = some ⟨.func, 1, 8, [.nilFunc]⟩ := rfl
theorem T_33 : T 33 = some ⟨.func, 1, 8, [.nilFunc]⟩ := rfl
theorem T_35 : T 35 = some ⟨.func, 1, 8, [.nilFunc]⟩ := rfl
theorem T_36 : T 36 = some ⟨.func, 1, 8, [.nilFunc]⟩ := rfl
theorem T_37 : T 37 = some ⟨.func, 1, 8, [.nilFunc]⟩ := rfl
theorem T_38 : T 38 = some ⟨.func, 1, 8, [.nilFunc]⟩ := rfl
theorem T_39 : T 39 = some ⟨.func, 1, 8, [.nilFunc]⟩ := rfl
theorem T_40 : T 40 = some ⟨.func, 1, 8, [.nilFunc]⟩ := rfl
theorem T_41 : T 41 = some ⟨.func, 1, 8, [.nilFunc]⟩ := rfl
theorem T_42 : T 42 = some ⟨.func, 1, 8, [.nilFunc]⟩ := rfl
theorem T_43 : T 43 = some ⟨.func, 1, 8, [.nilFunc]⟩ := rfl
theorem T_44 : T 44 = some ⟨.func, 1, 8, [.nilFunc]⟩ := rfl
theorem T_45 : T 45 = some ⟨.func, 1, 8, [.nilFunc]⟩ := rfl
theorem T_46 : T 46 = some ⟨.func, 1, 8, [.nilFunc]⟩ := rfl
theorem T_47 : T 47 = some ⟨.ptr, 1, 8, [(.pointer none)]⟩ := rfl
theorem T_48 : T 48 = some ⟨.slice 22, 1, 24, [(.slice none 0 0)]⟩ := rfl
theorem T_49 : T 49 = some ⟨.slice 9, 1, 24, [(.slice none 0 0)]⟩ := rfl
theorem T_50 : T 50 = some ⟨.struct [(0, 48), (1, 49)], 2, 48, [(.slice none 0 0), (.slice none 0 0)]⟩ := rfl
theorem T_51 : T 51 = some ⟨.struct [(0, 48), (1, 49)], 2, 48, [(.slice none 0 0), (.slice none 0 0)]⟩ := rfl
theorem T_52 : T 52 = some ⟨.func, 1, 8, [.nilFunc]⟩ := rfl
theorem T_53 : T 53 = some ⟨.func, 1, 8, [.nilFunc]⟩ := rfl
theorem T_54 : T 54 = some ⟨.func, 1, 8, [.nilFunc]⟩ := rfl
theorem T_55 : T 55 = some ⟨.func, 1, 8, [.nilFunc]⟩ := rfl
theorem T_56 : T 56 = some ⟨.func, 1, 8, [.nilFunc]⟩ := rfl
theorem T_58 : T 58 = some ⟨.func, 1, 8, [.nilFunc]⟩ := rfl
theorem T_60 : T 60 = some ⟨.func, 1, 8, [.nilFunc]⟩ := rfl
theorem T_61 : T 61 = some ⟨.slice 66, 1, 24, [(.slice none 0 0)]⟩ := rfl
theorem T_62 : T 62 = some ⟨.func, 1, 8, [.nilFunc]⟩ := rfl
theorem T_63 : T 63 = some ⟨.func, 1, 8, [.nilFunc]⟩ := rfl
theorem T_64 : T 64 = some ⟨.func, 1, 8, [.nilFunc]⟩ := rfl
theorem T_65 : T 65 = some ⟨.struct [(0, 3), (1, 3), (2, 63), (3, 64)], 4, 32, [(.int .i64 0), (.int .i64 0), .nilFunc, .nilFunc]⟩ := rfl
theorem T_66 : T 66 = some ⟨.struct [(0, 3), (1, 3), (2, 63), (3, 64)], 4, 32, [(.int .i64 0), (.int .i64 0), .nilFunc, .nilFunc]⟩ := rfl
theorem T_67 : T 67 = some ⟨.int .u64, 1, 8, [(.int .u64 0)]⟩ := rfl
theorem T_69 : T 69 = some ⟨.func, 1, 8, [.nilFunc]⟩ := rfl
theorem T_70 : T 70 = some ⟨.ptr, 1, 8, [(.pointer none)]⟩ := rfl
theorem T_71 : T 71 = some ⟨.func, 1, 8, [.nilFunc]⟩ := rfl
theorem T_72 : T 72 = some ⟨.func, 1, 8, [.nilFunc]⟩ := rfl
theorem T_73 : T 73 = some ⟨.struct [(0, 3), (1, 22)], 2, 32, [(.int .i64 0), (.slice none 0 0)]⟩ := rfl
theorem T_74 : T 74 = some ⟨.struct [(0, 3), (1, 22)], 2, 32, [(.int .i64 0), (.slice none 0 0)]⟩ := rfl
theorem T_75 : T 75 = some ⟨.func, 1, 8, [.nilFunc]⟩ := rfl
theorem T_76 : T 76 = some ⟨.func, 1, 8, [.nilFunc]⟩ := rfl
theorem T_77 : T 77 = some ⟨.func, 1, 8, [.nilFunc]⟩ := rfl
theorem T_78 : T 78 = some ⟨.slice 4, 1, 24, [(.slice none 0 0)]⟩ := rfl
theorem T_79 : T 79 = some ⟨.func, 1, 8, [.nilFunc]⟩ := rfl
theorem T_80 : T 80 = some ⟨.func, 1, 8, [.nilFunc]⟩ := rfl
theorem T_81 : T 81 = some ⟨.func, 1, 8, [.nilFunc]⟩ := rfl
theorem T_82 : T 82 = some ⟨.func, 1, 8, [.nilFunc]⟩ := rfl
theorem T_84 : T 84 = some ⟨.func, 1, 8, [.nilFunc]⟩ := rfl
theorem T_85 : T 85 = some ⟨.func, 1, 8, [.nilFunc]⟩ := rfl
theorem T_86 : T 86 = some ⟨.func, 1, 8, [.nilFunc]⟩ := rfl
theorem T_87 : T 87 = some ⟨.func, 1, 8, [.nilFunc]⟩ := rfl
theorem T_88 : T 88 = some ⟨.func, 1, 8, [.nilFunc]⟩ := rfl
theorem T_89 : T 89 = some ⟨.func, 1, 8, [.nilFunc]⟩ := rfl
theorem T_90 : T 90 = some ⟨.func, 1, 8, [.nilFunc]⟩ := rfl
theorem T_91 : T 91 = some ⟨.func, 1, 8, [.nilFunc]⟩ := rfl
theorem T_92 : T 92 = some ⟨.func, 1, 8, [.nilFunc]⟩ := rfl
theorem T_93 : T 93 = some ⟨.ptr, 1, 8, [(.pointer none)]⟩ := rfl
theorem T_94 : T 94 = some ⟨.func, 1, 8, [.nilFunc]⟩ := rfl
theorem T_95 : T 95 = some ⟨.func, 1, 8, [.nilFunc]⟩ := rfl
theorem T_96 : T 96 = some ⟨.ptr, 1, 8, [(.pointer none)]⟩ := rfl
theorem T_97 : T 97 = some ⟨.func, 1, 8, [.nilFunc]⟩ := rfl
theorem T_98 : T 98 = some ⟨.int .u64, 1, 8, [(.int .u64 0)]⟩ := rfl
theorem T_100 : T 100 = some ⟨.func, 1, 8, [.nilFunc]⟩ := rfl
theorem T_101 : T 101 = some ⟨.func, 1, 8, [.nilFunc]⟩ := rfl
theorem T_102 : T 102 = some ⟨.func, 1, 8, [.nilFunc]⟩ := rfl
theorem T_103 : T 103 = some ⟨.array 255 4, 255, 255, (List.replicate 255 (.bool false))⟩ := rfl
theorem T_104 : T 104 = some ⟨.func, 1, 8, [.nilFunc]⟩ := rfl
theorem T_105 : T 105 = some ⟨.func, 1, 8, [.nilFunc]⟩ := rfl
theorem T_106 : T 106 = some ⟨.func, 1, 8, [.nilFunc]⟩ := rfl
theorem T_107 : T 107 = some ⟨.func, 1, 8, [.nilFunc]⟩ := rfl
theorem T_108 : T 108 = some ⟨.func, 1, 8, [.nilFunc]⟩ := rfl
theorem T_109 : T 109 = some ⟨.func, 1, 8, [.nilFunc]⟩ := rfl
theorem T_110 : T 110 = some ⟨.func, 1, 8, [.nilFunc]⟩ := rfl
theorem T_111 : T 111 = some ⟨.func, 1, 8, [.nilFunc]⟩ := rfl
theorem T_112 : T 112 = some ⟨.func, 1, 8, [.nilFunc]⟩ := rfl
theorem T_114 : T 114 = some ⟨.func, 1, 8, [.nilFunc]⟩ := rfl
theorem T_115 : T 115 = some ⟨.func, 1, 8, [.nilFunc]⟩ := rfl
theorem T_116 : T 116 = some ⟨.func, 1, 8, [.nilFunc]⟩ := rfl
theorem T_117 : T 117 = some ⟨.func, 1, 8, [.nilFunc]⟩ := rfl
theorem T_123 : T 123 = some ⟨.func, 1, 8, [.nilFunc]⟩ := rfl
theorem T_127 : T 127 = some ⟨.ptr, 1, 8, [(.pointer none)]⟩ := rfl

def TL : List Nat := [1, 2, 3, 4, 5, 9, 12, 20, 21, 22, 23, 24, 25, 26, 27, 28, 29, 30, 32, 33, 35, 36, 37, 38, 39, 40, 41, 42, 43, 44, 45, 46, 47, 48, 49, 50, 51, 52, 53, 54, 55, 56, 58, 60, 61, 62, 63, 64, 65, 66, 67, 69, 70, 71, 72, 73, 74, 75, 76, 77, 78, 79, 80, 81, 82, 84, 85, 86, 87, 88, 89, 90, 91, 92, 93, 94, 95, 96, 97, 98, 100, 101, 102, 103, 104, 105, 106, 107, 108, 109, 110, 111, 112, 114, 115, 116, 117, 123, 127]
theorem TL_chk : (TL.all fun t => match T t with | some ti => chkT Try.prog t ti | none => false) = true := by kernel_rfl
theorem T_mem : ∀ t ti, T t = some ti → t ∈ TL := by
  intro t ti h
  unfold T at h
  split at h <;> first | (simp [TL]; done) | (cases h)
theorem T_ok : TOk Try.prog T := fun t ti h => by
  have h1 := List.all_eq_true.1 TL_chk t (T_mem t ti h)
  rw [h] at h1
  exact chkT_ok h1

def FL : List Nat := [25, 26]
def flat : TypeId → Bool
  | 25 => true
  | 26 => true
  | _ => false
theorem flat_25 : flat 25 = true := rfl
theorem flat_26 : flat 26 = true := rfl
theorem FL_chk : (FL.all fun t => flatChk Try.prog T t) = true := by kernel_rfl
theorem flat_ok : ∀ t, flat t = true → flatChk Try.prog T t = true := by
  intro t h
  refine List.all_eq_true.1 FL_chk t ?_
  unfold flat at h
  split at h <;> first | (simp [FL]; done) | (cases h)

set_option maxRecDepth 20000
/-- All of them, for simp. -/
theorem TT : type_of% (And.intro (And.intro (And.intro (And.intro (And.intro (And.intro @T_1 (And.intro @T_2 @T_3)) (And.intro @T_4 (And.intro @T_5 @T_9))) (And.intro (And.intro @T_12 (And.intro @T_20 @T_21)) (And.intro @T_22 (And.intro @T_23 @T_24)))) (And.intro (And.intro (And.intro @T_25 (And.intro @T_26 @T_27)) (And.intro @T_28 (And.intro @T_29 @T_30))) (And.intro (And.intro @T_32 (And.intro @T_33 @T_35)) (And.intro (And.intro @T_36 @T_37) (And.intro @T_38 @T_39))))) (And.intro (And.intro (And.intro (And.intro @T_40 (And.intro @T_41 @T_42)) (And.intro @T_43 (And.intro @T_44 @T_45))) (And.intro (And.intro @T_46 (And.intro @T_47 @T_48)) (And.intro @T_49 (And.intro @T_50 @T_51)))) (And.intro (And.intro (And.intro @T_52 (And.intro @T_53 @T_54)) (And.intro @T_55 (And.intro @T_56 @T_58))) (And.intro (And.intro @T_60 (And.intro @T_61 @T_62)) (And.intro (And.intro @T_63 @T_64) (And.intro @T_65 @T_66)))))) (And.intro (And.intro (And.intro (And.intro (And.intro @T_67 (And.intro @T_69 @T_70)) (And.intro @T_71 (And.intro @T_72 @T_73))) (And.intro (And.intro @T_74 (And.intro @T_75 @T_76)) (And.intro @T_77 (And.intro @T_78 @T_79)))) (And.intro (And.intro (And.intro @T_80 (And.intro @T_81 @T_82)) (And.intro @T_84 (And.intro @T_85 @T_86))) (And.intro (And.intro @T_87 (And.intro @T_88 @T_89)) (And.intro (And.intro @T_90 @T_91) (And.intro @T_92 @T_93))))) (And.intro (And.intro (And.intro (And.intro @T_94 (And.intro @T_95 @T_96)) (And.intro @T_97 (And.intro @T_98 @T_100))) (And.intro (And.intro @T_101 (And.intro @T_102 @T_103)) (And.intro (And.intro @T_104 @T_105) (And.intro @T_106 @T_107)))) (And.intro (And.intro (And.intro @T_108 (And.intro @T_109 @T_110)) (And.intro @T_111 (And.intro @T_112 @T_114))) (And.intro (And.intro @T_115 (And.intro @T_116 @T_117)) (And.intro (And.intro @T_123 @T_127) (And.intro @flat_25 @flat_26))))))) := (And.intro (And.intro (And.intro (And.intro (And.intro (And.intro @T_1 (And.intro @T_2 @T_3)) (And.intro @T_4 (And.intro @T_5 @T_9))) (And.intro (And.intro @T_12 (And.intro @T_20 @T_21)) (And.intro @T_22 (And.intro @T_23 @T_24)))) (And.intro (And.intro (And.intro @T_25 (And.intro @T_26 @T_27)) (And.intro @T_28 (And.intro @T_29 @T_30))) (And.intro (And.intro @T_32 (And.intro @T_33 @T_35)) (And.intro (And.intro @T_36 @T_37) (And.intro @T_38 @T_39))))) (And.intro (And.intro (And.intro (And.intro @T_40 (And.intro @T_41 @T_42)) (And.intro @T_43 (And.intro @T_44 @T_45))) (And.intro (And.intro @T_46 (And.intro @T_47 @T_48)) (And.intro @T_49 (And.intro @T_50 @T_51)))) (And.intro (And.intro (And.intro @T_52 (And.intro @T_53 @T_54)) (And.intro @T_55 (And.intro @T_56 @T_58))) (And.intro (And.intro @T_60 (And.intro @T_61 @T_62)) (And.intro (And.intro @T_63 @T_64) (And.intro @T_65 @T_66)))))) (And.intro (And.intro (And.intro (And.intro (And.intro @T_67 (And.intro @T_69 @T_70)) (And.intro @T_71 (And.intro @T_72 @T_73))) (And.intro (And.intro @T_74 (And.intro @T_75 @T_76)) (And.intro @T_77 (And.intro @T_78 @T_79)))) (And.intro (And.intro (And.intro @T_80 (And.intro @T_81 @T_82)) (And.intro @T_84 (And.intro @T_85 @T_86))) (And.intro (And.intro @T_87 (And.intro @T_88 @T_89)) (And.intro (And.intro @T_90 @T_91) (And.intro @T_92 @T_93))))) (And.intro (And.intro (And.intro (And.intro @T_94 (And.intro @T_95 @T_96)) (And.intro @T_97 (And.intro @T_98 @T_100))) (And.intro (And.intro @T_101 (And.intro @T_102 @T_103)) (And.intro (And.intro @T_104 @T_105) (And.intro @T_106 @T_107)))) (And.intro (And.intro (And.intro @T_108 (And.intro @T_109 @T_110)) (And.intro @T_111 (And.intro @T_112 @T_114))) (And.intro (And.intro @T_115 (And.intro @T_116 @T_117)) (And.intro (And.intro @T_123 @T_127) (And.intro @flat_25 @flat_26)))))))

end Go.Proofs.Ytgegddefcgfhgaa.Sx
