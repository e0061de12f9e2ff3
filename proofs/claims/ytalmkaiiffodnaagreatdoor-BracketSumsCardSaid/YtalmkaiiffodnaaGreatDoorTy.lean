/- The types of the translation: kinds, sizes, bytes, zero values; made by a program of the author (gentypes.py), each fact checked by the kernel. -/
import Derived.Test.YtalmkaiiffodnaaGreatDoorGc
import Derived.Test.YtalmkaiiffodnaaGreatDoorRows
namespace Go.Proofs.YtalmkaiiffodnaaGreatDoor
open Go
theorem tk_2 : tk Tryz.prog 2 = .int .i64 := by kernel_rfl
theorem tsz_2 : tsz Tryz.prog 2 = some 1 := by kernel_rfl
theorem tby_2 : tby Tryz.prog 2 = some 8 := by kernel_rfl
theorem tzv_2 : tzv Tryz.prog 2 = some (.int .i64 0) := by kernel_rfl
theorem tze_2 : tze Tryz.prog 2 = some [.int .i64 0] := by kernel_rfl
theorem tk_3 : tk Tryz.prog 3 = .int .i64 := by kernel_rfl
theorem tsz_3 : tsz Tryz.prog 3 = some 1 := by kernel_rfl
theorem tby_3 : tby Tryz.prog 3 = some 8 := by kernel_rfl
theorem tzv_3 : tzv Tryz.prog 3 = some (.int .i64 0) := by kernel_rfl
theorem tze_3 : tze Tryz.prog 3 = some [.int .i64 0] := by kernel_rfl
theorem tk_4 : tk Tryz.prog 4 = .bool := by kernel_rfl
theorem tsz_4 : tsz Tryz.prog 4 = some 1 := by kernel_rfl
theorem tby_4 : tby Tryz.prog 4 = some 1 := by kernel_rfl
theorem tzv_4 : tzv Tryz.prog 4 = some (.bool false) := by kernel_rfl
theorem tze_4 : tze Tryz.prog 4 = some [.bool false] := by kernel_rfl
theorem tk_5 : tk Tryz.prog 5 = .int .u8 := by kernel_rfl
theorem tsz_5 : tsz Tryz.prog 5 = some 1 := by kernel_rfl
theorem tby_5 : tby Tryz.prog 5 = some 1 := by kernel_rfl
theorem tzv_5 : tzv Tryz.prog 5 = some (.int .u8 0) := by kernel_rfl
theorem tze_5 : tze Tryz.prog 5 = some [.int .u8 0] := by kernel_rfl
theorem tk_6 : tk Tryz.prog 6 = .int .u8 := by kernel_rfl
theorem tsz_6 : tsz Tryz.prog 6 = some 1 := by kernel_rfl
theorem tby_6 : tby Tryz.prog 6 = some 1 := by kernel_rfl
theorem tzv_6 : tzv Tryz.prog 6 = some (.int .u8 0) := by kernel_rfl
theorem tze_6 : tze Tryz.prog 6 = some [.int .u8 0] := by kernel_rfl
theorem tk_7 : tk Tryz.prog 7 = .struct [(2, 0), (3, 1), (4, 2), (6, 3)] := by kernel_rfl
theorem tsz_7 : tsz Tryz.prog 7 = some 4 := by kernel_rfl
theorem tby_7 : tby Tryz.prog 7 = some 24 := by kernel_rfl
theorem tze_7 : tze Tryz.prog 7 = some [.int .i64 0, .int .i64 0, .bool false, .int .u8 0] := by kernel_rfl
theorem tk_8 : tk Tryz.prog 8 = .struct [(2, 0), (3, 1), (4, 2), (6, 3)] := by kernel_rfl
theorem tsz_8 : tsz Tryz.prog 8 = some 4 := by kernel_rfl
theorem tby_8 : tby Tryz.prog 8 = some 24 := by kernel_rfl
theorem tze_8 : tze Tryz.prog 8 = some [.int .i64 0, .int .i64 0, .bool false, .int .u8 0] := by kernel_rfl
theorem tk_9 : tk Tryz.prog 9 = .str := by kernel_rfl
theorem tsz_9 : tsz Tryz.prog 9 = some 1 := by kernel_rfl
theorem tby_9 : tby Tryz.prog 9 = some 16 := by kernel_rfl
theorem tzv_9 : tzv Tryz.prog 9 = some (.str ByteArray.empty) := by kernel_rfl
theorem tze_9 : tze Tryz.prog 9 = some [.str ByteArray.empty] := by kernel_rfl
theorem tk_10 : tk Tryz.prog 10 = .str := by kernel_rfl
theorem tsz_10 : tsz Tryz.prog 10 = some 1 := by kernel_rfl
theorem tby_10 : tby Tryz.prog 10 = some 16 := by kernel_rfl
theorem tzv_10 : tzv Tryz.prog 10 = some (.str ByteArray.empty) := by kernel_rfl
theorem tze_10 : tze Tryz.prog 10 = some [.str ByteArray.empty] := by kernel_rfl
theorem tk_11 : tk Tryz.prog 11 = .str := by kernel_rfl
theorem tsz_11 : tsz Tryz.prog 11 = some 1 := by kernel_rfl
theorem tby_11 : tby Tryz.prog 11 = some 16 := by kernel_rfl
theorem tzv_11 : tzv Tryz.prog 11 = some (.str ByteArray.empty) := by kernel_rfl
theorem tze_11 : tze Tryz.prog 11 = some [.str ByteArray.empty] := by kernel_rfl
theorem tk_12 : tk Tryz.prog 12 = .int .u64 := by kernel_rfl
theorem tsz_12 : tsz Tryz.prog 12 = some 1 := by kernel_rfl
theorem tby_12 : tby Tryz.prog 12 = some 8 := by kernel_rfl
theorem tzv_12 : tzv Tryz.prog 12 = some (.int .u64 0) := by kernel_rfl
theorem tze_12 : tze Tryz.prog 12 = some [.int .u64 0] := by kernel_rfl
theorem tk_13 : tk Tryz.prog 13 = .struct [(9, 0), (12, 1)] := by kernel_rfl
theorem tsz_13 : tsz Tryz.prog 13 = some 2 := by kernel_rfl
theorem tby_13 : tby Tryz.prog 13 = some 24 := by kernel_rfl
theorem tze_13 : tze Tryz.prog 13 = some [.str ByteArray.empty, .int .u64 0] := by kernel_rfl
theorem tk_14 : tk Tryz.prog 14 = .struct [(9, 0), (12, 1)] := by kernel_rfl
theorem tsz_14 : tsz Tryz.prog 14 = some 2 := by kernel_rfl
theorem tby_14 : tby Tryz.prog 14 = some 24 := by kernel_rfl
theorem tze_14 : tze Tryz.prog 14 = some [.str ByteArray.empty, .int .u64 0] := by kernel_rfl
theorem tk_15 : tk Tryz.prog 15 = .other := by kernel_rfl
theorem tsz_15 : tsz Tryz.prog 15 = some 1 := by kernel_rfl
theorem tby_15 : tby Tryz.prog 15 = some 8 := by kernel_rfl
theorem tze_15 : tze Tryz.prog 15 = some [.any] := by kernel_rfl
theorem tk_16 : tk Tryz.prog 16 = .other := by kernel_rfl
theorem tsz_16 : tsz Tryz.prog 16 = some 1 := by kernel_rfl
theorem tby_16 : tby Tryz.prog 16 = some 8 := by kernel_rfl
theorem tze_16 : tze Tryz.prog 16 = some [.any] := by kernel_rfl
theorem tk_17 : tk Tryz.prog 17 = .other := by kernel_rfl
theorem tsz_17 : tsz Tryz.prog 17 = some 1 := by kernel_rfl
theorem tby_17 : tby Tryz.prog 17 = some 8 := by kernel_rfl
theorem tze_17 : tze Tryz.prog 17 = some [.any] := by kernel_rfl
theorem tk_18 : tk Tryz.prog 18 = .struct [(17, 0)] := by kernel_rfl
theorem tsz_18 : tsz Tryz.prog 18 = some 1 := by kernel_rfl
theorem tby_18 : tby Tryz.prog 18 = some 8 := by kernel_rfl
theorem tze_18 : tze Tryz.prog 18 = some [.any] := by kernel_rfl
theorem tk_19 : tk Tryz.prog 19 = .struct [(17, 0)] := by kernel_rfl
theorem tsz_19 : tsz Tryz.prog 19 = some 1 := by kernel_rfl
theorem tby_19 : tby Tryz.prog 19 = some 8 := by kernel_rfl
theorem tze_19 : tze Tryz.prog 19 = some [.any] := by kernel_rfl
theorem tk_21 : tk Tryz.prog 21 = .int .i32 := by kernel_rfl
theorem tsz_21 : tsz Tryz.prog 21 = some 1 := by kernel_rfl
theorem tby_21 : tby Tryz.prog 21 = some 4 := by kernel_rfl
theorem tzv_21 : tzv Tryz.prog 21 = some (.int .i32 0) := by kernel_rfl
theorem tze_21 : tze Tryz.prog 21 = some [.int .i32 0] := by kernel_rfl
theorem tk_22 : tk Tryz.prog 22 = .slice 3 := by kernel_rfl
theorem tsz_22 : tsz Tryz.prog 22 = some 1 := by kernel_rfl
theorem tby_22 : tby Tryz.prog 22 = some 24 := by kernel_rfl
theorem tze_22 : tze Tryz.prog 22 = some [.nils] := by kernel_rfl
theorem tk_23 : tk Tryz.prog 23 = .struct [(22, 0), (22, 1), (3, 2)] := by kernel_rfl
theorem tsz_23 : tsz Tryz.prog 23 = some 3 := by kernel_rfl
theorem tby_23 : tby Tryz.prog 23 = some 56 := by kernel_rfl
theorem tze_23 : tze Tryz.prog 23 = some [.nils, .nils, .int .i64 0] := by kernel_rfl
theorem tk_24 : tk Tryz.prog 24 = .struct [(22, 0), (22, 1), (3, 2)] := by kernel_rfl
theorem tsz_24 : tsz Tryz.prog 24 = some 3 := by kernel_rfl
theorem tby_24 : tby Tryz.prog 24 = some 56 := by kernel_rfl
theorem tze_24 : tze Tryz.prog 24 = some [.nils, .nils, .int .i64 0] := by kernel_rfl
theorem tk_27 : tk Tryz.prog 27 = .slice 65 := by kernel_rfl
theorem tsz_27 : tsz Tryz.prog 27 = some 1 := by kernel_rfl
theorem tby_27 : tby Tryz.prog 27 = some 24 := by kernel_rfl
theorem tze_27 : tze Tryz.prog 27 = some [.nils] := by kernel_rfl
theorem tk_28 : tk Tryz.prog 28 = .struct [(4, 0), (27, 1)] := by kernel_rfl
theorem tsz_28 : tsz Tryz.prog 28 = some 2 := by kernel_rfl
theorem tby_28 : tby Tryz.prog 28 = some 32 := by kernel_rfl
theorem tze_28 : tze Tryz.prog 28 = some [.bool false, .nils] := by kernel_rfl
theorem tk_29 : tk Tryz.prog 29 = .struct [(4, 0), (27, 1)] := by kernel_rfl
theorem tsz_29 : tsz Tryz.prog 29 = some 2 := by kernel_rfl
theorem tby_29 : tby Tryz.prog 29 = some 32 := by kernel_rfl
theorem tze_29 : tze Tryz.prog 29 = some [.bool false, .nils] := by kernel_rfl
theorem tk_30 : tk Tryz.prog 30 = .int .i64 := by kernel_rfl
theorem tsz_30 : tsz Tryz.prog 30 = some 1 := by kernel_rfl
theorem tby_30 : tby Tryz.prog 30 = some 8 := by kernel_rfl
theorem tzv_30 : tzv Tryz.prog 30 = some (.int .i64 0) := by kernel_rfl
theorem tze_30 : tze Tryz.prog 30 = some [.int .i64 0] := by kernel_rfl
theorem tk_37 : tk Tryz.prog 37 = .slice 74 := by kernel_rfl
theorem tsz_37 : tsz Tryz.prog 37 = some 1 := by kernel_rfl
theorem tby_37 : tby Tryz.prog 37 = some 24 := by kernel_rfl
theorem tze_37 : tze Tryz.prog 37 = some [.nils] := by kernel_rfl
theorem tk_38 : tk Tryz.prog 38 = .struct [(37, 0), (4, 1)] := by kernel_rfl
theorem tsz_38 : tsz Tryz.prog 38 = some 2 := by kernel_rfl
theorem tby_38 : tby Tryz.prog 38 = some 32 := by kernel_rfl
theorem tze_38 : tze Tryz.prog 38 = some [.nils, .bool false] := by kernel_rfl
theorem tk_39 : tk Tryz.prog 39 = .struct [(37, 0), (4, 1)] := by kernel_rfl
theorem tsz_39 : tsz Tryz.prog 39 = some 2 := by kernel_rfl
theorem tby_39 : tby Tryz.prog 39 = some 32 := by kernel_rfl
theorem tze_39 : tze Tryz.prog 39 = some [.nils, .bool false] := by kernel_rfl
theorem tk_49 : tk Tryz.prog 49 = .map 3 22 := by kernel_rfl
theorem tsz_49 : tsz Tryz.prog 49 = some 1 := by kernel_rfl
theorem tby_49 : tby Tryz.prog 49 = some 8 := by kernel_rfl
theorem tze_49 : tze Tryz.prog 49 = some [.any] := by kernel_rfl
theorem tk_58 : tk Tryz.prog 58 = .slice 22 := by kernel_rfl
theorem tsz_58 : tsz Tryz.prog 58 = some 1 := by kernel_rfl
theorem tby_58 : tby Tryz.prog 58 = some 24 := by kernel_rfl
theorem tze_58 : tze Tryz.prog 58 = some [.nils] := by kernel_rfl
theorem tk_60 : tk Tryz.prog 60 = .other := by kernel_rfl
theorem tsz_60 : tsz Tryz.prog 60 = some 1 := by kernel_rfl
theorem tby_60 : tby Tryz.prog 60 = some 8 := by kernel_rfl
theorem tze_60 : tze Tryz.prog 60 = some [.any] := by kernel_rfl
theorem tk_61 : tk Tryz.prog 61 = .slice 5 := by kernel_rfl
theorem tsz_61 : tsz Tryz.prog 61 = some 1 := by kernel_rfl
theorem tby_61 : tby Tryz.prog 61 = some 24 := by kernel_rfl
theorem tze_61 : tze Tryz.prog 61 = some [.nils] := by kernel_rfl
theorem tk_62 : tk Tryz.prog 62 = .struct [(60, 0), (61, 1)] := by kernel_rfl
theorem tsz_62 : tsz Tryz.prog 62 = some 2 := by kernel_rfl
theorem tby_62 : tby Tryz.prog 62 = some 32 := by kernel_rfl
theorem tze_62 : tze Tryz.prog 62 = some [.any, .nils] := by kernel_rfl
theorem tk_63 : tk Tryz.prog 63 = .struct [(60, 0), (61, 1)] := by kernel_rfl
theorem tsz_63 : tsz Tryz.prog 63 = some 2 := by kernel_rfl
theorem tby_63 : tby Tryz.prog 63 = some 32 := by kernel_rfl
theorem tze_63 : tze Tryz.prog 63 = some [.any, .nils] := by kernel_rfl
theorem tk_64 : tk Tryz.prog 64 = .struct [(3, 0), (3, 1)] := by kernel_rfl
theorem tsz_64 : tsz Tryz.prog 64 = some 2 := by kernel_rfl
theorem tby_64 : tby Tryz.prog 64 = some 16 := by kernel_rfl
theorem tze_64 : tze Tryz.prog 64 = some [.int .i64 0, .int .i64 0] := by kernel_rfl
theorem tk_65 : tk Tryz.prog 65 = .struct [(3, 0), (3, 1)] := by kernel_rfl
theorem tsz_65 : tsz Tryz.prog 65 = some 2 := by kernel_rfl
theorem tby_65 : tby Tryz.prog 65 = some 16 := by kernel_rfl
theorem tze_65 : tze Tryz.prog 65 = some [.int .i64 0, .int .i64 0] := by kernel_rfl
theorem tk_73 : tk Tryz.prog 73 = .struct [(3, 0), (3, 1)] := by kernel_rfl
theorem tsz_73 : tsz Tryz.prog 73 = some 2 := by kernel_rfl
theorem tby_73 : tby Tryz.prog 73 = some 16 := by kernel_rfl
theorem tze_73 : tze Tryz.prog 73 = some [.int .i64 0, .int .i64 0] := by kernel_rfl
theorem tk_74 : tk Tryz.prog 74 = .struct [(3, 0), (3, 1)] := by kernel_rfl
theorem tsz_74 : tsz Tryz.prog 74 = some 2 := by kernel_rfl
theorem tby_74 : tby Tryz.prog 74 = some 16 := by kernel_rfl
theorem tze_74 : tze Tryz.prog 74 = some [.int .i64 0, .int .i64 0] := by kernel_rfl
theorem tk_76 : tk Tryz.prog 76 = .slice 4 := by kernel_rfl
theorem tsz_76 : tsz Tryz.prog 76 = some 1 := by kernel_rfl
theorem tby_76 : tby Tryz.prog 76 = some 24 := by kernel_rfl
theorem tze_76 : tze Tryz.prog 76 = some [.nils] := by kernel_rfl
theorem tk_91 : tk Tryz.prog 91 = .slice 95 := by kernel_rfl
theorem tsz_91 : tsz Tryz.prog 91 = some 1 := by kernel_rfl
theorem tby_91 : tby Tryz.prog 91 = some 24 := by kernel_rfl
theorem tze_91 : tze Tryz.prog 91 = some [.nils] := by kernel_rfl
theorem tk_93 : tk Tryz.prog 93 = .int .u64 := by kernel_rfl
theorem tsz_93 : tsz Tryz.prog 93 = some 1 := by kernel_rfl
theorem tby_93 : tby Tryz.prog 93 = some 8 := by kernel_rfl
theorem tzv_93 : tzv Tryz.prog 93 = some (.int .u64 0) := by kernel_rfl
theorem tze_93 : tze Tryz.prog 93 = some [.int .u64 0] := by kernel_rfl
theorem tk_94 : tk Tryz.prog 94 = .struct [(93, 0), (93, 1)] := by kernel_rfl
theorem tsz_94 : tsz Tryz.prog 94 = some 2 := by kernel_rfl
theorem tby_94 : tby Tryz.prog 94 = some 16 := by kernel_rfl
theorem tze_94 : tze Tryz.prog 94 = some [.int .u64 0, .int .u64 0] := by kernel_rfl
theorem tk_95 : tk Tryz.prog 95 = .struct [(93, 0), (93, 1)] := by kernel_rfl
theorem tsz_95 : tsz Tryz.prog 95 = some 2 := by kernel_rfl
theorem tby_95 : tby Tryz.prog 95 = some 16 := by kernel_rfl
theorem tze_95 : tze Tryz.prog 95 = some [.int .u64 0, .int .u64 0] := by kernel_rfl
theorem tk_102 : tk Tryz.prog 102 = .other := by kernel_rfl
theorem tsz_102 : tsz Tryz.prog 102 = some 1 := by kernel_rfl
theorem tby_102 : tby Tryz.prog 102 = some 8 := by kernel_rfl
theorem tze_102 : tze Tryz.prog 102 = some [.any] := by kernel_rfl
theorem tk_104 : tk Tryz.prog 104 = .slice 108 := by kernel_rfl
theorem tsz_104 : tsz Tryz.prog 104 = some 1 := by kernel_rfl
theorem tby_104 : tby Tryz.prog 104 = some 24 := by kernel_rfl
theorem tze_104 : tze Tryz.prog 104 = some [.nils] := by kernel_rfl
theorem tk_107 : tk Tryz.prog 107 = .struct [(3, 0), (3, 1)] := by kernel_rfl
theorem tsz_107 : tsz Tryz.prog 107 = some 2 := by kernel_rfl
theorem tby_107 : tby Tryz.prog 107 = some 16 := by kernel_rfl
theorem tze_107 : tze Tryz.prog 107 = some [.int .i64 0, .int .i64 0] := by kernel_rfl
theorem tk_108 : tk Tryz.prog 108 = .struct [(3, 0), (3, 1)] := by kernel_rfl
theorem tsz_108 : tsz Tryz.prog 108 = some 2 := by kernel_rfl
theorem tby_108 : tby Tryz.prog 108 = some 16 := by kernel_rfl
theorem tze_108 : tze Tryz.prog 108 = some [.int .i64 0, .int .i64 0] := by kernel_rfl
theorem tk_113 : tk Tryz.prog 113 = .map 3 95 := by kernel_rfl
theorem tsz_113 : tsz Tryz.prog 113 = some 1 := by kernel_rfl
theorem tby_113 : tby Tryz.prog 113 = some 8 := by kernel_rfl
theorem tze_113 : tze Tryz.prog 113 = some [.any] := by kernel_rfl
theorem tk_124 : tk Tryz.prog 124 = .other := by kernel_rfl
theorem tsz_124 : tsz Tryz.prog 124 = some 1 := by kernel_rfl
theorem tby_124 : tby Tryz.prog 124 = some 8 := by kernel_rfl
theorem tze_124 : tze Tryz.prog 124 = some [.any] := by kernel_rfl
theorem tk_129 : tk Tryz.prog 129 = .int .u64 := by kernel_rfl
theorem tsz_129 : tsz Tryz.prog 129 = some 1 := by kernel_rfl
theorem tby_129 : tby Tryz.prog 129 = some 8 := by kernel_rfl
theorem tzv_129 : tzv Tryz.prog 129 = some (.int .u64 0) := by kernel_rfl
theorem tze_129 : tze Tryz.prog 129 = some [.int .u64 0] := by kernel_rfl
theorem tk_146 : tk Tryz.prog 146 = .int .u32 := by kernel_rfl
theorem tsz_146 : tsz Tryz.prog 146 = some 1 := by kernel_rfl
theorem tby_146 : tby Tryz.prog 146 = some 4 := by kernel_rfl
theorem tzv_146 : tzv Tryz.prog 146 = some (.int .u32 0) := by kernel_rfl
theorem tze_146 : tze Tryz.prog 146 = some [.int .u32 0] := by kernel_rfl
theorem tk_149 : tk Tryz.prog 149 = .int .i64 := by kernel_rfl
theorem tsz_149 : tsz Tryz.prog 149 = some 1 := by kernel_rfl
theorem tby_149 : tby Tryz.prog 149 = some 8 := by kernel_rfl
theorem tzv_149 : tzv Tryz.prog 149 = some (.int .i64 0) := by kernel_rfl
theorem tze_149 : tze Tryz.prog 149 = some [.int .i64 0] := by kernel_rfl
theorem tk_156 : tk Tryz.prog 156 = .int .u64 := by kernel_rfl
theorem tsz_156 : tsz Tryz.prog 156 = some 1 := by kernel_rfl
theorem tby_156 : tby Tryz.prog 156 = some 8 := by kernel_rfl
theorem tzv_156 : tzv Tryz.prog 156 = some (.int .u64 0) := by kernel_rfl
theorem tze_156 : tze Tryz.prog 156 = some [.int .u64 0] := by kernel_rfl
theorem tk_160 : tk Tryz.prog 160 = .other := by kernel_rfl
theorem tsz_160 : tsz Tryz.prog 160 = some 1 := by kernel_rfl
theorem tby_160 : tby Tryz.prog 160 = some 8 := by kernel_rfl
theorem tze_160 : tze Tryz.prog 160 = some [.any] := by kernel_rfl
theorem tk_164 : tk Tryz.prog 164 = .other := by kernel_rfl
theorem tsz_164 : tsz Tryz.prog 164 = some 1 := by kernel_rfl
theorem tby_164 : tby Tryz.prog 164 = some 8 := by kernel_rfl
theorem tze_164 : tze Tryz.prog 164 = some [.any] := by kernel_rfl
theorem tk_167 : tk Tryz.prog 167 = .struct [(17, 0), (17, 1), (17, 2), (9, 3)] := by kernel_rfl
theorem tsz_167 : tsz Tryz.prog 167 = some 4 := by kernel_rfl
theorem tby_167 : tby Tryz.prog 167 = some 40 := by kernel_rfl
theorem tze_167 : tze Tryz.prog 167 = some [.any, .any, .any, .str ByteArray.empty] := by kernel_rfl
theorem tk_168 : tk Tryz.prog 168 = .struct [(17, 0), (17, 1), (17, 2), (9, 3)] := by kernel_rfl
theorem tsz_168 : tsz Tryz.prog 168 = some 4 := by kernel_rfl
theorem tby_168 : tby Tryz.prog 168 = some 40 := by kernel_rfl
theorem tze_168 : tze Tryz.prog 168 = some [.any, .any, .any, .str ByteArray.empty] := by kernel_rfl
theorem tk_170 : tk Tryz.prog 170 = .struct [(169, 0)] := by kernel_rfl
theorem tsz_170 : tsz Tryz.prog 170 = some 0 := by kernel_rfl
theorem tby_170 : tby Tryz.prog 170 = some 0 := by kernel_rfl
theorem tze_170 : tze Tryz.prog 170 = some [] := by kernel_rfl
theorem tk_171 : tk Tryz.prog 171 = .struct [(169, 0)] := by kernel_rfl
theorem tsz_171 : tsz Tryz.prog 171 = some 0 := by kernel_rfl
theorem tby_171 : tby Tryz.prog 171 = some 0 := by kernel_rfl
theorem tze_171 : tze Tryz.prog 171 = some [] := by kernel_rfl
theorem tk_172 : tk Tryz.prog 172 = .int .u8 := by kernel_rfl
theorem tsz_172 : tsz Tryz.prog 172 = some 1 := by kernel_rfl
theorem tby_172 : tby Tryz.prog 172 = some 1 := by kernel_rfl
theorem tzv_172 : tzv Tryz.prog 172 = some (.int .u8 0) := by kernel_rfl
theorem tze_172 : tze Tryz.prog 172 = some [.int .u8 0] := by kernel_rfl
theorem tk_173 : tk Tryz.prog 173 = .int .u8 := by kernel_rfl
theorem tsz_173 : tsz Tryz.prog 173 = some 1 := by kernel_rfl
theorem tby_173 : tby Tryz.prog 173 = some 1 := by kernel_rfl
theorem tzv_173 : tzv Tryz.prog 173 = some (.int .u8 0) := by kernel_rfl
theorem tze_173 : tze Tryz.prog 173 = some [.int .u8 0] := by kernel_rfl
theorem tk_175 : tk Tryz.prog 175 = .int .i32 := by kernel_rfl
theorem tsz_175 : tsz Tryz.prog 175 = some 1 := by kernel_rfl
theorem tby_175 : tby Tryz.prog 175 = some 4 := by kernel_rfl
theorem tzv_175 : tzv Tryz.prog 175 = some (.int .i32 0) := by kernel_rfl
theorem tze_175 : tze Tryz.prog 175 = some [.int .i32 0] := by kernel_rfl
theorem tk_176 : tk Tryz.prog 176 = .int .i32 := by kernel_rfl
theorem tsz_176 : tsz Tryz.prog 176 = some 1 := by kernel_rfl
theorem tby_176 : tby Tryz.prog 176 = some 4 := by kernel_rfl
theorem tzv_176 : tzv Tryz.prog 176 = some (.int .i32 0) := by kernel_rfl
theorem tze_176 : tze Tryz.prog 176 = some [.int .i32 0] := by kernel_rfl
theorem tk_177 : tk Tryz.prog 177 = .struct [(12, 0), (12, 1), (146, 2), (172, 3), (5, 4), (5, 5), (173, 6), (174, 7), (102, 8), (175, 9), (176, 10)] := by kernel_rfl
theorem tsz_177 : tsz Tryz.prog 177 = some 11 := by kernel_rfl
theorem tby_177 : tby Tryz.prog 177 = some 48 := by kernel_rfl
theorem tze_177 : tze Tryz.prog 177 = some [.int .u64 0, .int .u64 0, .int .u32 0, .int .u8 0, .int .u8 0, .int .u8 0, .int .u8 0, .any, .any, .int .i32 0, .int .i32 0] := by kernel_rfl
theorem tk_178 : tk Tryz.prog 178 = .struct [(12, 0), (12, 1), (146, 2), (172, 3), (5, 4), (5, 5), (173, 6), (174, 7), (102, 8), (175, 9), (176, 10)] := by kernel_rfl
theorem tsz_178 : tsz Tryz.prog 178 = some 11 := by kernel_rfl
theorem tby_178 : tby Tryz.prog 178 = some 48 := by kernel_rfl
theorem tze_178 : tze Tryz.prog 178 = some [.int .u64 0, .int .u64 0, .int .u32 0, .int .u8 0, .int .u8 0, .int .u8 0, .int .u8 0, .any, .any, .int .i32 0, .int .i32 0] := by kernel_rfl
attribute [go_sem] tk_2 tsz_2 tby_2 tzv_2 tze_2 tk_3 tsz_3 tby_3 tzv_3 tze_3 tk_4 tsz_4 tby_4 tzv_4 tze_4 tk_5 tsz_5 tby_5 tzv_5 tze_5 tk_6 tsz_6 tby_6 tzv_6 tze_6 tk_7 tsz_7 tby_7 tze_7 tk_8 tsz_8 tby_8 tze_8 tk_9 tsz_9 tby_9 tzv_9 tze_9 tk_10 tsz_10
attribute [go_sem] tby_10 tzv_10 tze_10 tk_11 tsz_11 tby_11 tzv_11 tze_11 tk_12 tsz_12 tby_12 tzv_12 tze_12 tk_13 tsz_13 tby_13 tze_13 tk_14 tsz_14 tby_14 tze_14 tk_15 tsz_15 tby_15 tze_15 tk_16 tsz_16 tby_16 tze_16 tk_17 tsz_17 tby_17 tze_17 tk_18 tsz_18 tby_18 tze_18 tk_19 tsz_19 tby_19
attribute [go_sem] tze_19 tk_21 tsz_21 tby_21 tzv_21 tze_21 tk_22 tsz_22 tby_22 tze_22 tk_23 tsz_23 tby_23 tze_23 tk_24 tsz_24 tby_24 tze_24 tk_27 tsz_27 tby_27 tze_27 tk_28 tsz_28 tby_28 tze_28 tk_29 tsz_29 tby_29 tze_29 tk_30 tsz_30 tby_30 tzv_30 tze_30 tk_37 tsz_37 tby_37 tze_37 tk_38
attribute [go_sem] tsz_38 tby_38 tze_38 tk_39 tsz_39 tby_39 tze_39 tk_49 tsz_49 tby_49 tze_49 tk_58 tsz_58 tby_58 tze_58 tk_60 tsz_60 tby_60 tze_60 tk_61 tsz_61 tby_61 tze_61 tk_62 tsz_62 tby_62 tze_62 tk_63 tsz_63 tby_63 tze_63 tk_64 tsz_64 tby_64 tze_64 tk_65 tsz_65 tby_65 tze_65 tk_73
attribute [go_sem] tsz_73 tby_73 tze_73 tk_74 tsz_74 tby_74 tze_74 tk_76 tsz_76 tby_76 tze_76 tk_91 tsz_91 tby_91 tze_91 tk_93 tsz_93 tby_93 tzv_93 tze_93 tk_94 tsz_94 tby_94 tze_94 tk_95 tsz_95 tby_95 tze_95 tk_102 tsz_102 tby_102 tze_102 tk_104 tsz_104 tby_104 tze_104 tk_107 tsz_107 tby_107 tze_107
attribute [go_sem] tk_108 tsz_108 tby_108 tze_108 tk_113 tsz_113 tby_113 tze_113 tk_124 tsz_124 tby_124 tze_124 tk_129 tsz_129 tby_129 tzv_129 tze_129 tk_146 tsz_146 tby_146 tzv_146 tze_146 tk_149 tsz_149 tby_149 tzv_149 tze_149 tk_156 tsz_156 tby_156 tzv_156 tze_156 tk_160 tsz_160 tby_160 tze_160 tk_164 tsz_164 tby_164 tze_164
attribute [go_sem] tk_167 tsz_167 tby_167 tze_167 tk_168 tsz_168 tby_168 tze_168 tk_170 tsz_170 tby_170 tze_170 tk_171 tsz_171 tby_171 tze_171 tk_172 tsz_172 tby_172 tzv_172 tze_172 tk_173 tsz_173 tby_173 tzv_173 tze_173 tk_175 tsz_175 tby_175 tzv_175 tze_175 tk_176 tsz_176 tby_176 tzv_176 tze_176 tk_177 tsz_177 tby_177 tze_177
attribute [go_sem] tk_178 tsz_178 tby_178 tze_178
theorem mixed : Tryz.prog.follows .mixedOrders = true := by kernel_rfl
end Go.Proofs.YtalmkaiiffodnaaGreatDoor
