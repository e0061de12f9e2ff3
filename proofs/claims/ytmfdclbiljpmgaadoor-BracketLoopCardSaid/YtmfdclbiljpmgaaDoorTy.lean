/- The types of the translation: kinds, sizes, bytes, zero values; made by a program of the author (gentypes.py), each fact checked by the kernel. -/
import Derived.Test.YtmfdclbiljpmgaaDoorGc
import Derived.Test.YtmfdclbiljpmgaaDoorRows
namespace Go.Proofs.YtmfdclbiljpmgaaDoor
open Go
theorem tk_2 : tk Tryd.prog 2 = .int .i64 := by kernel_rfl
theorem tsz_2 : tsz Tryd.prog 2 = some 1 := by kernel_rfl
theorem tby_2 : tby Tryd.prog 2 = some 8 := by kernel_rfl
theorem tzv_2 : tzv Tryd.prog 2 = some (.int .i64 0) := by kernel_rfl
theorem tze_2 : tze Tryd.prog 2 = some [.int .i64 0] := by kernel_rfl
theorem tk_3 : tk Tryd.prog 3 = .int .i64 := by kernel_rfl
theorem tsz_3 : tsz Tryd.prog 3 = some 1 := by kernel_rfl
theorem tby_3 : tby Tryd.prog 3 = some 8 := by kernel_rfl
theorem tzv_3 : tzv Tryd.prog 3 = some (.int .i64 0) := by kernel_rfl
theorem tze_3 : tze Tryd.prog 3 = some [.int .i64 0] := by kernel_rfl
theorem tk_4 : tk Tryd.prog 4 = .bool := by kernel_rfl
theorem tsz_4 : tsz Tryd.prog 4 = some 1 := by kernel_rfl
theorem tby_4 : tby Tryd.prog 4 = some 1 := by kernel_rfl
theorem tzv_4 : tzv Tryd.prog 4 = some (.bool false) := by kernel_rfl
theorem tze_4 : tze Tryd.prog 4 = some [.bool false] := by kernel_rfl
theorem tk_5 : tk Tryd.prog 5 = .int .u8 := by kernel_rfl
theorem tsz_5 : tsz Tryd.prog 5 = some 1 := by kernel_rfl
theorem tby_5 : tby Tryd.prog 5 = some 1 := by kernel_rfl
theorem tzv_5 : tzv Tryd.prog 5 = some (.int .u8 0) := by kernel_rfl
theorem tze_5 : tze Tryd.prog 5 = some [.int .u8 0] := by kernel_rfl
theorem tk_6 : tk Tryd.prog 6 = .int .u8 := by kernel_rfl
theorem tsz_6 : tsz Tryd.prog 6 = some 1 := by kernel_rfl
theorem tby_6 : tby Tryd.prog 6 = some 1 := by kernel_rfl
theorem tzv_6 : tzv Tryd.prog 6 = some (.int .u8 0) := by kernel_rfl
theorem tze_6 : tze Tryd.prog 6 = some [.int .u8 0] := by kernel_rfl
theorem tk_7 : tk Tryd.prog 7 = .struct [(2, 0), (3, 1), (4, 2), (6, 3)] := by kernel_rfl
theorem tsz_7 : tsz Tryd.prog 7 = some 4 := by kernel_rfl
theorem tby_7 : tby Tryd.prog 7 = some 24 := by kernel_rfl
theorem tze_7 : tze Tryd.prog 7 = some [.int .i64 0, .int .i64 0, .bool false, .int .u8 0] := by kernel_rfl
theorem tk_8 : tk Tryd.prog 8 = .struct [(2, 0), (3, 1), (4, 2), (6, 3)] := by kernel_rfl
theorem tsz_8 : tsz Tryd.prog 8 = some 4 := by kernel_rfl
theorem tby_8 : tby Tryd.prog 8 = some 24 := by kernel_rfl
theorem tze_8 : tze Tryd.prog 8 = some [.int .i64 0, .int .i64 0, .bool false, .int .u8 0] := by kernel_rfl
theorem tk_9 : tk Tryd.prog 9 = .str := by kernel_rfl
theorem tsz_9 : tsz Tryd.prog 9 = some 1 := by kernel_rfl
theorem tby_9 : tby Tryd.prog 9 = some 16 := by kernel_rfl
theorem tzv_9 : tzv Tryd.prog 9 = some (.str ByteArray.empty) := by kernel_rfl
theorem tze_9 : tze Tryd.prog 9 = some [.str ByteArray.empty] := by kernel_rfl
theorem tk_10 : tk Tryd.prog 10 = .str := by kernel_rfl
theorem tsz_10 : tsz Tryd.prog 10 = some 1 := by kernel_rfl
theorem tby_10 : tby Tryd.prog 10 = some 16 := by kernel_rfl
theorem tzv_10 : tzv Tryd.prog 10 = some (.str ByteArray.empty) := by kernel_rfl
theorem tze_10 : tze Tryd.prog 10 = some [.str ByteArray.empty] := by kernel_rfl
theorem tk_11 : tk Tryd.prog 11 = .str := by kernel_rfl
theorem tsz_11 : tsz Tryd.prog 11 = some 1 := by kernel_rfl
theorem tby_11 : tby Tryd.prog 11 = some 16 := by kernel_rfl
theorem tzv_11 : tzv Tryd.prog 11 = some (.str ByteArray.empty) := by kernel_rfl
theorem tze_11 : tze Tryd.prog 11 = some [.str ByteArray.empty] := by kernel_rfl
theorem tk_12 : tk Tryd.prog 12 = .int .u64 := by kernel_rfl
theorem tsz_12 : tsz Tryd.prog 12 = some 1 := by kernel_rfl
theorem tby_12 : tby Tryd.prog 12 = some 8 := by kernel_rfl
theorem tzv_12 : tzv Tryd.prog 12 = some (.int .u64 0) := by kernel_rfl
theorem tze_12 : tze Tryd.prog 12 = some [.int .u64 0] := by kernel_rfl
theorem tk_13 : tk Tryd.prog 13 = .struct [(9, 0), (12, 1)] := by kernel_rfl
theorem tsz_13 : tsz Tryd.prog 13 = some 2 := by kernel_rfl
theorem tby_13 : tby Tryd.prog 13 = some 24 := by kernel_rfl
theorem tze_13 : tze Tryd.prog 13 = some [.str ByteArray.empty, .int .u64 0] := by kernel_rfl
theorem tk_14 : tk Tryd.prog 14 = .struct [(9, 0), (12, 1)] := by kernel_rfl
theorem tsz_14 : tsz Tryd.prog 14 = some 2 := by kernel_rfl
theorem tby_14 : tby Tryd.prog 14 = some 24 := by kernel_rfl
theorem tze_14 : tze Tryd.prog 14 = some [.str ByteArray.empty, .int .u64 0] := by kernel_rfl
theorem tk_15 : tk Tryd.prog 15 = .other := by kernel_rfl
theorem tsz_15 : tsz Tryd.prog 15 = some 1 := by kernel_rfl
theorem tby_15 : tby Tryd.prog 15 = some 8 := by kernel_rfl
theorem tze_15 : tze Tryd.prog 15 = some [.any] := by kernel_rfl
theorem tk_16 : tk Tryd.prog 16 = .other := by kernel_rfl
theorem tsz_16 : tsz Tryd.prog 16 = some 1 := by kernel_rfl
theorem tby_16 : tby Tryd.prog 16 = some 8 := by kernel_rfl
theorem tze_16 : tze Tryd.prog 16 = some [.any] := by kernel_rfl
theorem tk_17 : tk Tryd.prog 17 = .other := by kernel_rfl
theorem tsz_17 : tsz Tryd.prog 17 = some 1 := by kernel_rfl
theorem tby_17 : tby Tryd.prog 17 = some 8 := by kernel_rfl
theorem tze_17 : tze Tryd.prog 17 = some [.any] := by kernel_rfl
theorem tk_18 : tk Tryd.prog 18 = .struct [(17, 0)] := by kernel_rfl
theorem tsz_18 : tsz Tryd.prog 18 = some 1 := by kernel_rfl
theorem tby_18 : tby Tryd.prog 18 = some 8 := by kernel_rfl
theorem tze_18 : tze Tryd.prog 18 = some [.any] := by kernel_rfl
theorem tk_19 : tk Tryd.prog 19 = .struct [(17, 0)] := by kernel_rfl
theorem tsz_19 : tsz Tryd.prog 19 = some 1 := by kernel_rfl
theorem tby_19 : tby Tryd.prog 19 = some 8 := by kernel_rfl
theorem tze_19 : tze Tryd.prog 19 = some [.any] := by kernel_rfl
theorem tk_21 : tk Tryd.prog 21 = .int .i32 := by kernel_rfl
theorem tsz_21 : tsz Tryd.prog 21 = some 1 := by kernel_rfl
theorem tby_21 : tby Tryd.prog 21 = some 4 := by kernel_rfl
theorem tzv_21 : tzv Tryd.prog 21 = some (.int .i32 0) := by kernel_rfl
theorem tze_21 : tze Tryd.prog 21 = some [.int .i32 0] := by kernel_rfl
theorem tk_22 : tk Tryd.prog 22 = .slice 3 := by kernel_rfl
theorem tsz_22 : tsz Tryd.prog 22 = some 1 := by kernel_rfl
theorem tby_22 : tby Tryd.prog 22 = some 24 := by kernel_rfl
theorem tze_22 : tze Tryd.prog 22 = some [.nils] := by kernel_rfl
theorem tk_23 : tk Tryd.prog 23 = .struct [(22, 0), (22, 1), (3, 2)] := by kernel_rfl
theorem tsz_23 : tsz Tryd.prog 23 = some 3 := by kernel_rfl
theorem tby_23 : tby Tryd.prog 23 = some 56 := by kernel_rfl
theorem tze_23 : tze Tryd.prog 23 = some [.nils, .nils, .int .i64 0] := by kernel_rfl
theorem tk_24 : tk Tryd.prog 24 = .struct [(22, 0), (22, 1), (3, 2)] := by kernel_rfl
theorem tsz_24 : tsz Tryd.prog 24 = some 3 := by kernel_rfl
theorem tby_24 : tby Tryd.prog 24 = some 56 := by kernel_rfl
theorem tze_24 : tze Tryd.prog 24 = some [.nils, .nils, .int .i64 0] := by kernel_rfl
theorem tk_27 : tk Tryd.prog 27 = .slice 49 := by kernel_rfl
theorem tsz_27 : tsz Tryd.prog 27 = some 1 := by kernel_rfl
theorem tby_27 : tby Tryd.prog 27 = some 24 := by kernel_rfl
theorem tze_27 : tze Tryd.prog 27 = some [.nils] := by kernel_rfl
theorem tk_28 : tk Tryd.prog 28 = .struct [(4, 0), (27, 1)] := by kernel_rfl
theorem tsz_28 : tsz Tryd.prog 28 = some 2 := by kernel_rfl
theorem tby_28 : tby Tryd.prog 28 = some 32 := by kernel_rfl
theorem tze_28 : tze Tryd.prog 28 = some [.bool false, .nils] := by kernel_rfl
theorem tk_29 : tk Tryd.prog 29 = .struct [(4, 0), (27, 1)] := by kernel_rfl
theorem tsz_29 : tsz Tryd.prog 29 = some 2 := by kernel_rfl
theorem tby_29 : tby Tryd.prog 29 = some 32 := by kernel_rfl
theorem tze_29 : tze Tryd.prog 29 = some [.bool false, .nils] := by kernel_rfl
theorem tk_30 : tk Tryd.prog 30 = .int .i64 := by kernel_rfl
theorem tsz_30 : tsz Tryd.prog 30 = some 1 := by kernel_rfl
theorem tby_30 : tby Tryd.prog 30 = some 8 := by kernel_rfl
theorem tzv_30 : tzv Tryd.prog 30 = some (.int .i64 0) := by kernel_rfl
theorem tze_30 : tze Tryd.prog 30 = some [.int .i64 0] := by kernel_rfl
theorem tk_41 : tk Tryd.prog 41 = .map 3 22 := by kernel_rfl
theorem tsz_41 : tsz Tryd.prog 41 = some 1 := by kernel_rfl
theorem tby_41 : tby Tryd.prog 41 = some 8 := by kernel_rfl
theorem tze_41 : tze Tryd.prog 41 = some [.any] := by kernel_rfl
theorem tk_48 : tk Tryd.prog 48 = .struct [(3, 0), (3, 1)] := by kernel_rfl
theorem tsz_48 : tsz Tryd.prog 48 = some 2 := by kernel_rfl
theorem tby_48 : tby Tryd.prog 48 = some 16 := by kernel_rfl
theorem tze_48 : tze Tryd.prog 48 = some [.int .i64 0, .int .i64 0] := by kernel_rfl
theorem tk_49 : tk Tryd.prog 49 = .struct [(3, 0), (3, 1)] := by kernel_rfl
theorem tsz_49 : tsz Tryd.prog 49 = some 2 := by kernel_rfl
theorem tby_49 : tby Tryd.prog 49 = some 16 := by kernel_rfl
theorem tze_49 : tze Tryd.prog 49 = some [.int .i64 0, .int .i64 0] := by kernel_rfl
theorem tk_53 : tk Tryd.prog 53 = .slice 57 := by kernel_rfl
theorem tsz_53 : tsz Tryd.prog 53 = some 1 := by kernel_rfl
theorem tby_53 : tby Tryd.prog 53 = some 24 := by kernel_rfl
theorem tze_53 : tze Tryd.prog 53 = some [.nils] := by kernel_rfl
theorem tk_55 : tk Tryd.prog 55 = .int .u64 := by kernel_rfl
theorem tsz_55 : tsz Tryd.prog 55 = some 1 := by kernel_rfl
theorem tby_55 : tby Tryd.prog 55 = some 8 := by kernel_rfl
theorem tzv_55 : tzv Tryd.prog 55 = some (.int .u64 0) := by kernel_rfl
theorem tze_55 : tze Tryd.prog 55 = some [.int .u64 0] := by kernel_rfl
theorem tk_56 : tk Tryd.prog 56 = .struct [(55, 0), (55, 1)] := by kernel_rfl
theorem tsz_56 : tsz Tryd.prog 56 = some 2 := by kernel_rfl
theorem tby_56 : tby Tryd.prog 56 = some 16 := by kernel_rfl
theorem tze_56 : tze Tryd.prog 56 = some [.int .u64 0, .int .u64 0] := by kernel_rfl
theorem tk_57 : tk Tryd.prog 57 = .struct [(55, 0), (55, 1)] := by kernel_rfl
theorem tsz_57 : tsz Tryd.prog 57 = some 2 := by kernel_rfl
theorem tby_57 : tby Tryd.prog 57 = some 16 := by kernel_rfl
theorem tze_57 : tze Tryd.prog 57 = some [.int .u64 0, .int .u64 0] := by kernel_rfl
theorem tk_62 : tk Tryd.prog 62 = .other := by kernel_rfl
theorem tsz_62 : tsz Tryd.prog 62 = some 1 := by kernel_rfl
theorem tby_62 : tby Tryd.prog 62 = some 8 := by kernel_rfl
theorem tze_62 : tze Tryd.prog 62 = some [.any] := by kernel_rfl
theorem tk_63 : tk Tryd.prog 63 = .slice 5 := by kernel_rfl
theorem tsz_63 : tsz Tryd.prog 63 = some 1 := by kernel_rfl
theorem tby_63 : tby Tryd.prog 63 = some 24 := by kernel_rfl
theorem tze_63 : tze Tryd.prog 63 = some [.nils] := by kernel_rfl
theorem tk_64 : tk Tryd.prog 64 = .struct [(62, 0), (63, 1)] := by kernel_rfl
theorem tsz_64 : tsz Tryd.prog 64 = some 2 := by kernel_rfl
theorem tby_64 : tby Tryd.prog 64 = some 32 := by kernel_rfl
theorem tze_64 : tze Tryd.prog 64 = some [.any, .nils] := by kernel_rfl
theorem tk_65 : tk Tryd.prog 65 = .struct [(62, 0), (63, 1)] := by kernel_rfl
theorem tsz_65 : tsz Tryd.prog 65 = some 2 := by kernel_rfl
theorem tby_65 : tby Tryd.prog 65 = some 32 := by kernel_rfl
theorem tze_65 : tze Tryd.prog 65 = some [.any, .nils] := by kernel_rfl
theorem tk_79 : tk Tryd.prog 79 = .map 3 57 := by kernel_rfl
theorem tsz_79 : tsz Tryd.prog 79 = some 1 := by kernel_rfl
theorem tby_79 : tby Tryd.prog 79 = some 8 := by kernel_rfl
theorem tze_79 : tze Tryd.prog 79 = some [.any] := by kernel_rfl
theorem tk_89 : tk Tryd.prog 89 = .other := by kernel_rfl
theorem tsz_89 : tsz Tryd.prog 89 = some 1 := by kernel_rfl
theorem tby_89 : tby Tryd.prog 89 = some 8 := by kernel_rfl
theorem tze_89 : tze Tryd.prog 89 = some [.any] := by kernel_rfl
theorem tk_91 : tk Tryd.prog 91 = .slice 4 := by kernel_rfl
theorem tsz_91 : tsz Tryd.prog 91 = some 1 := by kernel_rfl
theorem tby_91 : tby Tryd.prog 91 = some 24 := by kernel_rfl
theorem tze_91 : tze Tryd.prog 91 = some [.nils] := by kernel_rfl
theorem tk_93 : tk Tryd.prog 93 = .slice 22 := by kernel_rfl
theorem tsz_93 : tsz Tryd.prog 93 = some 1 := by kernel_rfl
theorem tby_93 : tby Tryd.prog 93 = some 24 := by kernel_rfl
theorem tze_93 : tze Tryd.prog 93 = some [.nils] := by kernel_rfl
theorem tk_99 : tk Tryd.prog 99 = .int .u64 := by kernel_rfl
theorem tsz_99 : tsz Tryd.prog 99 = some 1 := by kernel_rfl
theorem tby_99 : tby Tryd.prog 99 = some 8 := by kernel_rfl
theorem tzv_99 : tzv Tryd.prog 99 = some (.int .u64 0) := by kernel_rfl
theorem tze_99 : tze Tryd.prog 99 = some [.int .u64 0] := by kernel_rfl
theorem tk_100 : tk Tryd.prog 100 = .other := by kernel_rfl
theorem tsz_100 : tsz Tryd.prog 100 = some 1 := by kernel_rfl
theorem tby_100 : tby Tryd.prog 100 = some 8 := by kernel_rfl
theorem tze_100 : tze Tryd.prog 100 = some [.any] := by kernel_rfl
theorem tk_112 : tk Tryd.prog 112 = .int .i64 := by kernel_rfl
theorem tsz_112 : tsz Tryd.prog 112 = some 1 := by kernel_rfl
theorem tby_112 : tby Tryd.prog 112 = some 8 := by kernel_rfl
theorem tzv_112 : tzv Tryd.prog 112 = some (.int .i64 0) := by kernel_rfl
theorem tze_112 : tze Tryd.prog 112 = some [.int .i64 0] := by kernel_rfl
theorem tk_119 : tk Tryd.prog 119 = .int .u32 := by kernel_rfl
theorem tsz_119 : tsz Tryd.prog 119 = some 1 := by kernel_rfl
theorem tby_119 : tby Tryd.prog 119 = some 4 := by kernel_rfl
theorem tzv_119 : tzv Tryd.prog 119 = some (.int .u32 0) := by kernel_rfl
theorem tze_119 : tze Tryd.prog 119 = some [.int .u32 0] := by kernel_rfl
theorem tk_123 : tk Tryd.prog 123 = .int .u64 := by kernel_rfl
theorem tsz_123 : tsz Tryd.prog 123 = some 1 := by kernel_rfl
theorem tby_123 : tby Tryd.prog 123 = some 8 := by kernel_rfl
theorem tzv_123 : tzv Tryd.prog 123 = some (.int .u64 0) := by kernel_rfl
theorem tze_123 : tze Tryd.prog 123 = some [.int .u64 0] := by kernel_rfl
theorem tk_127 : tk Tryd.prog 127 = .other := by kernel_rfl
theorem tsz_127 : tsz Tryd.prog 127 = some 1 := by kernel_rfl
theorem tby_127 : tby Tryd.prog 127 = some 8 := by kernel_rfl
theorem tze_127 : tze Tryd.prog 127 = some [.any] := by kernel_rfl
theorem tk_129 : tk Tryd.prog 129 = .other := by kernel_rfl
theorem tsz_129 : tsz Tryd.prog 129 = some 1 := by kernel_rfl
theorem tby_129 : tby Tryd.prog 129 = some 8 := by kernel_rfl
theorem tze_129 : tze Tryd.prog 129 = some [.any] := by kernel_rfl
theorem tk_134 : tk Tryd.prog 134 = .struct [(17, 0), (17, 1), (17, 2), (9, 3)] := by kernel_rfl
theorem tsz_134 : tsz Tryd.prog 134 = some 4 := by kernel_rfl
theorem tby_134 : tby Tryd.prog 134 = some 40 := by kernel_rfl
theorem tze_134 : tze Tryd.prog 134 = some [.any, .any, .any, .str ByteArray.empty] := by kernel_rfl
theorem tk_135 : tk Tryd.prog 135 = .struct [(17, 0), (17, 1), (17, 2), (9, 3)] := by kernel_rfl
theorem tsz_135 : tsz Tryd.prog 135 = some 4 := by kernel_rfl
theorem tby_135 : tby Tryd.prog 135 = some 40 := by kernel_rfl
theorem tze_135 : tze Tryd.prog 135 = some [.any, .any, .any, .str ByteArray.empty] := by kernel_rfl
theorem tk_137 : tk Tryd.prog 137 = .struct [(136, 0)] := by kernel_rfl
theorem tsz_137 : tsz Tryd.prog 137 = some 0 := by kernel_rfl
theorem tby_137 : tby Tryd.prog 137 = some 0 := by kernel_rfl
theorem tze_137 : tze Tryd.prog 137 = some [] := by kernel_rfl
theorem tk_138 : tk Tryd.prog 138 = .struct [(136, 0)] := by kernel_rfl
theorem tsz_138 : tsz Tryd.prog 138 = some 0 := by kernel_rfl
theorem tby_138 : tby Tryd.prog 138 = some 0 := by kernel_rfl
theorem tze_138 : tze Tryd.prog 138 = some [] := by kernel_rfl
theorem tk_139 : tk Tryd.prog 139 = .int .u8 := by kernel_rfl
theorem tsz_139 : tsz Tryd.prog 139 = some 1 := by kernel_rfl
theorem tby_139 : tby Tryd.prog 139 = some 1 := by kernel_rfl
theorem tzv_139 : tzv Tryd.prog 139 = some (.int .u8 0) := by kernel_rfl
theorem tze_139 : tze Tryd.prog 139 = some [.int .u8 0] := by kernel_rfl
theorem tk_140 : tk Tryd.prog 140 = .int .u8 := by kernel_rfl
theorem tsz_140 : tsz Tryd.prog 140 = some 1 := by kernel_rfl
theorem tby_140 : tby Tryd.prog 140 = some 1 := by kernel_rfl
theorem tzv_140 : tzv Tryd.prog 140 = some (.int .u8 0) := by kernel_rfl
theorem tze_140 : tze Tryd.prog 140 = some [.int .u8 0] := by kernel_rfl
theorem tk_142 : tk Tryd.prog 142 = .int .i32 := by kernel_rfl
theorem tsz_142 : tsz Tryd.prog 142 = some 1 := by kernel_rfl
theorem tby_142 : tby Tryd.prog 142 = some 4 := by kernel_rfl
theorem tzv_142 : tzv Tryd.prog 142 = some (.int .i32 0) := by kernel_rfl
theorem tze_142 : tze Tryd.prog 142 = some [.int .i32 0] := by kernel_rfl
theorem tk_143 : tk Tryd.prog 143 = .int .i32 := by kernel_rfl
theorem tsz_143 : tsz Tryd.prog 143 = some 1 := by kernel_rfl
theorem tby_143 : tby Tryd.prog 143 = some 4 := by kernel_rfl
theorem tzv_143 : tzv Tryd.prog 143 = some (.int .i32 0) := by kernel_rfl
theorem tze_143 : tze Tryd.prog 143 = some [.int .i32 0] := by kernel_rfl
theorem tk_144 : tk Tryd.prog 144 = .struct [(12, 0), (12, 1), (119, 2), (139, 3), (5, 4), (5, 5), (140, 6), (141, 7), (89, 8), (142, 9), (143, 10)] := by kernel_rfl
theorem tsz_144 : tsz Tryd.prog 144 = some 11 := by kernel_rfl
theorem tby_144 : tby Tryd.prog 144 = some 48 := by kernel_rfl
theorem tze_144 : tze Tryd.prog 144 = some [.int .u64 0, .int .u64 0, .int .u32 0, .int .u8 0, .int .u8 0, .int .u8 0, .int .u8 0, .any, .any, .int .i32 0, .int .i32 0] := by kernel_rfl
theorem tk_145 : tk Tryd.prog 145 = .struct [(12, 0), (12, 1), (119, 2), (139, 3), (5, 4), (5, 5), (140, 6), (141, 7), (89, 8), (142, 9), (143, 10)] := by kernel_rfl
theorem tsz_145 : tsz Tryd.prog 145 = some 11 := by kernel_rfl
theorem tby_145 : tby Tryd.prog 145 = some 48 := by kernel_rfl
theorem tze_145 : tze Tryd.prog 145 = some [.int .u64 0, .int .u64 0, .int .u32 0, .int .u8 0, .int .u8 0, .int .u8 0, .int .u8 0, .any, .any, .int .i32 0, .int .i32 0] := by kernel_rfl
attribute [go_sem] tk_2 tsz_2 tby_2 tzv_2 tze_2 tk_3 tsz_3 tby_3 tzv_3 tze_3 tk_4 tsz_4 tby_4 tzv_4 tze_4 tk_5 tsz_5 tby_5 tzv_5 tze_5 tk_6 tsz_6 tby_6 tzv_6 tze_6 tk_7 tsz_7 tby_7 tze_7 tk_8 tsz_8 tby_8 tze_8 tk_9 tsz_9 tby_9 tzv_9 tze_9 tk_10 tsz_10
attribute [go_sem] tby_10 tzv_10 tze_10 tk_11 tsz_11 tby_11 tzv_11 tze_11 tk_12 tsz_12 tby_12 tzv_12 tze_12 tk_13 tsz_13 tby_13 tze_13 tk_14 tsz_14 tby_14 tze_14 tk_15 tsz_15 tby_15 tze_15 tk_16 tsz_16 tby_16 tze_16 tk_17 tsz_17 tby_17 tze_17 tk_18 tsz_18 tby_18 tze_18 tk_19 tsz_19 tby_19
attribute [go_sem] tze_19 tk_21 tsz_21 tby_21 tzv_21 tze_21 tk_22 tsz_22 tby_22 tze_22 tk_23 tsz_23 tby_23 tze_23 tk_24 tsz_24 tby_24 tze_24 tk_27 tsz_27 tby_27 tze_27 tk_28 tsz_28 tby_28 tze_28 tk_29 tsz_29 tby_29 tze_29 tk_30 tsz_30 tby_30 tzv_30 tze_30 tk_41 tsz_41 tby_41 tze_41 tk_48
attribute [go_sem] tsz_48 tby_48 tze_48 tk_49 tsz_49 tby_49 tze_49 tk_53 tsz_53 tby_53 tze_53 tk_55 tsz_55 tby_55 tzv_55 tze_55 tk_56 tsz_56 tby_56 tze_56 tk_57 tsz_57 tby_57 tze_57 tk_62 tsz_62 tby_62 tze_62 tk_63 tsz_63 tby_63 tze_63 tk_64 tsz_64 tby_64 tze_64 tk_65 tsz_65 tby_65 tze_65
attribute [go_sem] tk_79 tsz_79 tby_79 tze_79 tk_89 tsz_89 tby_89 tze_89 tk_91 tsz_91 tby_91 tze_91 tk_93 tsz_93 tby_93 tze_93 tk_99 tsz_99 tby_99 tzv_99 tze_99 tk_100 tsz_100 tby_100 tze_100 tk_112 tsz_112 tby_112 tzv_112 tze_112 tk_119 tsz_119 tby_119 tzv_119 tze_119 tk_123 tsz_123 tby_123 tzv_123 tze_123
attribute [go_sem] tk_127 tsz_127 tby_127 tze_127 tk_129 tsz_129 tby_129 tze_129 tk_134 tsz_134 tby_134 tze_134 tk_135 tsz_135 tby_135 tze_135 tk_137 tsz_137 tby_137 tze_137 tk_138 tsz_138 tby_138 tze_138 tk_139 tsz_139 tby_139 tzv_139 tze_139 tk_140 tsz_140 tby_140 tzv_140 tze_140 tk_142 tsz_142 tby_142 tzv_142 tze_142 tk_143
attribute [go_sem] tsz_143 tby_143 tzv_143 tze_143 tk_144 tsz_144 tby_144 tze_144 tk_145 tsz_145 tby_145 tze_145
theorem mixed : Tryd.prog.follows .mixedOrders = true := by kernel_rfl
end Go.Proofs.YtmfdclbiljpmgaaDoor
