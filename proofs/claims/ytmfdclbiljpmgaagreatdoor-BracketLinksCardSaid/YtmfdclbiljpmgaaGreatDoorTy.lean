/- The types of the translation: kinds, sizes, bytes, zero values; made by a program of the author (gentypes.py), each fact checked by the kernel. -/
import Derived.Test.YtmfdclbiljpmgaaGreatDoorGc
import Derived.Test.YtmfdclbiljpmgaaGreatDoorRows
namespace Go.Proofs.YtmfdclbiljpmgaaGreatDoor
open Go
theorem tk_2 : tk Tryz.prog 2 = .int .i64 := by kernel_rfl
theorem tsz_2 : tsz Tryz.prog 2 = some 1 := by kernel_rfl
theorem tby_2 : tby Tryz.prog 2 = some 8 := by kernel_rfl
theorem tzv_2 : tzv Tryz.prog 2 = some (.int .i64 0) := by kernel_rfl
theorem tze_2 : tze Tryz.prog 2 = some [.int .i64 0] := by kernel_rfl
theorem tk_3 : tk Tryz.prog 3 = .int .i64 := by kernel_rfl
theorem tsz_3 : tsz Tryz.prog 3 = some 1 := by kernel_rfl
theorem tby_3 : tby Tryz.prog 3 = some 8 := by kernel_rfl
theorem tzv_3 : tzv Tryz.prog 3 = some (.int .i64 0) := by kernel_rfl
theorem tze_3 : tze Tryz.prog 3 = some [.int .i64 0] := by kernel_rfl
theorem tk_4 : tk Tryz.prog 4 = .bool := by kernel_rfl
theorem tsz_4 : tsz Tryz.prog 4 = some 1 := by kernel_rfl
theorem tby_4 : tby Tryz.prog 4 = some 1 := by kernel_rfl
theorem tzv_4 : tzv Tryz.prog 4 = some (.bool false) := by kernel_rfl
theorem tze_4 : tze Tryz.prog 4 = some [.bool false] := by kernel_rfl
theorem tk_5 : tk Tryz.prog 5 = .int .u8 := by kernel_rfl
theorem tsz_5 : tsz Tryz.prog 5 = some 1 := by kernel_rfl
theorem tby_5 : tby Tryz.prog 5 = some 1 := by kernel_rfl
theorem tzv_5 : tzv Tryz.prog 5 = some (.int .u8 0) := by kernel_rfl
theorem tze_5 : tze Tryz.prog 5 = some [.int .u8 0] := by kernel_rfl
theorem tk_6 : tk Tryz.prog 6 = .int .u8 := by kernel_rfl
theorem tsz_6 : tsz Tryz.prog 6 = some 1 := by kernel_rfl
theorem tby_6 : tby Tryz.prog 6 = some 1 := by kernel_rfl
theorem tzv_6 : tzv Tryz.prog 6 = some (.int .u8 0) := by kernel_rfl
theorem tze_6 : tze Tryz.prog 6 = some [.int .u8 0] := by kernel_rfl
theorem tk_7 : tk Tryz.prog 7 = .struct [(2, 0), (3, 1), (4, 2), (6, 3)] := by kernel_rfl
theorem tsz_7 : tsz Tryz.prog 7 = some 4 := by kernel_rfl
theorem tby_7 : tby Tryz.prog 7 = some 24 := by kernel_rfl
theorem tze_7 : tze Tryz.prog 7 = some [.int .i64 0, .int .i64 0, .bool false, .int .u8 0] := by kernel_rfl
theorem tk_8 : tk Tryz.prog 8 = .struct [(2, 0), (3, 1), (4, 2), (6, 3)] := by kernel_rfl
theorem tsz_8 : tsz Tryz.prog 8 = some 4 := by kernel_rfl
theorem tby_8 : tby Tryz.prog 8 = some 24 := by kernel_rfl
theorem tze_8 : tze Tryz.prog 8 = some [.int .i64 0, .int .i64 0, .bool false, .int .u8 0] := by kernel_rfl
theorem tk_9 : tk Tryz.prog 9 = .str := by kernel_rfl
theorem tsz_9 : tsz Tryz.prog 9 = some 1 := by kernel_rfl
theorem tby_9 : tby Tryz.prog 9 = some 16 := by kernel_rfl
theorem tzv_9 : tzv Tryz.prog 9 = some (.str ByteArray.empty) := by kernel_rfl
theorem tze_9 : tze Tryz.prog 9 = some [.str ByteArray.empty] := by kernel_rfl
theorem tk_10 : tk Tryz.prog 10 = .str := by kernel_rfl
theorem tsz_10 : tsz Tryz.prog 10 = some 1 := by kernel_rfl
theorem tby_10 : tby Tryz.prog 10 = some 16 := by kernel_rfl
theorem tzv_10 : tzv Tryz.prog 10 = some (.str ByteArray.empty) := by kernel_rfl
theorem tze_10 : tze Tryz.prog 10 = some [.str ByteArray.empty] := by kernel_rfl
theorem tk_11 : tk Tryz.prog 11 = .str := by kernel_rfl
theorem tsz_11 : tsz Tryz.prog 11 = some 1 := by kernel_rfl
theorem tby_11 : tby Tryz.prog 11 = some 16 := by kernel_rfl
theorem tzv_11 : tzv Tryz.prog 11 = some (.str ByteArray.empty) := by kernel_rfl
theorem tze_11 : tze Tryz.prog 11 = some [.str ByteArray.empty] := by kernel_rfl
theorem tk_12 : tk Tryz.prog 12 = .int .u64 := by kernel_rfl
theorem tsz_12 : tsz Tryz.prog 12 = some 1 := by kernel_rfl
theorem tby_12 : tby Tryz.prog 12 = some 8 := by kernel_rfl
theorem tzv_12 : tzv Tryz.prog 12 = some (.int .u64 0) := by kernel_rfl
theorem tze_12 : tze Tryz.prog 12 = some [.int .u64 0] := by kernel_rfl
theorem tk_13 : tk Tryz.prog 13 = .struct [(9, 0), (12, 1)] := by kernel_rfl
theorem tsz_13 : tsz Tryz.prog 13 = some 2 := by kernel_rfl
theorem tby_13 : tby Tryz.prog 13 = some 24 := by kernel_rfl
theorem tze_13 : tze Tryz.prog 13 = some [.str ByteArray.empty, .int .u64 0] := by kernel_rfl
theorem tk_14 : tk Tryz.prog 14 = .struct [(9, 0), (12, 1)] := by kernel_rfl
theorem tsz_14 : tsz Tryz.prog 14 = some 2 := by kernel_rfl
theorem tby_14 : tby Tryz.prog 14 = some 24 := by kernel_rfl
theorem tze_14 : tze Tryz.prog 14 = some [.str ByteArray.empty, .int .u64 0] := by kernel_rfl
theorem tk_15 : tk Tryz.prog 15 = .other := by kernel_rfl
theorem tsz_15 : tsz Tryz.prog 15 = some 1 := by kernel_rfl
theorem tby_15 : tby Tryz.prog 15 = some 8 := by kernel_rfl
theorem tze_15 : tze Tryz.prog 15 = some [.any] := by kernel_rfl
theorem tk_16 : tk Tryz.prog 16 = .other := by kernel_rfl
theorem tsz_16 : tsz Tryz.prog 16 = some 1 := by kernel_rfl
theorem tby_16 : tby Tryz.prog 16 = some 8 := by kernel_rfl
theorem tze_16 : tze Tryz.prog 16 = some [.any] := by kernel_rfl
theorem tk_17 : tk Tryz.prog 17 = .other := by kernel_rfl
theorem tsz_17 : tsz Tryz.prog 17 = some 1 := by kernel_rfl
theorem tby_17 : tby Tryz.prog 17 = some 8 := by kernel_rfl
theorem tze_17 : tze Tryz.prog 17 = some [.any] := by kernel_rfl
theorem tk_18 : tk Tryz.prog 18 = .struct [(17, 0)] := by kernel_rfl
theorem tsz_18 : tsz Tryz.prog 18 = some 1 := by kernel_rfl
theorem tby_18 : tby Tryz.prog 18 = some 8 := by kernel_rfl
theorem tze_18 : tze Tryz.prog 18 = some [.any] := by kernel_rfl
theorem tk_19 : tk Tryz.prog 19 = .struct [(17, 0)] := by kernel_rfl
theorem tsz_19 : tsz Tryz.prog 19 = some 1 := by kernel_rfl
theorem tby_19 : tby Tryz.prog 19 = some 8 := by kernel_rfl
theorem tze_19 : tze Tryz.prog 19 = some [.any] := by kernel_rfl
theorem tk_21 : tk Tryz.prog 21 = .int .i32 := by kernel_rfl
theorem tsz_21 : tsz Tryz.prog 21 = some 1 := by kernel_rfl
theorem tby_21 : tby Tryz.prog 21 = some 4 := by kernel_rfl
theorem tzv_21 : tzv Tryz.prog 21 = some (.int .i32 0) := by kernel_rfl
theorem tze_21 : tze Tryz.prog 21 = some [.int .i32 0] := by kernel_rfl
theorem tk_22 : tk Tryz.prog 22 = .slice 3 := by kernel_rfl
theorem tsz_22 : tsz Tryz.prog 22 = some 1 := by kernel_rfl
theorem tby_22 : tby Tryz.prog 22 = some 24 := by kernel_rfl
theorem tze_22 : tze Tryz.prog 22 = some [.nils] := by kernel_rfl
theorem tk_23 : tk Tryz.prog 23 = .struct [(22, 0), (22, 1), (3, 2)] := by kernel_rfl
theorem tsz_23 : tsz Tryz.prog 23 = some 3 := by kernel_rfl
theorem tby_23 : tby Tryz.prog 23 = some 56 := by kernel_rfl
theorem tze_23 : tze Tryz.prog 23 = some [.nils, .nils, .int .i64 0] := by kernel_rfl
theorem tk_24 : tk Tryz.prog 24 = .struct [(22, 0), (22, 1), (3, 2)] := by kernel_rfl
theorem tsz_24 : tsz Tryz.prog 24 = some 3 := by kernel_rfl
theorem tby_24 : tby Tryz.prog 24 = some 56 := by kernel_rfl
theorem tze_24 : tze Tryz.prog 24 = some [.nils, .nils, .int .i64 0] := by kernel_rfl
theorem tk_27 : tk Tryz.prog 27 = .slice 76 := by kernel_rfl
theorem tsz_27 : tsz Tryz.prog 27 = some 1 := by kernel_rfl
theorem tby_27 : tby Tryz.prog 27 = some 24 := by kernel_rfl
theorem tze_27 : tze Tryz.prog 27 = some [.nils] := by kernel_rfl
theorem tk_28 : tk Tryz.prog 28 = .struct [(4, 0), (27, 1)] := by kernel_rfl
theorem tsz_28 : tsz Tryz.prog 28 = some 2 := by kernel_rfl
theorem tby_28 : tby Tryz.prog 28 = some 32 := by kernel_rfl
theorem tze_28 : tze Tryz.prog 28 = some [.bool false, .nils] := by kernel_rfl
theorem tk_29 : tk Tryz.prog 29 = .struct [(4, 0), (27, 1)] := by kernel_rfl
theorem tsz_29 : tsz Tryz.prog 29 = some 2 := by kernel_rfl
theorem tby_29 : tby Tryz.prog 29 = some 32 := by kernel_rfl
theorem tze_29 : tze Tryz.prog 29 = some [.bool false, .nils] := by kernel_rfl
theorem tk_30 : tk Tryz.prog 30 = .int .i64 := by kernel_rfl
theorem tsz_30 : tsz Tryz.prog 30 = some 1 := by kernel_rfl
theorem tby_30 : tby Tryz.prog 30 = some 8 := by kernel_rfl
theorem tzv_30 : tzv Tryz.prog 30 = some (.int .i64 0) := by kernel_rfl
theorem tze_30 : tze Tryz.prog 30 = some [.int .i64 0] := by kernel_rfl
theorem tk_37 : tk Tryz.prog 37 = .slice 85 := by kernel_rfl
theorem tsz_37 : tsz Tryz.prog 37 = some 1 := by kernel_rfl
theorem tby_37 : tby Tryz.prog 37 = some 24 := by kernel_rfl
theorem tze_37 : tze Tryz.prog 37 = some [.nils] := by kernel_rfl
theorem tk_38 : tk Tryz.prog 38 = .struct [(37, 0), (4, 1)] := by kernel_rfl
theorem tsz_38 : tsz Tryz.prog 38 = some 2 := by kernel_rfl
theorem tby_38 : tby Tryz.prog 38 = some 32 := by kernel_rfl
theorem tze_38 : tze Tryz.prog 38 = some [.nils, .bool false] := by kernel_rfl
theorem tk_39 : tk Tryz.prog 39 = .struct [(37, 0), (4, 1)] := by kernel_rfl
theorem tsz_39 : tsz Tryz.prog 39 = some 2 := by kernel_rfl
theorem tby_39 : tby Tryz.prog 39 = some 32 := by kernel_rfl
theorem tze_39 : tze Tryz.prog 39 = some [.nils, .bool false] := by kernel_rfl
theorem tk_60 : tk Tryz.prog 60 = .map 3 22 := by kernel_rfl
theorem tsz_60 : tsz Tryz.prog 60 = some 1 := by kernel_rfl
theorem tby_60 : tby Tryz.prog 60 = some 8 := by kernel_rfl
theorem tze_60 : tze Tryz.prog 60 = some [.any] := by kernel_rfl
theorem tk_69 : tk Tryz.prog 69 = .slice 22 := by kernel_rfl
theorem tsz_69 : tsz Tryz.prog 69 = some 1 := by kernel_rfl
theorem tby_69 : tby Tryz.prog 69 = some 24 := by kernel_rfl
theorem tze_69 : tze Tryz.prog 69 = some [.nils] := by kernel_rfl
theorem tk_71 : tk Tryz.prog 71 = .other := by kernel_rfl
theorem tsz_71 : tsz Tryz.prog 71 = some 1 := by kernel_rfl
theorem tby_71 : tby Tryz.prog 71 = some 8 := by kernel_rfl
theorem tze_71 : tze Tryz.prog 71 = some [.any] := by kernel_rfl
theorem tk_72 : tk Tryz.prog 72 = .slice 5 := by kernel_rfl
theorem tsz_72 : tsz Tryz.prog 72 = some 1 := by kernel_rfl
theorem tby_72 : tby Tryz.prog 72 = some 24 := by kernel_rfl
theorem tze_72 : tze Tryz.prog 72 = some [.nils] := by kernel_rfl
theorem tk_73 : tk Tryz.prog 73 = .struct [(71, 0), (72, 1)] := by kernel_rfl
theorem tsz_73 : tsz Tryz.prog 73 = some 2 := by kernel_rfl
theorem tby_73 : tby Tryz.prog 73 = some 32 := by kernel_rfl
theorem tze_73 : tze Tryz.prog 73 = some [.any, .nils] := by kernel_rfl
theorem tk_74 : tk Tryz.prog 74 = .struct [(71, 0), (72, 1)] := by kernel_rfl
theorem tsz_74 : tsz Tryz.prog 74 = some 2 := by kernel_rfl
theorem tby_74 : tby Tryz.prog 74 = some 32 := by kernel_rfl
theorem tze_74 : tze Tryz.prog 74 = some [.any, .nils] := by kernel_rfl
theorem tk_75 : tk Tryz.prog 75 = .struct [(3, 0), (3, 1)] := by kernel_rfl
theorem tsz_75 : tsz Tryz.prog 75 = some 2 := by kernel_rfl
theorem tby_75 : tby Tryz.prog 75 = some 16 := by kernel_rfl
theorem tze_75 : tze Tryz.prog 75 = some [.int .i64 0, .int .i64 0] := by kernel_rfl
theorem tk_76 : tk Tryz.prog 76 = .struct [(3, 0), (3, 1)] := by kernel_rfl
theorem tsz_76 : tsz Tryz.prog 76 = some 2 := by kernel_rfl
theorem tby_76 : tby Tryz.prog 76 = some 16 := by kernel_rfl
theorem tze_76 : tze Tryz.prog 76 = some [.int .i64 0, .int .i64 0] := by kernel_rfl
theorem tk_84 : tk Tryz.prog 84 = .struct [(3, 0), (3, 1)] := by kernel_rfl
theorem tsz_84 : tsz Tryz.prog 84 = some 2 := by kernel_rfl
theorem tby_84 : tby Tryz.prog 84 = some 16 := by kernel_rfl
theorem tze_84 : tze Tryz.prog 84 = some [.int .i64 0, .int .i64 0] := by kernel_rfl
theorem tk_85 : tk Tryz.prog 85 = .struct [(3, 0), (3, 1)] := by kernel_rfl
theorem tsz_85 : tsz Tryz.prog 85 = some 2 := by kernel_rfl
theorem tby_85 : tby Tryz.prog 85 = some 16 := by kernel_rfl
theorem tze_85 : tze Tryz.prog 85 = some [.int .i64 0, .int .i64 0] := by kernel_rfl
theorem tk_87 : tk Tryz.prog 87 = .slice 4 := by kernel_rfl
theorem tsz_87 : tsz Tryz.prog 87 = some 1 := by kernel_rfl
theorem tby_87 : tby Tryz.prog 87 = some 24 := by kernel_rfl
theorem tze_87 : tze Tryz.prog 87 = some [.nils] := by kernel_rfl
theorem tk_97 : tk Tryz.prog 97 = .int .u64 := by kernel_rfl
theorem tsz_97 : tsz Tryz.prog 97 = some 1 := by kernel_rfl
theorem tby_97 : tby Tryz.prog 97 = some 8 := by kernel_rfl
theorem tzv_97 : tzv Tryz.prog 97 = some (.int .u64 0) := by kernel_rfl
theorem tze_97 : tze Tryz.prog 97 = some [.int .u64 0] := by kernel_rfl
theorem tk_98 : tk Tryz.prog 98 = .struct [(97, 0), (97, 1)] := by kernel_rfl
theorem tsz_98 : tsz Tryz.prog 98 = some 2 := by kernel_rfl
theorem tby_98 : tby Tryz.prog 98 = some 16 := by kernel_rfl
theorem tze_98 : tze Tryz.prog 98 = some [.int .u64 0, .int .u64 0] := by kernel_rfl
theorem tk_99 : tk Tryz.prog 99 = .struct [(97, 0), (97, 1)] := by kernel_rfl
theorem tsz_99 : tsz Tryz.prog 99 = some 2 := by kernel_rfl
theorem tby_99 : tby Tryz.prog 99 = some 16 := by kernel_rfl
theorem tze_99 : tze Tryz.prog 99 = some [.int .u64 0, .int .u64 0] := by kernel_rfl
theorem tk_115 : tk Tryz.prog 115 = .slice 99 := by kernel_rfl
theorem tsz_115 : tsz Tryz.prog 115 = some 1 := by kernel_rfl
theorem tby_115 : tby Tryz.prog 115 = some 24 := by kernel_rfl
theorem tze_115 : tze Tryz.prog 115 = some [.nils] := by kernel_rfl
theorem tk_120 : tk Tryz.prog 120 = .other := by kernel_rfl
theorem tsz_120 : tsz Tryz.prog 120 = some 1 := by kernel_rfl
theorem tby_120 : tby Tryz.prog 120 = some 8 := by kernel_rfl
theorem tze_120 : tze Tryz.prog 120 = some [.any] := by kernel_rfl
theorem tk_122 : tk Tryz.prog 122 = .slice 126 := by kernel_rfl
theorem tsz_122 : tsz Tryz.prog 122 = some 1 := by kernel_rfl
theorem tby_122 : tby Tryz.prog 122 = some 24 := by kernel_rfl
theorem tze_122 : tze Tryz.prog 122 = some [.nils] := by kernel_rfl
theorem tk_125 : tk Tryz.prog 125 = .struct [(3, 0), (3, 1)] := by kernel_rfl
theorem tsz_125 : tsz Tryz.prog 125 = some 2 := by kernel_rfl
theorem tby_125 : tby Tryz.prog 125 = some 16 := by kernel_rfl
theorem tze_125 : tze Tryz.prog 125 = some [.int .i64 0, .int .i64 0] := by kernel_rfl
theorem tk_126 : tk Tryz.prog 126 = .struct [(3, 0), (3, 1)] := by kernel_rfl
theorem tsz_126 : tsz Tryz.prog 126 = some 2 := by kernel_rfl
theorem tby_126 : tby Tryz.prog 126 = some 16 := by kernel_rfl
theorem tze_126 : tze Tryz.prog 126 = some [.int .i64 0, .int .i64 0] := by kernel_rfl
theorem tk_132 : tk Tryz.prog 132 = .int .u64 := by kernel_rfl
theorem tsz_132 : tsz Tryz.prog 132 = some 1 := by kernel_rfl
theorem tby_132 : tby Tryz.prog 132 = some 8 := by kernel_rfl
theorem tzv_132 : tzv Tryz.prog 132 = some (.int .u64 0) := by kernel_rfl
theorem tze_132 : tze Tryz.prog 132 = some [.int .u64 0] := by kernel_rfl
theorem tk_144 : tk Tryz.prog 144 = .map 3 146 := by kernel_rfl
theorem tsz_144 : tsz Tryz.prog 144 = some 1 := by kernel_rfl
theorem tby_144 : tby Tryz.prog 144 = some 8 := by kernel_rfl
theorem tze_144 : tze Tryz.prog 144 = some [.any] := by kernel_rfl
theorem tk_149 : tk Tryz.prog 149 = .map 3 99 := by kernel_rfl
theorem tsz_149 : tsz Tryz.prog 149 = some 1 := by kernel_rfl
theorem tby_149 : tby Tryz.prog 149 = some 8 := by kernel_rfl
theorem tze_149 : tze Tryz.prog 149 = some [.any] := by kernel_rfl
theorem tk_155 : tk Tryz.prog 155 = .other := by kernel_rfl
theorem tsz_155 : tsz Tryz.prog 155 = some 1 := by kernel_rfl
theorem tby_155 : tby Tryz.prog 155 = some 8 := by kernel_rfl
theorem tze_155 : tze Tryz.prog 155 = some [.any] := by kernel_rfl
theorem tk_168 : tk Tryz.prog 168 = .struct [(3, 0), (22, 1)] := by kernel_rfl
theorem tsz_168 : tsz Tryz.prog 168 = some 2 := by kernel_rfl
theorem tby_168 : tby Tryz.prog 168 = some 32 := by kernel_rfl
theorem tze_168 : tze Tryz.prog 168 = some [.int .i64 0, .nils] := by kernel_rfl
theorem tk_169 : tk Tryz.prog 169 = .struct [(3, 0), (22, 1)] := by kernel_rfl
theorem tsz_169 : tsz Tryz.prog 169 = some 2 := by kernel_rfl
theorem tby_169 : tby Tryz.prog 169 = some 32 := by kernel_rfl
theorem tze_169 : tze Tryz.prog 169 = some [.int .i64 0, .nils] := by kernel_rfl
theorem tk_170 : tk Tryz.prog 170 = .map 9 169 := by kernel_rfl
theorem tsz_170 : tsz Tryz.prog 170 = some 1 := by kernel_rfl
theorem tby_170 : tby Tryz.prog 170 = some 8 := by kernel_rfl
theorem tze_170 : tze Tryz.prog 170 = some [.any] := by kernel_rfl
theorem tk_171 : tk Tryz.prog 171 = .struct [(3, 0), (22, 1), (22, 2), (22, 3)] := by kernel_rfl
theorem tsz_171 : tsz Tryz.prog 171 = some 4 := by kernel_rfl
theorem tby_171 : tby Tryz.prog 171 = some 80 := by kernel_rfl
theorem tze_171 : tze Tryz.prog 171 = some [.int .i64 0, .nils, .nils, .nils] := by kernel_rfl
theorem tk_172 : tk Tryz.prog 172 = .struct [(3, 0), (22, 1), (22, 2), (22, 3)] := by kernel_rfl
theorem tsz_172 : tsz Tryz.prog 172 = some 4 := by kernel_rfl
theorem tby_172 : tby Tryz.prog 172 = some 80 := by kernel_rfl
theorem tze_172 : tze Tryz.prog 172 = some [.int .i64 0, .nils, .nils, .nils] := by kernel_rfl
theorem tk_185 : tk Tryz.prog 185 = .map 3 3 := by kernel_rfl
theorem tsz_185 : tsz Tryz.prog 185 = some 1 := by kernel_rfl
theorem tby_185 : tby Tryz.prog 185 = some 8 := by kernel_rfl
theorem tze_185 : tze Tryz.prog 185 = some [.any] := by kernel_rfl
theorem tk_196 : tk Tryz.prog 196 = .int .u32 := by kernel_rfl
theorem tsz_196 : tsz Tryz.prog 196 = some 1 := by kernel_rfl
theorem tby_196 : tby Tryz.prog 196 = some 4 := by kernel_rfl
theorem tzv_196 : tzv Tryz.prog 196 = some (.int .u32 0) := by kernel_rfl
theorem tze_196 : tze Tryz.prog 196 = some [.int .u32 0] := by kernel_rfl
theorem tk_199 : tk Tryz.prog 199 = .int .i64 := by kernel_rfl
theorem tsz_199 : tsz Tryz.prog 199 = some 1 := by kernel_rfl
theorem tby_199 : tby Tryz.prog 199 = some 8 := by kernel_rfl
theorem tzv_199 : tzv Tryz.prog 199 = some (.int .i64 0) := by kernel_rfl
theorem tze_199 : tze Tryz.prog 199 = some [.int .i64 0] := by kernel_rfl
theorem tk_206 : tk Tryz.prog 206 = .int .u64 := by kernel_rfl
theorem tsz_206 : tsz Tryz.prog 206 = some 1 := by kernel_rfl
theorem tby_206 : tby Tryz.prog 206 = some 8 := by kernel_rfl
theorem tzv_206 : tzv Tryz.prog 206 = some (.int .u64 0) := by kernel_rfl
theorem tze_206 : tze Tryz.prog 206 = some [.int .u64 0] := by kernel_rfl
theorem tk_210 : tk Tryz.prog 210 = .other := by kernel_rfl
theorem tsz_210 : tsz Tryz.prog 210 = some 1 := by kernel_rfl
theorem tby_210 : tby Tryz.prog 210 = some 8 := by kernel_rfl
theorem tze_210 : tze Tryz.prog 210 = some [.any] := by kernel_rfl
theorem tk_214 : tk Tryz.prog 214 = .other := by kernel_rfl
theorem tsz_214 : tsz Tryz.prog 214 = some 1 := by kernel_rfl
theorem tby_214 : tby Tryz.prog 214 = some 8 := by kernel_rfl
theorem tze_214 : tze Tryz.prog 214 = some [.any] := by kernel_rfl
theorem tk_217 : tk Tryz.prog 217 = .other := by kernel_rfl
theorem tsz_217 : tsz Tryz.prog 217 = some 1 := by kernel_rfl
theorem tby_217 : tby Tryz.prog 217 = some 8 := by kernel_rfl
theorem tze_217 : tze Tryz.prog 217 = some [.any] := by kernel_rfl
theorem tk_218 : tk Tryz.prog 218 = .struct [(17, 0), (17, 1), (17, 2), (9, 3)] := by kernel_rfl
theorem tsz_218 : tsz Tryz.prog 218 = some 4 := by kernel_rfl
theorem tby_218 : tby Tryz.prog 218 = some 40 := by kernel_rfl
theorem tze_218 : tze Tryz.prog 218 = some [.any, .any, .any, .str ByteArray.empty] := by kernel_rfl
theorem tk_219 : tk Tryz.prog 219 = .struct [(17, 0), (17, 1), (17, 2), (9, 3)] := by kernel_rfl
theorem tsz_219 : tsz Tryz.prog 219 = some 4 := by kernel_rfl
theorem tby_219 : tby Tryz.prog 219 = some 40 := by kernel_rfl
theorem tze_219 : tze Tryz.prog 219 = some [.any, .any, .any, .str ByteArray.empty] := by kernel_rfl
theorem tk_221 : tk Tryz.prog 221 = .struct [(220, 0)] := by kernel_rfl
theorem tsz_221 : tsz Tryz.prog 221 = some 0 := by kernel_rfl
theorem tby_221 : tby Tryz.prog 221 = some 0 := by kernel_rfl
theorem tze_221 : tze Tryz.prog 221 = some [] := by kernel_rfl
theorem tk_222 : tk Tryz.prog 222 = .struct [(220, 0)] := by kernel_rfl
theorem tsz_222 : tsz Tryz.prog 222 = some 0 := by kernel_rfl
theorem tby_222 : tby Tryz.prog 222 = some 0 := by kernel_rfl
theorem tze_222 : tze Tryz.prog 222 = some [] := by kernel_rfl
theorem tk_223 : tk Tryz.prog 223 = .int .u8 := by kernel_rfl
theorem tsz_223 : tsz Tryz.prog 223 = some 1 := by kernel_rfl
theorem tby_223 : tby Tryz.prog 223 = some 1 := by kernel_rfl
theorem tzv_223 : tzv Tryz.prog 223 = some (.int .u8 0) := by kernel_rfl
theorem tze_223 : tze Tryz.prog 223 = some [.int .u8 0] := by kernel_rfl
theorem tk_224 : tk Tryz.prog 224 = .int .u8 := by kernel_rfl
theorem tsz_224 : tsz Tryz.prog 224 = some 1 := by kernel_rfl
theorem tby_224 : tby Tryz.prog 224 = some 1 := by kernel_rfl
theorem tzv_224 : tzv Tryz.prog 224 = some (.int .u8 0) := by kernel_rfl
theorem tze_224 : tze Tryz.prog 224 = some [.int .u8 0] := by kernel_rfl
theorem tk_226 : tk Tryz.prog 226 = .int .i32 := by kernel_rfl
theorem tsz_226 : tsz Tryz.prog 226 = some 1 := by kernel_rfl
theorem tby_226 : tby Tryz.prog 226 = some 4 := by kernel_rfl
theorem tzv_226 : tzv Tryz.prog 226 = some (.int .i32 0) := by kernel_rfl
theorem tze_226 : tze Tryz.prog 226 = some [.int .i32 0] := by kernel_rfl
theorem tk_227 : tk Tryz.prog 227 = .int .i32 := by kernel_rfl
theorem tsz_227 : tsz Tryz.prog 227 = some 1 := by kernel_rfl
theorem tby_227 : tby Tryz.prog 227 = some 4 := by kernel_rfl
theorem tzv_227 : tzv Tryz.prog 227 = some (.int .i32 0) := by kernel_rfl
theorem tze_227 : tze Tryz.prog 227 = some [.int .i32 0] := by kernel_rfl
theorem tk_228 : tk Tryz.prog 228 = .struct [(12, 0), (12, 1), (196, 2), (223, 3), (5, 4), (5, 5), (224, 6), (225, 7), (120, 8), (226, 9), (227, 10)] := by kernel_rfl
theorem tsz_228 : tsz Tryz.prog 228 = some 11 := by kernel_rfl
theorem tby_228 : tby Tryz.prog 228 = some 48 := by kernel_rfl
theorem tze_228 : tze Tryz.prog 228 = some [.int .u64 0, .int .u64 0, .int .u32 0, .int .u8 0, .int .u8 0, .int .u8 0, .int .u8 0, .any, .any, .int .i32 0, .int .i32 0] := by kernel_rfl
theorem tk_229 : tk Tryz.prog 229 = .struct [(12, 0), (12, 1), (196, 2), (223, 3), (5, 4), (5, 5), (224, 6), (225, 7), (120, 8), (226, 9), (227, 10)] := by kernel_rfl
theorem tsz_229 : tsz Tryz.prog 229 = some 11 := by kernel_rfl
theorem tby_229 : tby Tryz.prog 229 = some 48 := by kernel_rfl
theorem tze_229 : tze Tryz.prog 229 = some [.int .u64 0, .int .u64 0, .int .u32 0, .int .u8 0, .int .u8 0, .int .u8 0, .int .u8 0, .any, .any, .int .i32 0, .int .i32 0] := by kernel_rfl
theorem tk_230 : tk Tryz.prog 230 = .struct [(9, 0)] := by kernel_rfl
theorem tsz_230 : tsz Tryz.prog 230 = some 1 := by kernel_rfl
theorem tby_230 : tby Tryz.prog 230 = some 16 := by kernel_rfl
theorem tze_230 : tze Tryz.prog 230 = some [.str ByteArray.empty] := by kernel_rfl
theorem tk_231 : tk Tryz.prog 231 = .struct [(9, 0)] := by kernel_rfl
theorem tsz_231 : tsz Tryz.prog 231 = some 1 := by kernel_rfl
theorem tby_231 : tby Tryz.prog 231 = some 16 := by kernel_rfl
theorem tze_231 : tze Tryz.prog 231 = some [.str ByteArray.empty] := by kernel_rfl
attribute [go_sem] tk_2 tsz_2 tby_2 tzv_2 tze_2 tk_3 tsz_3 tby_3 tzv_3 tze_3 tk_4 tsz_4 tby_4 tzv_4 tze_4 tk_5 tsz_5 tby_5 tzv_5 tze_5 tk_6 tsz_6 tby_6 tzv_6 tze_6 tk_7 tsz_7 tby_7 tze_7 tk_8 tsz_8 tby_8 tze_8 tk_9 tsz_9 tby_9 tzv_9 tze_9 tk_10 tsz_10
attribute [go_sem] tby_10 tzv_10 tze_10 tk_11 tsz_11 tby_11 tzv_11 tze_11 tk_12 tsz_12 tby_12 tzv_12 tze_12 tk_13 tsz_13 tby_13 tze_13 tk_14 tsz_14 tby_14 tze_14 tk_15 tsz_15 tby_15 tze_15 tk_16 tsz_16 tby_16 tze_16 tk_17 tsz_17 tby_17 tze_17 tk_18 tsz_18 tby_18 tze_18 tk_19 tsz_19 tby_19
attribute [go_sem] tze_19 tk_21 tsz_21 tby_21 tzv_21 tze_21 tk_22 tsz_22 tby_22 tze_22 tk_23 tsz_23 tby_23 tze_23 tk_24 tsz_24 tby_24 tze_24 tk_27 tsz_27 tby_27 tze_27 tk_28 tsz_28 tby_28 tze_28 tk_29 tsz_29 tby_29 tze_29 tk_30 tsz_30 tby_30 tzv_30 tze_30 tk_37 tsz_37 tby_37 tze_37 tk_38
attribute [go_sem] tsz_38 tby_38 tze_38 tk_39 tsz_39 tby_39 tze_39 tk_60 tsz_60 tby_60 tze_60 tk_69 tsz_69 tby_69 tze_69 tk_71 tsz_71 tby_71 tze_71 tk_72 tsz_72 tby_72 tze_72 tk_73 tsz_73 tby_73 tze_73 tk_74 tsz_74 tby_74 tze_74 tk_75 tsz_75 tby_75 tze_75 tk_76 tsz_76 tby_76 tze_76 tk_84
attribute [go_sem] tsz_84 tby_84 tze_84 tk_85 tsz_85 tby_85 tze_85 tk_87 tsz_87 tby_87 tze_87 tk_97 tsz_97 tby_97 tzv_97 tze_97 tk_98 tsz_98 tby_98 tze_98 tk_99 tsz_99 tby_99 tze_99 tk_115 tsz_115 tby_115 tze_115 tk_120 tsz_120 tby_120 tze_120 tk_122 tsz_122 tby_122 tze_122 tk_125 tsz_125 tby_125 tze_125
attribute [go_sem] tk_126 tsz_126 tby_126 tze_126 tk_132 tsz_132 tby_132 tzv_132 tze_132 tk_144 tsz_144 tby_144 tze_144 tk_149 tsz_149 tby_149 tze_149 tk_155 tsz_155 tby_155 tze_155 tk_168 tsz_168 tby_168 tze_168 tk_169 tsz_169 tby_169 tze_169 tk_170 tsz_170 tby_170 tze_170 tk_171 tsz_171 tby_171 tze_171 tk_172 tsz_172 tby_172
attribute [go_sem] tze_172 tk_185 tsz_185 tby_185 tze_185 tk_196 tsz_196 tby_196 tzv_196 tze_196 tk_199 tsz_199 tby_199 tzv_199 tze_199 tk_206 tsz_206 tby_206 tzv_206 tze_206 tk_210 tsz_210 tby_210 tze_210 tk_214 tsz_214 tby_214 tze_214 tk_217 tsz_217 tby_217 tze_217 tk_218 tsz_218 tby_218 tze_218 tk_219 tsz_219 tby_219 tze_219
attribute [go_sem] tk_221 tsz_221 tby_221 tze_221 tk_222 tsz_222 tby_222 tze_222 tk_223 tsz_223 tby_223 tzv_223 tze_223 tk_224 tsz_224 tby_224 tzv_224 tze_224 tk_226 tsz_226 tby_226 tzv_226 tze_226 tk_227 tsz_227 tby_227 tzv_227 tze_227 tk_228 tsz_228 tby_228 tze_228 tk_229 tsz_229 tby_229 tze_229 tk_230 tsz_230 tby_230 tze_230
attribute [go_sem] tk_231 tsz_231 tby_231 tze_231
theorem mixed : Tryz.prog.follows .mixedOrders = true := by kernel_rfl
end Go.Proofs.YtmfdclbiljpmgaaGreatDoor
