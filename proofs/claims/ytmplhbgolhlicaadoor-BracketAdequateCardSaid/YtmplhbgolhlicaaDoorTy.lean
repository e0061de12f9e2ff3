/- The types of the translation: kinds, sizes, bytes, zero values; made by a program of the author (gentypes.py), each fact checked by the kernel. -/
import Derived.Test.YtmplhbgolhlicaaDoorGc
import Derived.Test.YtmplhbgolhlicaaDoorRows
namespace Go.Proofs.YtmplhbgolhlicaaDoor
open Go
theorem tk_2 : tk Tryd.prog 2 = .int .i64 := by kernel_rfl
theorem tsz_2 : tsz Tryd.prog 2 = some 1 := by kernel_rfl
theorem tby_2 : tby Tryd.prog 2 = some 8 := by kernel_rfl
theorem tzv_2 : tzv Tryd.prog 2 = some (.int .i64 0) := by kernel_rfl
theorem tze_2 : tze Tryd.prog 2 = some [.int .i64 0] := by kernel_rfl
theorem tk_3 : tk Tryd.prog 3 = .int .i64 := by kernel_rfl
theorem tsz_3 : tsz Tryd.prog 3 = some 1 := by kernel_rfl
theorem tby_3 : tby Tryd.prog 3 = some 8 := by kernel_rfl
theorem tzv_3 : tzv Tryd.prog 3 = some (.int .i64 0) := by kernel_rfl
theorem tze_3 : tze Tryd.prog 3 = some [.int .i64 0] := by kernel_rfl
theorem tk_4 : tk Tryd.prog 4 = .bool := by kernel_rfl
theorem tsz_4 : tsz Tryd.prog 4 = some 1 := by kernel_rfl
theorem tby_4 : tby Tryd.prog 4 = some 1 := by kernel_rfl
theorem tzv_4 : tzv Tryd.prog 4 = some (.bool false) := by kernel_rfl
theorem tze_4 : tze Tryd.prog 4 = some [.bool false] := by kernel_rfl
theorem tk_5 : tk Tryd.prog 5 = .int .u8 := by kernel_rfl
theorem tsz_5 : tsz Tryd.prog 5 = some 1 := by kernel_rfl
theorem tby_5 : tby Tryd.prog 5 = some 1 := by kernel_rfl
theorem tzv_5 : tzv Tryd.prog 5 = some (.int .u8 0) := by kernel_rfl
theorem tze_5 : tze Tryd.prog 5 = some [.int .u8 0] := by kernel_rfl
theorem tk_6 : tk Tryd.prog 6 = .int .u8 := by kernel_rfl
theorem tsz_6 : tsz Tryd.prog 6 = some 1 := by kernel_rfl
theorem tby_6 : tby Tryd.prog 6 = some 1 := by kernel_rfl
theorem tzv_6 : tzv Tryd.prog 6 = some (.int .u8 0) := by kernel_rfl
theorem tze_6 : tze Tryd.prog 6 = some [.int .u8 0] := by kernel_rfl
theorem tk_7 : tk Tryd.prog 7 = .struct [(2, 0), (3, 1), (4, 2), (6, 3)] := by kernel_rfl
theorem tsz_7 : tsz Tryd.prog 7 = some 4 := by kernel_rfl
theorem tby_7 : tby Tryd.prog 7 = some 24 := by kernel_rfl
theorem tze_7 : tze Tryd.prog 7 = some [.int .i64 0, .int .i64 0, .bool false, .int .u8 0] := by kernel_rfl
theorem tk_8 : tk Tryd.prog 8 = .struct [(2, 0), (3, 1), (4, 2), (6, 3)] := by kernel_rfl
theorem tsz_8 : tsz Tryd.prog 8 = some 4 := by kernel_rfl
theorem tby_8 : tby Tryd.prog 8 = some 24 := by kernel_rfl
theorem tze_8 : tze Tryd.prog 8 = some [.int .i64 0, .int .i64 0, .bool false, .int .u8 0] := by kernel_rfl
theorem tk_9 : tk Tryd.prog 9 = .str := by kernel_rfl
theorem tsz_9 : tsz Tryd.prog 9 = some 1 := by kernel_rfl
theorem tby_9 : tby Tryd.prog 9 = some 16 := by kernel_rfl
theorem tzv_9 : tzv Tryd.prog 9 = some (.str ByteArray.empty) := by kernel_rfl
theorem tze_9 : tze Tryd.prog 9 = some [.str ByteArray.empty] := by kernel_rfl
theorem tk_10 : tk Tryd.prog 10 = .str := by kernel_rfl
theorem tsz_10 : tsz Tryd.prog 10 = some 1 := by kernel_rfl
theorem tby_10 : tby Tryd.prog 10 = some 16 := by kernel_rfl
theorem tzv_10 : tzv Tryd.prog 10 = some (.str ByteArray.empty) := by kernel_rfl
theorem tze_10 : tze Tryd.prog 10 = some [.str ByteArray.empty] := by kernel_rfl
theorem tk_11 : tk Tryd.prog 11 = .str := by kernel_rfl
theorem tsz_11 : tsz Tryd.prog 11 = some 1 := by kernel_rfl
theorem tby_11 : tby Tryd.prog 11 = some 16 := by kernel_rfl
theorem tzv_11 : tzv Tryd.prog 11 = some (.str ByteArray.empty) := by kernel_rfl
theorem tze_11 : tze Tryd.prog 11 = some [.str ByteArray.empty] := by kernel_rfl
theorem tk_12 : tk Tryd.prog 12 = .int .u64 := by kernel_rfl
theorem tsz_12 : tsz Tryd.prog 12 = some 1 := by kernel_rfl
theorem tby_12 : tby Tryd.prog 12 = some 8 := by kernel_rfl
theorem tzv_12 : tzv Tryd.prog 12 = some (.int .u64 0) := by kernel_rfl
theorem tze_12 : tze Tryd.prog 12 = some [.int .u64 0] := by kernel_rfl
theorem tk_13 : tk Tryd.prog 13 = .struct [(9, 0), (12, 1)] := by kernel_rfl
theorem tsz_13 : tsz Tryd.prog 13 = some 2 := by kernel_rfl
theorem tby_13 : tby Tryd.prog 13 = some 24 := by kernel_rfl
theorem tze_13 : tze Tryd.prog 13 = some [.str ByteArray.empty, .int .u64 0] := by kernel_rfl
theorem tk_14 : tk Tryd.prog 14 = .struct [(9, 0), (12, 1)] := by kernel_rfl
theorem tsz_14 : tsz Tryd.prog 14 = some 2 := by kernel_rfl
theorem tby_14 : tby Tryd.prog 14 = some 24 := by kernel_rfl
theorem tze_14 : tze Tryd.prog 14 = some [.str ByteArray.empty, .int .u64 0] := by kernel_rfl
theorem tk_15 : tk Tryd.prog 15 = .other := by kernel_rfl
theorem tsz_15 : tsz Tryd.prog 15 = some 1 := by kernel_rfl
theorem tby_15 : tby Tryd.prog 15 = some 8 := by kernel_rfl
theorem tze_15 : tze Tryd.prog 15 = some [.any] := by kernel_rfl
theorem tk_16 : tk Tryd.prog 16 = .other := by kernel_rfl
theorem tsz_16 : tsz Tryd.prog 16 = some 1 := by kernel_rfl
theorem tby_16 : tby Tryd.prog 16 = some 8 := by kernel_rfl
theorem tze_16 : tze Tryd.prog 16 = some [.any] := by kernel_rfl
theorem tk_17 : tk Tryd.prog 17 = .other := by kernel_rfl
theorem tsz_17 : tsz Tryd.prog 17 = some 1 := by kernel_rfl
theorem tby_17 : tby Tryd.prog 17 = some 8 := by kernel_rfl
theorem tze_17 : tze Tryd.prog 17 = some [.any] := by kernel_rfl
theorem tk_18 : tk Tryd.prog 18 = .struct [(17, 0)] := by kernel_rfl
theorem tsz_18 : tsz Tryd.prog 18 = some 1 := by kernel_rfl
theorem tby_18 : tby Tryd.prog 18 = some 8 := by kernel_rfl
theorem tze_18 : tze Tryd.prog 18 = some [.any] := by kernel_rfl
theorem tk_19 : tk Tryd.prog 19 = .struct [(17, 0)] := by kernel_rfl
theorem tsz_19 : tsz Tryd.prog 19 = some 1 := by kernel_rfl
theorem tby_19 : tby Tryd.prog 19 = some 8 := by kernel_rfl
theorem tze_19 : tze Tryd.prog 19 = some [.any] := by kernel_rfl
theorem tk_21 : tk Tryd.prog 21 = .int .i32 := by kernel_rfl
theorem tsz_21 : tsz Tryd.prog 21 = some 1 := by kernel_rfl
theorem tby_21 : tby Tryd.prog 21 = some 4 := by kernel_rfl
theorem tzv_21 : tzv Tryd.prog 21 = some (.int .i32 0) := by kernel_rfl
theorem tze_21 : tze Tryd.prog 21 = some [.int .i32 0] := by kernel_rfl
theorem tk_22 : tk Tryd.prog 22 = .slice 3 := by kernel_rfl
theorem tsz_22 : tsz Tryd.prog 22 = some 1 := by kernel_rfl
theorem tby_22 : tby Tryd.prog 22 = some 24 := by kernel_rfl
theorem tze_22 : tze Tryd.prog 22 = some [.nils] := by kernel_rfl
theorem tk_23 : tk Tryd.prog 23 = .struct [(22, 0), (22, 1), (3, 2)] := by kernel_rfl
theorem tsz_23 : tsz Tryd.prog 23 = some 3 := by kernel_rfl
theorem tby_23 : tby Tryd.prog 23 = some 56 := by kernel_rfl
theorem tze_23 : tze Tryd.prog 23 = some [.nils, .nils, .int .i64 0] := by kernel_rfl
theorem tk_24 : tk Tryd.prog 24 = .struct [(22, 0), (22, 1), (3, 2)] := by kernel_rfl
theorem tsz_24 : tsz Tryd.prog 24 = some 3 := by kernel_rfl
theorem tby_24 : tby Tryd.prog 24 = some 56 := by kernel_rfl
theorem tze_24 : tze Tryd.prog 24 = some [.nils, .nils, .int .i64 0] := by kernel_rfl
theorem tk_28 : tk Tryd.prog 28 = .int .i64 := by kernel_rfl
theorem tsz_28 : tsz Tryd.prog 28 = some 1 := by kernel_rfl
theorem tby_28 : tby Tryd.prog 28 = some 8 := by kernel_rfl
theorem tzv_28 : tzv Tryd.prog 28 = some (.int .i64 0) := by kernel_rfl
theorem tze_28 : tze Tryd.prog 28 = some [.int .i64 0] := by kernel_rfl
theorem tk_35 : tk Tryd.prog 35 = .slice 81 := by kernel_rfl
theorem tsz_35 : tsz Tryd.prog 35 = some 1 := by kernel_rfl
theorem tby_35 : tby Tryd.prog 35 = some 24 := by kernel_rfl
theorem tze_35 : tze Tryd.prog 35 = some [.nils] := by kernel_rfl
theorem tk_36 : tk Tryd.prog 36 = .struct [(4, 0), (35, 1)] := by kernel_rfl
theorem tsz_36 : tsz Tryd.prog 36 = some 2 := by kernel_rfl
theorem tby_36 : tby Tryd.prog 36 = some 32 := by kernel_rfl
theorem tze_36 : tze Tryd.prog 36 = some [.bool false, .nils] := by kernel_rfl
theorem tk_37 : tk Tryd.prog 37 = .struct [(4, 0), (35, 1)] := by kernel_rfl
theorem tsz_37 : tsz Tryd.prog 37 = some 2 := by kernel_rfl
theorem tby_37 : tby Tryd.prog 37 = some 32 := by kernel_rfl
theorem tze_37 : tze Tryd.prog 37 = some [.bool false, .nils] := by kernel_rfl
theorem tk_42 : tk Tryd.prog 42 = .slice 90 := by kernel_rfl
theorem tsz_42 : tsz Tryd.prog 42 = some 1 := by kernel_rfl
theorem tby_42 : tby Tryd.prog 42 = some 24 := by kernel_rfl
theorem tze_42 : tze Tryd.prog 42 = some [.nils] := by kernel_rfl
theorem tk_43 : tk Tryd.prog 43 = .struct [(42, 0), (4, 1)] := by kernel_rfl
theorem tsz_43 : tsz Tryd.prog 43 = some 2 := by kernel_rfl
theorem tby_43 : tby Tryd.prog 43 = some 32 := by kernel_rfl
theorem tze_43 : tze Tryd.prog 43 = some [.nils, .bool false] := by kernel_rfl
theorem tk_44 : tk Tryd.prog 44 = .struct [(42, 0), (4, 1)] := by kernel_rfl
theorem tsz_44 : tsz Tryd.prog 44 = some 2 := by kernel_rfl
theorem tby_44 : tby Tryd.prog 44 = some 32 := by kernel_rfl
theorem tze_44 : tze Tryd.prog 44 = some [.nils, .bool false] := by kernel_rfl
theorem tk_53 : tk Tryd.prog 53 = .slice 4 := by kernel_rfl
theorem tsz_53 : tsz Tryd.prog 53 = some 1 := by kernel_rfl
theorem tby_53 : tby Tryd.prog 53 = some 24 := by kernel_rfl
theorem tze_53 : tze Tryd.prog 53 = some [.nils] := by kernel_rfl
theorem tk_69 : tk Tryd.prog 69 = .slice 22 := by kernel_rfl
theorem tsz_69 : tsz Tryd.prog 69 = some 1 := by kernel_rfl
theorem tby_69 : tby Tryd.prog 69 = some 24 := by kernel_rfl
theorem tze_69 : tze Tryd.prog 69 = some [.nils] := by kernel_rfl
theorem tk_76 : tk Tryd.prog 76 = .other := by kernel_rfl
theorem tsz_76 : tsz Tryd.prog 76 = some 1 := by kernel_rfl
theorem tby_76 : tby Tryd.prog 76 = some 8 := by kernel_rfl
theorem tze_76 : tze Tryd.prog 76 = some [.any] := by kernel_rfl
theorem tk_77 : tk Tryd.prog 77 = .slice 5 := by kernel_rfl
theorem tsz_77 : tsz Tryd.prog 77 = some 1 := by kernel_rfl
theorem tby_77 : tby Tryd.prog 77 = some 24 := by kernel_rfl
theorem tze_77 : tze Tryd.prog 77 = some [.nils] := by kernel_rfl
theorem tk_78 : tk Tryd.prog 78 = .struct [(76, 0), (77, 1)] := by kernel_rfl
theorem tsz_78 : tsz Tryd.prog 78 = some 2 := by kernel_rfl
theorem tby_78 : tby Tryd.prog 78 = some 32 := by kernel_rfl
theorem tze_78 : tze Tryd.prog 78 = some [.any, .nils] := by kernel_rfl
theorem tk_79 : tk Tryd.prog 79 = .struct [(76, 0), (77, 1)] := by kernel_rfl
theorem tsz_79 : tsz Tryd.prog 79 = some 2 := by kernel_rfl
theorem tby_79 : tby Tryd.prog 79 = some 32 := by kernel_rfl
theorem tze_79 : tze Tryd.prog 79 = some [.any, .nils] := by kernel_rfl
theorem tk_80 : tk Tryd.prog 80 = .struct [(3, 0), (3, 1)] := by kernel_rfl
theorem tsz_80 : tsz Tryd.prog 80 = some 2 := by kernel_rfl
theorem tby_80 : tby Tryd.prog 80 = some 16 := by kernel_rfl
theorem tze_80 : tze Tryd.prog 80 = some [.int .i64 0, .int .i64 0] := by kernel_rfl
theorem tk_81 : tk Tryd.prog 81 = .struct [(3, 0), (3, 1)] := by kernel_rfl
theorem tsz_81 : tsz Tryd.prog 81 = some 2 := by kernel_rfl
theorem tby_81 : tby Tryd.prog 81 = some 16 := by kernel_rfl
theorem tze_81 : tze Tryd.prog 81 = some [.int .i64 0, .int .i64 0] := by kernel_rfl
theorem tk_89 : tk Tryd.prog 89 = .struct [(3, 0), (3, 1)] := by kernel_rfl
theorem tsz_89 : tsz Tryd.prog 89 = some 2 := by kernel_rfl
theorem tby_89 : tby Tryd.prog 89 = some 16 := by kernel_rfl
theorem tze_89 : tze Tryd.prog 89 = some [.int .i64 0, .int .i64 0] := by kernel_rfl
theorem tk_90 : tk Tryd.prog 90 = .struct [(3, 0), (3, 1)] := by kernel_rfl
theorem tsz_90 : tsz Tryd.prog 90 = some 2 := by kernel_rfl
theorem tby_90 : tby Tryd.prog 90 = some 16 := by kernel_rfl
theorem tze_90 : tze Tryd.prog 90 = some [.int .i64 0, .int .i64 0] := by kernel_rfl
theorem tk_104 : tk Tryd.prog 104 = .map 3 22 := by kernel_rfl
theorem tsz_104 : tsz Tryd.prog 104 = some 1 := by kernel_rfl
theorem tby_104 : tby Tryd.prog 104 = some 8 := by kernel_rfl
theorem tze_104 : tze Tryd.prog 104 = some [.any] := by kernel_rfl
theorem tk_108 : tk Tryd.prog 108 = .slice 112 := by kernel_rfl
theorem tsz_108 : tsz Tryd.prog 108 = some 1 := by kernel_rfl
theorem tby_108 : tby Tryd.prog 108 = some 24 := by kernel_rfl
theorem tze_108 : tze Tryd.prog 108 = some [.nils] := by kernel_rfl
theorem tk_110 : tk Tryd.prog 110 = .int .u64 := by kernel_rfl
theorem tsz_110 : tsz Tryd.prog 110 = some 1 := by kernel_rfl
theorem tby_110 : tby Tryd.prog 110 = some 8 := by kernel_rfl
theorem tzv_110 : tzv Tryd.prog 110 = some (.int .u64 0) := by kernel_rfl
theorem tze_110 : tze Tryd.prog 110 = some [.int .u64 0] := by kernel_rfl
theorem tk_111 : tk Tryd.prog 111 = .struct [(110, 0), (110, 1)] := by kernel_rfl
theorem tsz_111 : tsz Tryd.prog 111 = some 2 := by kernel_rfl
theorem tby_111 : tby Tryd.prog 111 = some 16 := by kernel_rfl
theorem tze_111 : tze Tryd.prog 111 = some [.int .u64 0, .int .u64 0] := by kernel_rfl
theorem tk_112 : tk Tryd.prog 112 = .struct [(110, 0), (110, 1)] := by kernel_rfl
theorem tsz_112 : tsz Tryd.prog 112 = some 2 := by kernel_rfl
theorem tby_112 : tby Tryd.prog 112 = some 16 := by kernel_rfl
theorem tze_112 : tze Tryd.prog 112 = some [.int .u64 0, .int .u64 0] := by kernel_rfl
theorem tk_119 : tk Tryd.prog 119 = .map 3 3 := by kernel_rfl
theorem tsz_119 : tsz Tryd.prog 119 = some 1 := by kernel_rfl
theorem tby_119 : tby Tryd.prog 119 = some 8 := by kernel_rfl
theorem tze_119 : tze Tryd.prog 119 = some [.any] := by kernel_rfl
theorem tk_120 : tk Tryd.prog 120 = .map 3 4 := by kernel_rfl
theorem tsz_120 : tsz Tryd.prog 120 = some 1 := by kernel_rfl
theorem tby_120 : tby Tryd.prog 120 = some 8 := by kernel_rfl
theorem tze_120 : tze Tryd.prog 120 = some [.any] := by kernel_rfl
theorem tk_128 : tk Tryd.prog 128 = .other := by kernel_rfl
theorem tsz_128 : tsz Tryd.prog 128 = some 1 := by kernel_rfl
theorem tby_128 : tby Tryd.prog 128 = some 8 := by kernel_rfl
theorem tze_128 : tze Tryd.prog 128 = some [.any] := by kernel_rfl
theorem tk_131 : tk Tryd.prog 131 = .int .u64 := by kernel_rfl
theorem tsz_131 : tsz Tryd.prog 131 = some 1 := by kernel_rfl
theorem tby_131 : tby Tryd.prog 131 = some 8 := by kernel_rfl
theorem tzv_131 : tzv Tryd.prog 131 = some (.int .u64 0) := by kernel_rfl
theorem tze_131 : tze Tryd.prog 131 = some [.int .u64 0] := by kernel_rfl
theorem tk_132 : tk Tryd.prog 132 = .map 3 134 := by kernel_rfl
theorem tsz_132 : tsz Tryd.prog 132 = some 1 := by kernel_rfl
theorem tby_132 : tby Tryd.prog 132 = some 8 := by kernel_rfl
theorem tze_132 : tze Tryd.prog 132 = some [.any] := by kernel_rfl
theorem tk_138 : tk Tryd.prog 138 = .map 3 112 := by kernel_rfl
theorem tsz_138 : tsz Tryd.prog 138 = some 1 := by kernel_rfl
theorem tby_138 : tby Tryd.prog 138 = some 8 := by kernel_rfl
theorem tze_138 : tze Tryd.prog 138 = some [.any] := by kernel_rfl
theorem tk_153 : tk Tryd.prog 153 = .other := by kernel_rfl
theorem tsz_153 : tsz Tryd.prog 153 = some 1 := by kernel_rfl
theorem tby_153 : tby Tryd.prog 153 = some 8 := by kernel_rfl
theorem tze_153 : tze Tryd.prog 153 = some [.any] := by kernel_rfl
theorem tk_161 : tk Tryd.prog 161 = .struct [(3, 0), (22, 1)] := by kernel_rfl
theorem tsz_161 : tsz Tryd.prog 161 = some 2 := by kernel_rfl
theorem tby_161 : tby Tryd.prog 161 = some 32 := by kernel_rfl
theorem tze_161 : tze Tryd.prog 161 = some [.int .i64 0, .nils] := by kernel_rfl
theorem tk_162 : tk Tryd.prog 162 = .struct [(3, 0), (22, 1)] := by kernel_rfl
theorem tsz_162 : tsz Tryd.prog 162 = some 2 := by kernel_rfl
theorem tby_162 : tby Tryd.prog 162 = some 32 := by kernel_rfl
theorem tze_162 : tze Tryd.prog 162 = some [.int .i64 0, .nils] := by kernel_rfl
theorem tk_163 : tk Tryd.prog 163 = .map 9 162 := by kernel_rfl
theorem tsz_163 : tsz Tryd.prog 163 = some 1 := by kernel_rfl
theorem tby_163 : tby Tryd.prog 163 = some 8 := by kernel_rfl
theorem tze_163 : tze Tryd.prog 163 = some [.any] := by kernel_rfl
theorem tk_164 : tk Tryd.prog 164 = .struct [(3, 0), (22, 1), (22, 2), (22, 3)] := by kernel_rfl
theorem tsz_164 : tsz Tryd.prog 164 = some 4 := by kernel_rfl
theorem tby_164 : tby Tryd.prog 164 = some 80 := by kernel_rfl
theorem tze_164 : tze Tryd.prog 164 = some [.int .i64 0, .nils, .nils, .nils] := by kernel_rfl
theorem tk_165 : tk Tryd.prog 165 = .struct [(3, 0), (22, 1), (22, 2), (22, 3)] := by kernel_rfl
theorem tsz_165 : tsz Tryd.prog 165 = some 4 := by kernel_rfl
theorem tby_165 : tby Tryd.prog 165 = some 80 := by kernel_rfl
theorem tze_165 : tze Tryd.prog 165 = some [.int .i64 0, .nils, .nils, .nils] := by kernel_rfl
theorem tk_187 : tk Tryd.prog 187 = .int .u32 := by kernel_rfl
theorem tsz_187 : tsz Tryd.prog 187 = some 1 := by kernel_rfl
theorem tby_187 : tby Tryd.prog 187 = some 4 := by kernel_rfl
theorem tzv_187 : tzv Tryd.prog 187 = some (.int .u32 0) := by kernel_rfl
theorem tze_187 : tze Tryd.prog 187 = some [.int .u32 0] := by kernel_rfl
theorem tk_190 : tk Tryd.prog 190 = .int .i64 := by kernel_rfl
theorem tsz_190 : tsz Tryd.prog 190 = some 1 := by kernel_rfl
theorem tby_190 : tby Tryd.prog 190 = some 8 := by kernel_rfl
theorem tzv_190 : tzv Tryd.prog 190 = some (.int .i64 0) := by kernel_rfl
theorem tze_190 : tze Tryd.prog 190 = some [.int .i64 0] := by kernel_rfl
theorem tk_197 : tk Tryd.prog 197 = .int .u64 := by kernel_rfl
theorem tsz_197 : tsz Tryd.prog 197 = some 1 := by kernel_rfl
theorem tby_197 : tby Tryd.prog 197 = some 8 := by kernel_rfl
theorem tzv_197 : tzv Tryd.prog 197 = some (.int .u64 0) := by kernel_rfl
theorem tze_197 : tze Tryd.prog 197 = some [.int .u64 0] := by kernel_rfl
theorem tk_201 : tk Tryd.prog 201 = .other := by kernel_rfl
theorem tsz_201 : tsz Tryd.prog 201 = some 1 := by kernel_rfl
theorem tby_201 : tby Tryd.prog 201 = some 8 := by kernel_rfl
theorem tze_201 : tze Tryd.prog 201 = some [.any] := by kernel_rfl
theorem tk_205 : tk Tryd.prog 205 = .other := by kernel_rfl
theorem tsz_205 : tsz Tryd.prog 205 = some 1 := by kernel_rfl
theorem tby_205 : tby Tryd.prog 205 = some 8 := by kernel_rfl
theorem tze_205 : tze Tryd.prog 205 = some [.any] := by kernel_rfl
theorem tk_208 : tk Tryd.prog 208 = .struct [(17, 0), (17, 1), (17, 2), (9, 3)] := by kernel_rfl
theorem tsz_208 : tsz Tryd.prog 208 = some 4 := by kernel_rfl
theorem tby_208 : tby Tryd.prog 208 = some 40 := by kernel_rfl
theorem tze_208 : tze Tryd.prog 208 = some [.any, .any, .any, .str ByteArray.empty] := by kernel_rfl
theorem tk_209 : tk Tryd.prog 209 = .struct [(17, 0), (17, 1), (17, 2), (9, 3)] := by kernel_rfl
theorem tsz_209 : tsz Tryd.prog 209 = some 4 := by kernel_rfl
theorem tby_209 : tby Tryd.prog 209 = some 40 := by kernel_rfl
theorem tze_209 : tze Tryd.prog 209 = some [.any, .any, .any, .str ByteArray.empty] := by kernel_rfl
theorem tk_211 : tk Tryd.prog 211 = .struct [(210, 0)] := by kernel_rfl
theorem tsz_211 : tsz Tryd.prog 211 = some 0 := by kernel_rfl
theorem tby_211 : tby Tryd.prog 211 = some 0 := by kernel_rfl
theorem tze_211 : tze Tryd.prog 211 = some [] := by kernel_rfl
theorem tk_212 : tk Tryd.prog 212 = .struct [(210, 0)] := by kernel_rfl
theorem tsz_212 : tsz Tryd.prog 212 = some 0 := by kernel_rfl
theorem tby_212 : tby Tryd.prog 212 = some 0 := by kernel_rfl
theorem tze_212 : tze Tryd.prog 212 = some [] := by kernel_rfl
theorem tk_213 : tk Tryd.prog 213 = .int .u8 := by kernel_rfl
theorem tsz_213 : tsz Tryd.prog 213 = some 1 := by kernel_rfl
theorem tby_213 : tby Tryd.prog 213 = some 1 := by kernel_rfl
theorem tzv_213 : tzv Tryd.prog 213 = some (.int .u8 0) := by kernel_rfl
theorem tze_213 : tze Tryd.prog 213 = some [.int .u8 0] := by kernel_rfl
theorem tk_214 : tk Tryd.prog 214 = .int .u8 := by kernel_rfl
theorem tsz_214 : tsz Tryd.prog 214 = some 1 := by kernel_rfl
theorem tby_214 : tby Tryd.prog 214 = some 1 := by kernel_rfl
theorem tzv_214 : tzv Tryd.prog 214 = some (.int .u8 0) := by kernel_rfl
theorem tze_214 : tze Tryd.prog 214 = some [.int .u8 0] := by kernel_rfl
theorem tk_216 : tk Tryd.prog 216 = .int .i32 := by kernel_rfl
theorem tsz_216 : tsz Tryd.prog 216 = some 1 := by kernel_rfl
theorem tby_216 : tby Tryd.prog 216 = some 4 := by kernel_rfl
theorem tzv_216 : tzv Tryd.prog 216 = some (.int .i32 0) := by kernel_rfl
theorem tze_216 : tze Tryd.prog 216 = some [.int .i32 0] := by kernel_rfl
theorem tk_217 : tk Tryd.prog 217 = .int .i32 := by kernel_rfl
theorem tsz_217 : tsz Tryd.prog 217 = some 1 := by kernel_rfl
theorem tby_217 : tby Tryd.prog 217 = some 4 := by kernel_rfl
theorem tzv_217 : tzv Tryd.prog 217 = some (.int .i32 0) := by kernel_rfl
theorem tze_217 : tze Tryd.prog 217 = some [.int .i32 0] := by kernel_rfl
theorem tk_218 : tk Tryd.prog 218 = .struct [(12, 0), (12, 1), (187, 2), (213, 3), (5, 4), (5, 5), (214, 6), (215, 7), (128, 8), (216, 9), (217, 10)] := by kernel_rfl
theorem tsz_218 : tsz Tryd.prog 218 = some 11 := by kernel_rfl
theorem tby_218 : tby Tryd.prog 218 = some 48 := by kernel_rfl
theorem tze_218 : tze Tryd.prog 218 = some [.int .u64 0, .int .u64 0, .int .u32 0, .int .u8 0, .int .u8 0, .int .u8 0, .int .u8 0, .any, .any, .int .i32 0, .int .i32 0] := by kernel_rfl
theorem tk_219 : tk Tryd.prog 219 = .struct [(12, 0), (12, 1), (187, 2), (213, 3), (5, 4), (5, 5), (214, 6), (215, 7), (128, 8), (216, 9), (217, 10)] := by kernel_rfl
theorem tsz_219 : tsz Tryd.prog 219 = some 11 := by kernel_rfl
theorem tby_219 : tby Tryd.prog 219 = some 48 := by kernel_rfl
theorem tze_219 : tze Tryd.prog 219 = some [.int .u64 0, .int .u64 0, .int .u32 0, .int .u8 0, .int .u8 0, .int .u8 0, .int .u8 0, .any, .any, .int .i32 0, .int .i32 0] := by kernel_rfl
attribute [go_sem] tk_2 tsz_2 tby_2 tzv_2 tze_2 tk_3 tsz_3 tby_3 tzv_3 tze_3 tk_4 tsz_4 tby_4 tzv_4 tze_4 tk_5 tsz_5 tby_5 tzv_5 tze_5 tk_6 tsz_6 tby_6 tzv_6 tze_6 tk_7 tsz_7 tby_7 tze_7 tk_8 tsz_8 tby_8 tze_8 tk_9 tsz_9 tby_9 tzv_9 tze_9 tk_10 tsz_10
attribute [go_sem] tby_10 tzv_10 tze_10 tk_11 tsz_11 tby_11 tzv_11 tze_11 tk_12 tsz_12 tby_12 tzv_12 tze_12 tk_13 tsz_13 tby_13 tze_13 tk_14 tsz_14 tby_14 tze_14 tk_15 tsz_15 tby_15 tze_15 tk_16 tsz_16 tby_16 tze_16 tk_17 tsz_17 tby_17 tze_17 tk_18 tsz_18 tby_18 tze_18 tk_19 tsz_19 tby_19
attribute [go_sem] tze_19 tk_21 tsz_21 tby_21 tzv_21 tze_21 tk_22 tsz_22 tby_22 tze_22 tk_23 tsz_23 tby_23 tze_23 tk_24 tsz_24 tby_24 tze_24 tk_28 tsz_28 tby_28 tzv_28 tze_28 tk_35 tsz_35 tby_35 tze_35 tk_36 tsz_36 tby_36 tze_36 tk_37 tsz_37 tby_37 tze_37 tk_42 tsz_42 tby_42 tze_42 tk_43
attribute [go_sem] tsz_43 tby_43 tze_43 tk_44 tsz_44 tby_44 tze_44 tk_53 tsz_53 tby_53 tze_53 tk_69 tsz_69 tby_69 tze_69 tk_76 tsz_76 tby_76 tze_76 tk_77 tsz_77 tby_77 tze_77 tk_78 tsz_78 tby_78 tze_78 tk_79 tsz_79 tby_79 tze_79 tk_80 tsz_80 tby_80 tze_80 tk_81 tsz_81 tby_81 tze_81 tk_89
attribute [go_sem] tsz_89 tby_89 tze_89 tk_90 tsz_90 tby_90 tze_90 tk_104 tsz_104 tby_104 tze_104 tk_108 tsz_108 tby_108 tze_108 tk_110 tsz_110 tby_110 tzv_110 tze_110 tk_111 tsz_111 tby_111 tze_111 tk_112 tsz_112 tby_112 tze_112 tk_119 tsz_119 tby_119 tze_119 tk_120 tsz_120 tby_120 tze_120 tk_128 tsz_128 tby_128 tze_128
attribute [go_sem] tk_131 tsz_131 tby_131 tzv_131 tze_131 tk_132 tsz_132 tby_132 tze_132 tk_138 tsz_138 tby_138 tze_138 tk_153 tsz_153 tby_153 tze_153 tk_161 tsz_161 tby_161 tze_161 tk_162 tsz_162 tby_162 tze_162 tk_163 tsz_163 tby_163 tze_163 tk_164 tsz_164 tby_164 tze_164 tk_165 tsz_165 tby_165 tze_165 tk_187 tsz_187 tby_187
attribute [go_sem] tzv_187 tze_187 tk_190 tsz_190 tby_190 tzv_190 tze_190 tk_197 tsz_197 tby_197 tzv_197 tze_197 tk_201 tsz_201 tby_201 tze_201 tk_205 tsz_205 tby_205 tze_205 tk_208 tsz_208 tby_208 tze_208 tk_209 tsz_209 tby_209 tze_209 tk_211 tsz_211 tby_211 tze_211 tk_212 tsz_212 tby_212 tze_212 tk_213 tsz_213 tby_213 tzv_213
attribute [go_sem] tze_213 tk_214 tsz_214 tby_214 tzv_214 tze_214 tk_216 tsz_216 tby_216 tzv_216 tze_216 tk_217 tsz_217 tby_217 tzv_217 tze_217 tk_218 tsz_218 tby_218 tze_218 tk_219 tsz_219 tby_219 tze_219
theorem mixed : Tryd.prog.follows .mixedOrders = true := by kernel_rfl
end Go.Proofs.YtmplhbgolhlicaaDoor
