/- The types of the translation: kinds, sizes, bytes, zero values; made by a program of the author (gentypes.py), each fact checked by the kernel. -/
import Derived.Test.YtebdkebfkpbmpaaGreatDoorGc
import Derived.Test.YtebdkebfkpbmpaaGreatDoorRows
namespace Go.Proofs.YtebdkebfkpbmpaaGreatDoor
open Go
theorem tk_3 : tk Tryz.prog 3 = .int .i64 := by kernel_rfl
theorem tsz_3 : tsz Tryz.prog 3 = some 1 := by kernel_rfl
theorem tby_3 : tby Tryz.prog 3 = some 8 := by kernel_rfl
theorem tzv_3 : tzv Tryz.prog 3 = some (.int .i64 0) := by kernel_rfl
theorem tze_3 : tze Tryz.prog 3 = some [.int .i64 0] := by kernel_rfl
theorem tk_4 : tk Tryz.prog 4 = .bool := by kernel_rfl
theorem tsz_4 : tsz Tryz.prog 4 = some 1 := by kernel_rfl
theorem tby_4 : tby Tryz.prog 4 = some 1 := by kernel_rfl
theorem tze_4 : tze Tryz.prog 4 = some [.bool false] := by kernel_rfl
theorem tk_5 : tk Tryz.prog 5 = .int .u8 := by kernel_rfl
theorem tsz_5 : tsz Tryz.prog 5 = some 1 := by kernel_rfl
theorem tby_5 : tby Tryz.prog 5 = some 1 := by kernel_rfl
theorem tze_5 : tze Tryz.prog 5 = some [.int .u8 0] := by kernel_rfl
theorem tk_9 : tk Tryz.prog 9 = .str := by kernel_rfl
theorem tsz_9 : tsz Tryz.prog 9 = some 1 := by kernel_rfl
theorem tk_22 : tk Tryz.prog 22 = .slice 3 := by kernel_rfl
theorem tsz_22 : tsz Tryz.prog 22 = some 1 := by kernel_rfl
theorem tby_22 : tby Tryz.prog 22 = some 24 := by kernel_rfl
theorem tze_22 : tze Tryz.prog 22 = some [.nils] := by kernel_rfl
theorem tk_24 : tk Tryz.prog 24 = .struct [(22, 0), (22, 1), (3, 2)] := by kernel_rfl
theorem tsz_24 : tsz Tryz.prog 24 = some 3 := by kernel_rfl
theorem tze_24 : tze Tryz.prog 24 = some [.nils, .nils, .int .i64 0] := by kernel_rfl
theorem tk_26 : tk Tryz.prog 26 = .slice 73 := by kernel_rfl
theorem tsz_26 : tsz Tryz.prog 26 = some 1 := by kernel_rfl
theorem tk_28 : tk Tryz.prog 28 = .struct [(4, 0), (26, 1)] := by kernel_rfl
theorem tsz_28 : tsz Tryz.prog 28 = some 2 := by kernel_rfl
theorem tze_28 : tze Tryz.prog 28 = some [.bool false, .nils] := by kernel_rfl
theorem tk_29 : tk Tryz.prog 29 = .int .i64 := by kernel_rfl
theorem tk_36 : tk Tryz.prog 36 = .slice 82 := by kernel_rfl
theorem tsz_36 : tsz Tryz.prog 36 = some 1 := by kernel_rfl
theorem tk_38 : tk Tryz.prog 38 = .struct [(36, 0), (4, 1)] := by kernel_rfl
theorem tsz_38 : tsz Tryz.prog 38 = some 2 := by kernel_rfl
theorem tze_38 : tze Tryz.prog 38 = some [.nils, .bool false] := by kernel_rfl
theorem tk_66 : tk Tryz.prog 66 = .slice 22 := by kernel_rfl
theorem tk_69 : tk Tryz.prog 69 = .slice 5 := by kernel_rfl
theorem tk_73 : tk Tryz.prog 73 = .struct [(3, 0), (3, 1)] := by kernel_rfl
theorem tsz_73 : tsz Tryz.prog 73 = some 2 := by kernel_rfl
theorem tby_73 : tby Tryz.prog 73 = some 16 := by kernel_rfl
theorem tze_73 : tze Tryz.prog 73 = some [.int .i64 0, .int .i64 0] := by kernel_rfl
theorem tk_82 : tk Tryz.prog 82 = .struct [(3, 0), (3, 1)] := by kernel_rfl
theorem tsz_82 : tsz Tryz.prog 82 = some 2 := by kernel_rfl
theorem tby_82 : tby Tryz.prog 82 = some 16 := by kernel_rfl
theorem tze_82 : tze Tryz.prog 82 = some [.int .i64 0, .int .i64 0] := by kernel_rfl
theorem tk_84 : tk Tryz.prog 84 = .slice 4 := by kernel_rfl
theorem tk_100 : tk Tryz.prog 100 = .int .u64 := by kernel_rfl
theorem tsz_100 : tsz Tryz.prog 100 = some 1 := by kernel_rfl
theorem tk_102 : tk Tryz.prog 102 = .struct [(100, 0), (100, 1)] := by kernel_rfl
theorem tsz_102 : tsz Tryz.prog 102 = some 2 := by kernel_rfl
theorem tby_102 : tby Tryz.prog 102 = some 16 := by kernel_rfl
theorem tze_102 : tze Tryz.prog 102 = some [.int .u64 0, .int .u64 0] := by kernel_rfl
theorem tk_110 : tk Tryz.prog 110 = .struct [(3, 0), (22, 1)] := by kernel_rfl
theorem tsz_110 : tsz Tryz.prog 110 = some 2 := by kernel_rfl
theorem tze_110 : tze Tryz.prog 110 = some [.int .i64 0, .nils] := by kernel_rfl
theorem tk_111 : tk Tryz.prog 111 = .map 9 110 := by kernel_rfl
theorem tsz_111 : tsz Tryz.prog 111 = some 1 := by kernel_rfl
theorem tze_111 : tze Tryz.prog 111 = some [.any] := by kernel_rfl
theorem tk_113 : tk Tryz.prog 113 = .struct [(3, 0), (22, 1), (22, 2), (22, 3)] := by kernel_rfl
theorem tsz_113 : tsz Tryz.prog 113 = some 4 := by kernel_rfl
theorem tze_113 : tze Tryz.prog 113 = some [.int .i64 0, .nils, .nils, .nils] := by kernel_rfl
theorem tk_120 : tk Tryz.prog 120 = .slice 102 := by kernel_rfl
theorem tsz_120 : tsz Tryz.prog 120 = some 1 := by kernel_rfl
theorem tze_120 : tze Tryz.prog 120 = some [.nils] := by kernel_rfl
theorem tk_126 : tk Tryz.prog 126 = .slice 130 := by kernel_rfl
theorem tk_130 : tk Tryz.prog 130 = .struct [(3, 0), (3, 1)] := by kernel_rfl
theorem tsz_130 : tsz Tryz.prog 130 = some 2 := by kernel_rfl
theorem tby_130 : tby Tryz.prog 130 = some 16 := by kernel_rfl
theorem tze_130 : tze Tryz.prog 130 = some [.int .i64 0, .int .i64 0] := by kernel_rfl
theorem tk_144 : tk Tryz.prog 144 = .int .u64 := by kernel_rfl
theorem tk_152 : tk Tryz.prog 152 = .map 3 3 := by kernel_rfl
theorem tk_153 : tk Tryz.prog 153 = .arr 4 3 := by kernel_rfl
theorem tsz_153 : tsz Tryz.prog 153 = some 4 := by kernel_rfl
theorem tze_153 : tze Tryz.prog 153 = some [.int .i64 0, .int .i64 0, .int .i64 0, .int .i64 0] := by kernel_rfl
theorem tk_154 : tk Tryz.prog 154 = .arr 2 153 := by kernel_rfl
theorem tze_154 : tze Tryz.prog 154 = some [.int .i64 0, .int .i64 0, .int .i64 0, .int .i64 0, .int .i64 0, .int .i64 0, .int .i64 0, .int .i64 0] := by kernel_rfl
attribute [go_sem] tk_3 tsz_3 tby_3 tzv_3 tze_3 tk_4 tsz_4 tby_4 tze_4 tk_5 tsz_5 tby_5 tze_5 tk_9 tsz_9
attribute [go_sem] tk_22 tsz_22 tby_22 tze_22 tk_24 tsz_24 tze_24 tk_26 tsz_26 tk_28 tsz_28 tze_28 tk_29 tk_36 tsz_36
attribute [go_sem] tk_38 tsz_38 tze_38 tk_66 tk_69 tk_73 tsz_73 tby_73 tze_73 tk_82
attribute [go_sem] tsz_82 tby_82 tze_82 tk_84 tk_100 tsz_100 tk_102 tsz_102 tby_102 tze_102 tk_110 tsz_110 tze_110 tk_111 tsz_111 tze_111 tk_113 tsz_113 tze_113
attribute [go_sem] tk_120 tsz_120 tze_120 tk_126 tk_130 tsz_130 tby_130 tze_130 tk_144 tk_152 tk_153 tsz_153
attribute [go_sem] tze_153 tk_154 tze_154
theorem mixed : Tryz.prog.follows .mixedOrders = true := by kernel_rfl
end Go.Proofs.YtebdkebfkpbmpaaGreatDoor
