/- The types of the translation: kinds, sizes, bytes, zero values; made by a program of the author (gentypes.py), each fact checked by the kernel. -/
import Derived.Test.YtebdkebfkpbmpaaDoorGc
import Derived.Test.YtebdkebfkpbmpaaDoorRows
namespace Go.Proofs.YtebdkebfkpbmpaaDoor
open Go
theorem tk_3 : tk Tryd.prog 3 = .int .i64 := by kernel_rfl
theorem tsz_3 : tsz Tryd.prog 3 = some 1 := by kernel_rfl
theorem tby_3 : tby Tryd.prog 3 = some 8 := by kernel_rfl
theorem tzv_3 : tzv Tryd.prog 3 = some (.int .i64 0) := by kernel_rfl
theorem tze_3 : tze Tryd.prog 3 = some [.int .i64 0] := by kernel_rfl
theorem tk_4 : tk Tryd.prog 4 = .bool := by kernel_rfl
theorem tsz_4 : tsz Tryd.prog 4 = some 1 := by kernel_rfl
theorem tby_4 : tby Tryd.prog 4 = some 1 := by kernel_rfl
theorem tze_4 : tze Tryd.prog 4 = some [.bool false] := by kernel_rfl
theorem tk_5 : tk Tryd.prog 5 = .int .u8 := by kernel_rfl
theorem tsz_5 : tsz Tryd.prog 5 = some 1 := by kernel_rfl
theorem tby_5 : tby Tryd.prog 5 = some 1 := by kernel_rfl
theorem tze_5 : tze Tryd.prog 5 = some [.int .u8 0] := by kernel_rfl
theorem tk_9 : tk Tryd.prog 9 = .str := by kernel_rfl
theorem tsz_9 : tsz Tryd.prog 9 = some 1 := by kernel_rfl
theorem tk_22 : tk Tryd.prog 22 = .slice 3 := by kernel_rfl
theorem tsz_22 : tsz Tryd.prog 22 = some 1 := by kernel_rfl
theorem tby_22 : tby Tryd.prog 22 = some 24 := by kernel_rfl
theorem tze_22 : tze Tryd.prog 22 = some [.nils] := by kernel_rfl
theorem tk_24 : tk Tryd.prog 24 = .struct [(22, 0), (22, 1), (3, 2)] := by kernel_rfl
theorem tsz_24 : tsz Tryd.prog 24 = some 3 := by kernel_rfl
theorem tze_24 : tze Tryd.prog 24 = some [.nils, .nils, .int .i64 0] := by kernel_rfl
theorem tk_27 : tk Tryd.prog 27 = .int .i64 := by kernel_rfl
theorem tk_35 : tk Tryd.prog 35 = .slice 61 := by kernel_rfl
theorem tsz_35 : tsz Tryd.prog 35 = some 1 := by kernel_rfl
theorem tk_37 : tk Tryd.prog 37 = .struct [(4, 0), (35, 1)] := by kernel_rfl
theorem tsz_37 : tsz Tryd.prog 37 = some 2 := by kernel_rfl
theorem tze_37 : tze Tryd.prog 37 = some [.bool false, .nils] := by kernel_rfl
theorem tk_45 : tk Tryd.prog 45 = .slice 22 := by kernel_rfl
theorem tk_53 : tk Tryd.prog 53 = .slice 4 := by kernel_rfl
theorem tk_61 : tk Tryd.prog 61 = .struct [(3, 0), (3, 1)] := by kernel_rfl
theorem tsz_61 : tsz Tryd.prog 61 = some 2 := by kernel_rfl
theorem tby_61 : tby Tryd.prog 61 = some 16 := by kernel_rfl
theorem tze_61 : tze Tryd.prog 61 = some [.int .i64 0, .int .i64 0] := by kernel_rfl
theorem tk_64 : tk Tryd.prog 64 = .slice 68 := by kernel_rfl
theorem tsz_64 : tsz Tryd.prog 64 = some 1 := by kernel_rfl
theorem tze_64 : tze Tryd.prog 64 = some [.nils] := by kernel_rfl
theorem tk_66 : tk Tryd.prog 66 = .int .u64 := by kernel_rfl
theorem tsz_66 : tsz Tryd.prog 66 = some 1 := by kernel_rfl
theorem tk_68 : tk Tryd.prog 68 = .struct [(66, 0), (66, 1)] := by kernel_rfl
theorem tsz_68 : tsz Tryd.prog 68 = some 2 := by kernel_rfl
theorem tby_68 : tby Tryd.prog 68 = some 16 := by kernel_rfl
theorem tze_68 : tze Tryd.prog 68 = some [.int .u64 0, .int .u64 0] := by kernel_rfl
theorem tk_75 : tk Tryd.prog 75 = .slice 5 := by kernel_rfl
theorem tk_88 : tk Tryd.prog 88 = .struct [(3, 0), (22, 1)] := by kernel_rfl
theorem tsz_88 : tsz Tryd.prog 88 = some 2 := by kernel_rfl
theorem tze_88 : tze Tryd.prog 88 = some [.int .i64 0, .nils] := by kernel_rfl
theorem tk_89 : tk Tryd.prog 89 = .map 9 88 := by kernel_rfl
theorem tsz_89 : tsz Tryd.prog 89 = some 1 := by kernel_rfl
theorem tze_89 : tze Tryd.prog 89 = some [.any] := by kernel_rfl
theorem tk_91 : tk Tryd.prog 91 = .struct [(3, 0), (22, 1), (22, 2), (22, 3)] := by kernel_rfl
theorem tsz_91 : tsz Tryd.prog 91 = some 4 := by kernel_rfl
theorem tze_91 : tze Tryd.prog 91 = some [.int .i64 0, .nils, .nils, .nils] := by kernel_rfl
theorem tk_111 : tk Tryd.prog 111 = .map 3 3 := by kernel_rfl
theorem tk_112 : tk Tryd.prog 112 = .arr 4 3 := by kernel_rfl
theorem tsz_112 : tsz Tryd.prog 112 = some 4 := by kernel_rfl
theorem tze_112 : tze Tryd.prog 112 = some [.int .i64 0, .int .i64 0, .int .i64 0, .int .i64 0] := by kernel_rfl
theorem tk_113 : tk Tryd.prog 113 = .arr 2 112 := by kernel_rfl
theorem tze_113 : tze Tryd.prog 113 = some [.int .i64 0, .int .i64 0, .int .i64 0, .int .i64 0, .int .i64 0, .int .i64 0, .int .i64 0, .int .i64 0] := by kernel_rfl
attribute [go_sem] tk_3 tsz_3 tby_3 tzv_3 tze_3 tk_4 tsz_4 tby_4 tze_4 tk_5 tsz_5 tby_5 tze_5 tk_9 tsz_9

attribute [go_sem] tk_22 tsz_22 tby_22 tze_22 tk_24 tsz_24 tze_24 tk_27 tk_35 tsz_35 tk_37 tsz_37 tze_37 tk_45 tk_53
attribute [go_sem] tk_61 tsz_61 tby_61 tze_61 tk_64 tsz_64 tze_64 tk_66 tsz_66 tk_68 tsz_68 tby_68 tze_68 tk_75
attribute [go_sem] tk_88 tsz_88 tze_88 tk_89 tsz_89 tze_89 tk_91 tsz_91 tze_91 tk_111 tk_112 tsz_112 tze_112
attribute [go_sem] tk_113 tze_113


theorem mixed : Tryd.prog.follows .mixedOrders = true := by kernel_rfl
end Go.Proofs.YtebdkebfkpbmpaaDoor
