/- The types of the translation: kinds, sizes, bytes, zero values; made by a program of the author (gentypes.py), each fact checked by the kernel. -/
import Derived.Test.YtjpbeacamoijhaaGreatDoorGc
import Derived.Test.YtjpbeacamoijhaaGreatDoorRows
namespace Go.Proofs.YtjpbeacamoijhaaGreatDoor
open Go
theorem tk_3:tk Tryz.prog 3= .int .i64:=by kernel_rfl
theorem tsz_3:tsz Tryz.prog 3=some 1:=by kernel_rfl
theorem tby_3:tby Tryz.prog 3=some 8:=by kernel_rfl
theorem tzv_3:tzv Tryz.prog 3=some (.int .i64 0):=by kernel_rfl
theorem tze_3:tze Tryz.prog 3=some [.int .i64 0]:=by kernel_rfl
theorem tk_4:tk Tryz.prog 4= .bool:=by kernel_rfl
theorem tsz_4:tsz Tryz.prog 4=some 1:=by kernel_rfl
theorem tby_4:tby Tryz.prog 4=some 1:=by kernel_rfl
theorem tzv_4:tzv Tryz.prog 4=some (.bool false):=by kernel_rfl
theorem tze_4:tze Tryz.prog 4=some [.bool false]:=by kernel_rfl
theorem tk_22:tk Tryz.prog 22= .slice 3:=by kernel_rfl
theorem tsz_22:tsz Tryz.prog 22=some 1:=by kernel_rfl
theorem tby_22:tby Tryz.prog 22=some 24:=by kernel_rfl
theorem tze_22:tze Tryz.prog 22=some [.nils]:=by kernel_rfl
theorem tk_24:tk Tryz.prog 24= .struct [(22,0),(22,1),(3,2)]:=by kernel_rfl
theorem tsz_24:tsz Tryz.prog 24=some 3:=by kernel_rfl
theorem tze_24:tze Tryz.prog 24=some [.nils, .nils, .int .i64 0]:=by kernel_rfl
theorem tk_27:tk Tryz.prog 27= .slice 74:=by kernel_rfl
theorem tsz_27:tsz Tryz.prog 27=some 1:=by kernel_rfl
theorem tk_29:tk Tryz.prog 29= .struct [(4,0),(27,1)]:=by kernel_rfl
theorem tsz_29:tsz Tryz.prog 29=some 2:=by kernel_rfl
theorem tze_29:tze Tryz.prog 29=some [.bool false, .nils]:=by kernel_rfl
theorem tk_30:tk Tryz.prog 30= .int .i64:=by kernel_rfl
theorem tk_67:tk Tryz.prog 67= .map 3 29:=by kernel_rfl
theorem tsz_67:tsz Tryz.prog 67=some 1:=by kernel_rfl
theorem tze_67:tze Tryz.prog 67=some [.any]:=by kernel_rfl
theorem tk_74:tk Tryz.prog 74= .struct [(3,0),(3,1),(3,2)]:=by kernel_rfl
theorem tsz_74:tsz Tryz.prog 74=some 3:=by kernel_rfl
theorem tby_74:tby Tryz.prog 74=some 24:=by kernel_rfl
theorem tze_74:tze Tryz.prog 74=some [.int .i64 0, .int .i64 0, .int .i64 0]:=by kernel_rfl
theorem tk_77:tk Tryz.prog 77= .slice 22:=by kernel_rfl
theorem tk_105:tk Tryz.prog 105= .map 109 107:=by kernel_rfl
theorem tsz_105:tsz Tryz.prog 105=some 1:=by kernel_rfl
theorem tze_105:tze Tryz.prog 105=some [.any]:=by kernel_rfl
theorem tk_107:tk Tryz.prog 107= .struct [(3,0),(3,1)]:=by kernel_rfl
theorem tsz_107:tsz Tryz.prog 107=some 2:=by kernel_rfl
theorem tze_107:tze Tryz.prog 107=some [.int .i64 0, .int .i64 0]:=by kernel_rfl
theorem tk_109:tk Tryz.prog 109= .arr 2 3:=by kernel_rfl
theorem tsz_109:tsz Tryz.prog 109=some 2:=by kernel_rfl
theorem tze_109:tze Tryz.prog 109=some [.int .i64 0, .int .i64 0]:=by kernel_rfl
theorem tk_131:tk Tryz.prog 131= .slice 4:=by kernel_rfl
theorem tk_162:tk Tryz.prog 162= .map 3 3:=by kernel_rfl
theorem tk_163:tk Tryz.prog 163= .map 3 4:=by kernel_rfl
attribute [go_sem] tk_3 tsz_3 tby_3 tzv_3 tze_3 tk_4 tsz_4 tby_4 tzv_4 tze_4
attribute [go_sem] tk_22 tsz_22 tby_22 tze_22 tk_24 tsz_24 tze_24 tk_27 tsz_27 tk_29 tsz_29 tze_29 tk_30
attribute [go_sem] tk_67 tsz_67 tze_67 tk_74 tsz_74 tby_74 tze_74 tk_77
attribute [go_sem] tk_105 tsz_105 tze_105 tk_107 tsz_107 tze_107 tk_109
attribute [go_sem] tsz_109 tze_109 tk_131
attribute [go_sem] tk_162 tk_163
theorem mixed:Tryz.prog.follows .mixedOrders=true:=by kernel_rfl
end Go.Proofs.YtjpbeacamoijhaaGreatDoor
