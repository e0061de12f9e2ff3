/- The types of the translation: kinds, sizes, bytes, zero values; made by a program of the author (gentypes.py), each fact checked by the kernel. -/
import Derived.Test.YtbblgobamoabkaaGreatDoorGc
import Derived.Test.YtbblgobamoabkaaGreatDoorRows
namespace Go.Proofs.YtbblgobamoabkaaGreatDoor
open Go
theorem tk_3:tk Tryz.prog 3= .int .i64:=by kernel_rfl
theorem tsz_3:tsz Tryz.prog 3=some 1:=by kernel_rfl
theorem tby_3:tby Tryz.prog 3=some 8:=by kernel_rfl
theorem tzv_3:tzv Tryz.prog 3=some (.int .i64 0):=by kernel_rfl
theorem tze_3:tze Tryz.prog 3=some [.int .i64 0]:=by kernel_rfl
theorem tk_4:tk Tryz.prog 4= .bool:=by kernel_rfl
theorem tsz_4:tsz Tryz.prog 4=some 1:=by kernel_rfl
theorem tby_4:tby Tryz.prog 4=some 1:=by kernel_rfl
theorem tzv_4:tzv Tryz.prog 4=some (.bool false):=by kernel_rfl
theorem tze_4:tze Tryz.prog 4=some [.bool false]:=by kernel_rfl
theorem tk_9:tk Tryz.prog 9= .str:=by kernel_rfl
theorem tk_22:tk Tryz.prog 22= .slice 3:=by kernel_rfl
theorem tsz_22:tsz Tryz.prog 22=some 1:=by kernel_rfl
theorem tby_22:tby Tryz.prog 22=some 24:=by kernel_rfl
theorem tze_22:tze Tryz.prog 22=some [.nils]:=by kernel_rfl
theorem tk_24:tk Tryz.prog 24= .struct [(22,0),(22,1),(3,2)]:=by kernel_rfl
theorem tsz_24:tsz Tryz.prog 24=some 3:=by kernel_rfl
theorem tze_24:tze Tryz.prog 24=some [.nils, .nils, .int .i64 0]:=by kernel_rfl
theorem tk_27:tk Tryz.prog 27= .slice 66:=by kernel_rfl
theorem tsz_27:tsz Tryz.prog 27=some 1:=by kernel_rfl
theorem tk_29:tk Tryz.prog 29= .struct [(4,0),(27,1)]:=by kernel_rfl
theorem tsz_29:tsz Tryz.prog 29=some 2:=by kernel_rfl
theorem tze_29:tze Tryz.prog 29=some [.bool false, .nils]:=by kernel_rfl
theorem tk_30:tk Tryz.prog 30= .int .i64:=by kernel_rfl
theorem tk_33:tk Tryz.prog 33= .slice 43:=by kernel_rfl
theorem tk_38:tk Tryz.prog 38= .slice 84:=by kernel_rfl
theorem tsz_38:tsz Tryz.prog 38=some 1:=by kernel_rfl
theorem tk_40:tk Tryz.prog 40= .struct [(38,0),(4,1)]:=by kernel_rfl
theorem tsz_40:tsz Tryz.prog 40=some 2:=by kernel_rfl
theorem tze_40:tze Tryz.prog 40=some [.nils, .bool false]:=by kernel_rfl
theorem tk_43:tk Tryz.prog 43= .arr 3 3:=by kernel_rfl
theorem tsz_43:tsz Tryz.prog 43=some 3:=by kernel_rfl
theorem tby_43:tby Tryz.prog 43=some 24:=by kernel_rfl
theorem tze_43:tze Tryz.prog 43=some [.int .i64 0, .int .i64 0, .int .i64 0]:=by kernel_rfl
theorem tk_59:tk Tryz.prog 59= .map 3 29:=by kernel_rfl
theorem tsz_59:tsz Tryz.prog 59=some 1:=by kernel_rfl
theorem tze_59:tze Tryz.prog 59=some [.any]:=by kernel_rfl
theorem tk_66:tk Tryz.prog 66= .struct [(3,0),(3,1),(3,2)]:=by kernel_rfl
theorem tsz_66:tsz Tryz.prog 66=some 3:=by kernel_rfl
theorem tby_66:tby Tryz.prog 66=some 24:=by kernel_rfl
theorem tze_66:tze Tryz.prog 66=some [.int .i64 0, .int .i64 0, .int .i64 0]:=by kernel_rfl
theorem tk_69:tk Tryz.prog 69= .slice 22:=by kernel_rfl
theorem tk_84:tk Tryz.prog 84= .struct [(3,0),(3,1),(3,2)]:=by kernel_rfl
theorem tsz_84:tsz Tryz.prog 84=some 3:=by kernel_rfl
theorem tby_84:tby Tryz.prog 84=some 24:=by kernel_rfl
theorem tze_84:tze Tryz.prog 84=some [.int .i64 0, .int .i64 0, .int .i64 0]:=by kernel_rfl
theorem tk_110:tk Tryz.prog 110= .slice 4:=by kernel_rfl
theorem tk_116:tk Tryz.prog 116= .map 117 119:=by kernel_rfl
theorem tsz_116:tsz Tryz.prog 116=some 1:=by kernel_rfl
theorem tze_116:tze Tryz.prog 116=some [.any]:=by kernel_rfl
theorem tk_117:tk Tryz.prog 117= .arr 2 3:=by kernel_rfl
theorem tsz_117:tsz Tryz.prog 117=some 2:=by kernel_rfl
theorem tze_117:tze Tryz.prog 117=some [.int .i64 0, .int .i64 0]:=by kernel_rfl
theorem tk_119:tk Tryz.prog 119= .struct [(3,0),(3,1)]:=by kernel_rfl
theorem tsz_119:tsz Tryz.prog 119=some 2:=by kernel_rfl
theorem tze_119:tze Tryz.prog 119=some [.int .i64 0, .int .i64 0]:=by kernel_rfl
theorem tk_144:tk Tryz.prog 144= .map 3 3:=by kernel_rfl
theorem tk_145:tk Tryz.prog 145= .map 3 4:=by kernel_rfl
attribute [go_sem] tk_3 tsz_3 tby_3 tzv_3 tze_3 tk_4 tsz_4 tby_4 tzv_4 tze_4 tk_9
attribute [go_sem] tk_22 tsz_22 tby_22 tze_22 tk_24 tsz_24 tze_24 tk_27 tsz_27 tk_29 tsz_29 tze_29 tk_30 tk_33 tk_38
attribute [go_sem] tsz_38 tk_40 tsz_40 tze_40 tk_43 tsz_43 tby_43 tze_43 tk_59 tsz_59 tze_59 tk_66 tsz_66 tby_66 tze_66 tk_69
attribute [go_sem] tk_84 tsz_84 tby_84 tze_84 tk_110
attribute [go_sem] tk_116 tsz_116 tze_116 tk_117 tsz_117 tze_117 tk_119 tsz_119 tze_119
attribute [go_sem] tk_144 tk_145
theorem mixed:Tryz.prog.follows .mixedOrders=true:=by kernel_rfl
end Go.Proofs.YtbblgobamoabkaaGreatDoor
