/- The types of the translation: kinds, sizes, bytes, zero values; made by a program of the author (gentypes.py), each fact checked by the kernel. -/
import Derived.Test.YthohfoombimbeaaGreatDoorGc
import Derived.Test.YthohfoombimbeaaGreatDoorRows
namespace Go.Proofs.YthohfoombimbeaaGreatDoor
open Go
theorem tk_3:tk Tryz.prog 3= .int .i64:=by kernel_rfl
theorem tsz_3:tsz Tryz.prog 3=some 1:=by kernel_rfl
theorem tby_3:tby Tryz.prog 3=some 8:=by kernel_rfl
theorem tze_3:tze Tryz.prog 3=some [.int .i64 0]:=by kernel_rfl
theorem tk_4:tk Tryz.prog 4= .bool:=by kernel_rfl
theorem tsz_4:tsz Tryz.prog 4=some 1:=by kernel_rfl
theorem tby_4:tby Tryz.prog 4=some 1:=by kernel_rfl
theorem tze_4:tze Tryz.prog 4=some [.bool false]:=by kernel_rfl
theorem tk_22:tk Tryz.prog 22= .slice 3:=by kernel_rfl
theorem tsz_22:tsz Tryz.prog 22=some 1:=by kernel_rfl
theorem tby_22:tby Tryz.prog 22=some 24:=by kernel_rfl
theorem tze_22:tze Tryz.prog 22=some [.nils]:=by kernel_rfl
theorem tk_24:tk Tryz.prog 24= .struct [(22,0),(22,1),(3,2)]:=by kernel_rfl
theorem tsz_24:tsz Tryz.prog 24=some 3:=by kernel_rfl
theorem tze_24:tze Tryz.prog 24=some [.nils,.nils,.int .i64 0]:=by kernel_rfl
theorem tk_26:tk Tryz.prog 26= .struct [(3,0),(3,1),(3,2),(3,3),(4,4)]:=by kernel_rfl
theorem tsz_26:tsz Tryz.prog 26=some 5:=by kernel_rfl
theorem tze_26:tze Tryz.prog 26=some [.int .i64 0,.int .i64 0,.int .i64 0,.int .i64 0,.bool false]:=by kernel_rfl
theorem tk_29:tk Tryz.prog 29= .int .i64:=by kernel_rfl
theorem tk_32:tk Tryz.prog 32= .slice 57:=by kernel_rfl
theorem tsz_32:tsz Tryz.prog 32=some 1:=by kernel_rfl
theorem tk_34:tk Tryz.prog 34= .struct [(4,0),(32,1)]:=by kernel_rfl
theorem tsz_34:tsz Tryz.prog 34=some 2:=by kernel_rfl
theorem tze_34:tze Tryz.prog 34=some [.bool false,.nils]:=by kernel_rfl
theorem tk_46:tk Tryz.prog 46= .struct [(24,0),(22,3),(22,4)]:=by kernel_rfl
theorem tsz_46:tsz Tryz.prog 46=some 5:=by kernel_rfl
theorem tze_46:tze Tryz.prog 46=some [.nils,.nils,.int .i64 0,.nils,.nils]:=by kernel_rfl
theorem tk_48:tk Tryz.prog 48= .map 3 22:=by kernel_rfl
theorem tk_57:tk Tryz.prog 57= .struct [(3,0),(3,1)]:=by kernel_rfl
theorem tsz_57:tsz Tryz.prog 57=some 2:=by kernel_rfl
theorem tby_57:tby Tryz.prog 57=some 16:=by kernel_rfl
theorem tze_57:tze Tryz.prog 57=some [.int .i64 0,.int .i64 0]:=by kernel_rfl
theorem tk_84:tk Tryz.prog 84= .arr 2 3:=by kernel_rfl
theorem tsz_84:tsz Tryz.prog 84=some 2:=by kernel_rfl
theorem tze_84:tze Tryz.prog 84=some [.int .i64 0,.int .i64 0]:=by kernel_rfl
theorem tk_89:tk Tryz.prog 89= .slice 22:=by kernel_rfl
theorem tk_91:tk Tryz.prog 91= .arr 4 3:=by kernel_rfl
theorem tsz_91:tsz Tryz.prog 91=some 4:=by kernel_rfl
theorem tze_91:tze Tryz.prog 91=some [.int .i64 0,.int .i64 0,.int .i64 0,.int .i64 0]:=by kernel_rfl
theorem tk_93:tk Tryz.prog 93= .struct [(91,0),(91,4)]:=by kernel_rfl
theorem tsz_93:tsz Tryz.prog 93=some 8:=by kernel_rfl
theorem tze_93:tze Tryz.prog 93=some [.int .i64 0,.int .i64 0,.int .i64 0,.int .i64 0,.int .i64 0,.int .i64 0,.int .i64 0,.int .i64 0]:=by kernel_rfl
theorem tk_98:tk Tryz.prog 98= .struct [(3,0),(3,1),(3,2),(3,3)]:=by kernel_rfl
theorem tsz_98:tsz Tryz.prog 98=some 4:=by kernel_rfl
theorem tze_98:tze Tryz.prog 98=some [.int .i64 0,.int .i64 0,.int .i64 0,.int .i64 0]:=by kernel_rfl
theorem tk_99:tk Tryz.prog 99= .arr 3 98:=by kernel_rfl
theorem tsz_99:tsz Tryz.prog 99=some 12:=by kernel_rfl
theorem tze_99:tze Tryz.prog 99=some [.int .i64 0,.int .i64 0,.int .i64 0,.int .i64 0,.int .i64 0,.int .i64 0,.int .i64 0,.int .i64 0,.int .i64 0,.int .i64 0,.int .i64 0,.int .i64 0]:=by kernel_rfl
theorem tk_102:tk Tryz.prog 102= .slice 4:=by kernel_rfl
theorem tk_108:tk Tryz.prog 108= .slice 112:=by kernel_rfl
theorem tsz_108:tsz Tryz.prog 108=some 1:=by kernel_rfl
theorem tze_108:tze Tryz.prog 108=some [.nils]:=by kernel_rfl
theorem tk_110:tk Tryz.prog 110= .int .u64:=by kernel_rfl
theorem tsz_110:tsz Tryz.prog 110=some 1:=by kernel_rfl
theorem tk_112:tk Tryz.prog 112= .struct [(110,0),(110,1)]:=by kernel_rfl
theorem tsz_112:tsz Tryz.prog 112=some 2:=by kernel_rfl
theorem tby_112:tby Tryz.prog 112=some 16:=by kernel_rfl
theorem tze_112:tze Tryz.prog 112=some [.int .u64 0,.int .u64 0]:=by kernel_rfl
theorem tk_121:tk Tryz.prog 121= .arr 3 3:=by kernel_rfl
theorem tze_121:tze Tryz.prog 121=some [.int .i64 0,.int .i64 0,.int .i64 0]:=by kernel_rfl
attribute [go_sem] tk_3 tsz_3 tby_3 tze_3 tk_4 tsz_4 tby_4 tze_4
attribute [go_sem] tk_22 tsz_22 tby_22 tze_22 tk_24 tsz_24 tze_24 tk_26 tsz_26 tze_26 tk_29 tk_32 tsz_32 tk_34
attribute [go_sem] tsz_34 tze_34 tk_46 tsz_46 tze_46 tk_48 tk_57 tsz_57 tby_57 tze_57 tk_84
attribute [go_sem] tsz_84 tze_84 tk_89 tk_91 tsz_91 tze_91 tk_93 tsz_93 tze_93 tk_98 tsz_98 tze_98 tk_99 tsz_99 tze_99 tk_102 tk_108 tsz_108 tze_108 tk_110
attribute [go_sem] tsz_110 tk_112 tsz_112 tby_112 tze_112 tk_121 tze_121
theorem mixed:Tryz.prog.follows .mixedOrders=true:=by kernel_rfl
end Go.Proofs.YthohfoombimbeaaGreatDoor
