/- The types of the translation: kinds, sizes, bytes, zero values; made by a program of the author (gentypes.py), each fact checked by the kernel. -/
import Derived.Test.YtjpnnnognoaaiaaDoorGc
import Derived.Test.YtjpnnnognoaaiaaDoorRows
namespace Go.Proofs.YtjpnnnognoaaiaaDoor
open Go
theorem tk_3:tk Tryd.prog 3= .int .i64:=by kernel_rfl
theorem tsz_3:tsz Tryd.prog 3=some 1:=by kernel_rfl
theorem tby_3:tby Tryd.prog 3=some 8:=by kernel_rfl
theorem tzv_3:tzv Tryd.prog 3=some (.int .i64 0):=by kernel_rfl
theorem tze_3:tze Tryd.prog 3=some [.int .i64 0]:=by kernel_rfl
theorem tk_4:tk Tryd.prog 4= .bool:=by kernel_rfl
theorem tsz_4:tsz Tryd.prog 4=some 1:=by kernel_rfl
theorem tby_4:tby Tryd.prog 4=some 1:=by kernel_rfl
theorem tzv_4:tzv Tryd.prog 4=some (.bool false):=by kernel_rfl
theorem tze_4:tze Tryd.prog 4=some [.bool false]:=by kernel_rfl
theorem tk_22:tk Tryd.prog 22= .slice 3:=by kernel_rfl
theorem tsz_22:tsz Tryd.prog 22=some 1:=by kernel_rfl
theorem tby_22:tby Tryd.prog 22=some 24:=by kernel_rfl
theorem tze_22:tze Tryd.prog 22=some [.nils]:=by kernel_rfl
theorem tk_24:tk Tryd.prog 24= .struct [(22,0),(22,1),(3,2)]:=by kernel_rfl
theorem tsz_24:tsz Tryd.prog 24=some 3:=by kernel_rfl
theorem tze_24:tze Tryd.prog 24=some [.nils, .nils, .int .i64 0]:=by kernel_rfl
theorem tk_27:tk Tryd.prog 27= .slice 52:=by kernel_rfl
theorem tsz_27:tsz Tryd.prog 27=some 1:=by kernel_rfl
theorem tk_29:tk Tryd.prog 29= .struct [(4,0),(27,1)]:=by kernel_rfl
theorem tsz_29:tsz Tryd.prog 29=some 2:=by kernel_rfl
theorem tze_29:tze Tryd.prog 29=some [.bool false, .nils]:=by kernel_rfl
theorem tk_30:tk Tryd.prog 30= .int .i64:=by kernel_rfl
theorem tk_52:tk Tryd.prog 52= .struct [(3,0),(3,1)]:=by kernel_rfl
theorem tsz_52:tsz Tryd.prog 52=some 2:=by kernel_rfl
theorem tby_52:tby Tryd.prog 52=some 16:=by kernel_rfl
theorem tze_52:tze Tryd.prog 52=some [.int .i64 0, .int .i64 0]:=by kernel_rfl
theorem tk_58:tk Tryd.prog 58= .slice 4:=by kernel_rfl
theorem tk_59:tk Tryd.prog 59= .slice 22:=by kernel_rfl
theorem tk_80:tk Tryd.prog 80= .int .u64:=by kernel_rfl
theorem tk_91:tk Tryd.prog 91= .map 3 3:=by kernel_rfl
theorem tk_93:tk Tryd.prog 93= .map 3 4:=by kernel_rfl
attribute [go_sem] tk_3 tsz_3 tby_3 tzv_3 tze_3 tk_4 tsz_4 tby_4 tzv_4 tze_4
attribute [go_sem] tk_22 tsz_22 tby_22 tze_22 tk_24 tsz_24 tze_24 tk_27 tsz_27 tk_29 tsz_29 tze_29 tk_30 tk_52
attribute [go_sem] tsz_52 tby_52 tze_52 tk_58 tk_59 tk_80
attribute [go_sem] tk_91 tk_93
theorem mixed:Tryd.prog.follows .mixedOrders=true:=by kernel_rfl
end Go.Proofs.YtjpnnnognoaaiaaDoor
