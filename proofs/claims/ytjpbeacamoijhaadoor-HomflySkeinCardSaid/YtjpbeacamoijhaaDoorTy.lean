/- The types of the translation: kinds, sizes, bytes, zero values; made by a program of the author (gentypes.py), each fact checked by the kernel. -/
import Derived.Test.YtjpbeacamoijhaaDoorGc
import Derived.Test.YtjpbeacamoijhaaDoorRows
namespace Go.Proofs.YtjpbeacamoijhaaDoor
open Go
theorem tk_3:tk Tryd.prog 3= .int .i64:=by kernel_rfl
theorem tsz_3:tsz Tryd.prog 3=some 1:=by kernel_rfl
theorem tby_3:tby Tryd.prog 3=some 8:=by kernel_rfl
theorem tzv_3:tzv Tryd.prog 3=some (.int .i64 0):=by kernel_rfl
theorem tze_3:tze Tryd.prog 3=some [.int .i64 0]:=by kernel_rfl
theorem tk_4:tk Tryd.prog 4= .bool:=by kernel_rfl
theorem tsz_4:tsz Tryd.prog 4=some 1:=by kernel_rfl
theorem tby_4:tby Tryd.prog 4=some 1:=by kernel_rfl
theorem tzv_4:tzv Tryd.prog 4=some (.bool false):=by kernel_rfl
theorem tze_4:tze Tryd.prog 4=some [.bool false]:=by kernel_rfl
theorem tk_5:tk Tryd.prog 5= .int .u8:=by kernel_rfl
theorem tk_22:tk Tryd.prog 22= .slice 3:=by kernel_rfl
theorem tsz_22:tsz Tryd.prog 22=some 1:=by kernel_rfl
theorem tby_22:tby Tryd.prog 22=some 24:=by kernel_rfl
theorem tze_22:tze Tryd.prog 22=some [.nils]:=by kernel_rfl
theorem tk_24:tk Tryd.prog 24= .struct [(22,0),(22,1),(3,2)]:=by kernel_rfl
theorem tsz_24:tsz Tryd.prog 24=some 3:=by kernel_rfl
theorem tze_24:tze Tryd.prog 24=some [.nils, .nils, .int .i64 0]:=by kernel_rfl
theorem tk_28:tk Tryd.prog 28= .int .i64:=by kernel_rfl
theorem tk_31:tk Tryd.prog 31= .slice 56:=by kernel_rfl
theorem tsz_31:tsz Tryd.prog 31=some 1:=by kernel_rfl
theorem tk_33:tk Tryd.prog 33= .struct [(4,0),(31,1)]:=by kernel_rfl
theorem tsz_33:tsz Tryd.prog 33=some 2:=by kernel_rfl
theorem tze_33:tze Tryd.prog 33=some [.bool false, .nils]:=by kernel_rfl
theorem tk_47:tk Tryd.prog 47= .slice 22:=by kernel_rfl
theorem tk_51:tk Tryd.prog 51= .map 3 3:=by kernel_rfl
theorem tk_52:tk Tryd.prog 52= .map 3 4:=by kernel_rfl
theorem tk_56:tk Tryd.prog 56= .struct [(3,0),(3,1),(3,2)]:=by kernel_rfl
theorem tsz_56:tsz Tryd.prog 56=some 3:=by kernel_rfl
theorem tby_56:tby Tryd.prog 56=some 24:=by kernel_rfl
theorem tze_56:tze Tryd.prog 56=some [.int .i64 0, .int .i64 0, .int .i64 0]:=by kernel_rfl
theorem tk_59:tk Tryd.prog 59= .map 3 33:=by kernel_rfl
theorem tsz_59:tsz Tryd.prog 59=some 1:=by kernel_rfl
theorem tze_59:tze Tryd.prog 59=some [.any]:=by kernel_rfl
theorem tk_81:tk Tryd.prog 81= .map 82 84:=by kernel_rfl
theorem tsz_81:tsz Tryd.prog 81=some 1:=by kernel_rfl
theorem tze_81:tze Tryd.prog 81=some [.any]:=by kernel_rfl
theorem tk_82:tk Tryd.prog 82= .arr 2 3:=by kernel_rfl
theorem tsz_82:tsz Tryd.prog 82=some 2:=by kernel_rfl
theorem tze_82:tze Tryd.prog 82=some [.int .i64 0, .int .i64 0]:=by kernel_rfl
theorem tk_84:tk Tryd.prog 84= .struct [(3,0),(3,1)]:=by kernel_rfl
theorem tsz_84:tsz Tryd.prog 84=some 2:=by kernel_rfl
theorem tze_84:tze Tryd.prog 84=some [.int .i64 0, .int .i64 0]:=by kernel_rfl
theorem tk_95:tk Tryd.prog 95= .slice 4:=by kernel_rfl
attribute [go_sem] tk_3 tsz_3 tby_3 tzv_3 tze_3 tk_4 tsz_4 tby_4 tzv_4 tze_4 tk_5
attribute [go_sem] tk_22 tsz_22 tby_22 tze_22 tk_24 tsz_24 tze_24 tk_28 tk_31 tsz_31 tk_33 tsz_33 tze_33 tk_47 tk_51
attribute [go_sem] tk_52 tk_56 tsz_56 tby_56 tze_56 tk_59 tsz_59 tze_59 tk_81 tsz_81 tze_81 tk_82
attribute [go_sem] tsz_82 tze_82 tk_84 tsz_84 tze_84 tk_95
theorem mixed:Tryd.prog.follows .mixedOrders=true:=by kernel_rfl
end Go.Proofs.YtjpbeacamoijhaaDoor
