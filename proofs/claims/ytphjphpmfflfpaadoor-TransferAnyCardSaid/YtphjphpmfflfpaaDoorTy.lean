/- The types of the translation: kinds, sizes, bytes, zero values; made by a program of the author (gentypes.py), each fact checked by the kernel. -/
import Derived.Test.YtphjphpmfflfpaaDoorGc
import Derived.Test.YtphjphpmfflfpaaDoorRows
namespace Go.Proofs.YtphjphpmfflfpaaDoor
open Go
theorem tk_3:tk Tryd.prog 3= .int .i64:=by kernel_rfl
theorem tsz_3:tsz Tryd.prog 3=some 1:=by kernel_rfl
theorem tby_3:tby Tryd.prog 3=some 8:=by kernel_rfl
theorem tzv_3:tzv Tryd.prog 3=some (.int .i64 0):=by kernel_rfl
theorem tze_3:tze Tryd.prog 3=some [.int .i64 0]:=by kernel_rfl
theorem tk_4:tk Tryd.prog 4= .bool:=by kernel_rfl
theorem tsz_4:tsz Tryd.prog 4=some 1:=by kernel_rfl
theorem tby_4:tby Tryd.prog 4=some 1:=by kernel_rfl
theorem tze_4:tze Tryd.prog 4=some [.bool false]:=by kernel_rfl
theorem tk_5:tk Tryd.prog 5= .int .u8:=by kernel_rfl
theorem tsz_5:tsz Tryd.prog 5=some 1:=by kernel_rfl
theorem tby_5:tby Tryd.prog 5=some 1:=by kernel_rfl
theorem tze_5:tze Tryd.prog 5=some [.int .u8 0]:=by kernel_rfl
theorem tk_9:tk Tryd.prog 9= .str:=by kernel_rfl
theorem tsz_9:tsz Tryd.prog 9=some 1:=by kernel_rfl
theorem tk_23:tk Tryd.prog 23= .slice 56:=by kernel_rfl
theorem tsz_23:tsz Tryd.prog 23=some 1:=by kernel_rfl
theorem tk_25:tk Tryd.prog 25= .struct [(4,0),(23,1)]:=by kernel_rfl
theorem tsz_25:tsz Tryd.prog 25=some 2:=by kernel_rfl
theorem tze_25:tze Tryd.prog 25=some [.bool false, .nils]:=by kernel_rfl
theorem tk_26:tk Tryd.prog 26= .int .i64:=by kernel_rfl
theorem tk_29:tk Tryd.prog 29= .slice 3:=by kernel_rfl
theorem tsz_29:tsz Tryd.prog 29=some 1:=by kernel_rfl
theorem tze_29:tze Tryd.prog 29=some [.nils]:=by kernel_rfl
theorem tk_31:tk Tryd.prog 31= .struct [(29,0),(29,1),(3,2)]:=by kernel_rfl
theorem tsz_31:tsz Tryd.prog 31=some 3:=by kernel_rfl
theorem tze_31:tze Tryd.prog 31=some [.nils, .nils, .int .i64 0]:=by kernel_rfl
theorem tk_41:tk Tryd.prog 41= .slice 29:=by kernel_rfl
theorem tk_56:tk Tryd.prog 56= .struct [(3,0),(3,1)]:=by kernel_rfl
theorem tsz_56:tsz Tryd.prog 56=some 2:=by kernel_rfl
theorem tby_56:tby Tryd.prog 56=some 16:=by kernel_rfl
theorem tze_56:tze Tryd.prog 56=some [.int .i64 0, .int .i64 0]:=by kernel_rfl
theorem tk_59:tk Tryd.prog 59= .slice 63:=by kernel_rfl
theorem tsz_59:tsz Tryd.prog 59=some 1:=by kernel_rfl
theorem tze_59:tze Tryd.prog 59=some [.nils]:=by kernel_rfl
theorem tk_61:tk Tryd.prog 61= .int .u64:=by kernel_rfl
theorem tsz_61:tsz Tryd.prog 61=some 1:=by kernel_rfl
theorem tk_63:tk Tryd.prog 63= .struct [(61,0),(61,1)]:=by kernel_rfl
theorem tsz_63:tsz Tryd.prog 63=some 2:=by kernel_rfl
theorem tby_63:tby Tryd.prog 63=some 16:=by kernel_rfl
theorem tze_63:tze Tryd.prog 63=some [.int .u64 0, .int .u64 0]:=by kernel_rfl
theorem tk_68:tk Tryd.prog 68= .slice 4:=by kernel_rfl
theorem tk_72:tk Tryd.prog 72= .slice 5:=by kernel_rfl
theorem tk_83:tk Tryd.prog 83= .struct [(3,0),(29,1)]:=by kernel_rfl
theorem tsz_83:tsz Tryd.prog 83=some 2:=by kernel_rfl
theorem tze_83:tze Tryd.prog 83=some [.int .i64 0, .nils]:=by kernel_rfl
theorem tk_84:tk Tryd.prog 84= .map 9 83:=by kernel_rfl
theorem tsz_84:tsz Tryd.prog 84=some 1:=by kernel_rfl
theorem tze_84:tze Tryd.prog 84=some [.any]:=by kernel_rfl
theorem tk_86:tk Tryd.prog 86= .struct [(3,0),(29,1),(29,2),(29,3)]:=by kernel_rfl
theorem tsz_86:tsz Tryd.prog 86=some 4:=by kernel_rfl
theorem tze_86:tze Tryd.prog 86=some [.int .i64 0, .nils, .nils, .nils]:=by kernel_rfl
theorem tk_104:tk Tryd.prog 104= .map 3 3:=by kernel_rfl
theorem tk_105:tk Tryd.prog 105= .arr 4 3:=by kernel_rfl
theorem tsz_105:tsz Tryd.prog 105=some 4:=by kernel_rfl
theorem tze_105:tze Tryd.prog 105=some [.int .i64 0, .int .i64 0, .int .i64 0, .int .i64 0]:=by kernel_rfl
theorem tk_106:tk Tryd.prog 106= .arr 2 105:=by kernel_rfl
theorem tze_106:tze Tryd.prog 106=some [.int .i64 0, .int .i64 0, .int .i64 0, .int .i64 0, .int .i64 0, .int .i64 0, .int .i64 0, .int .i64 0]:=by kernel_rfl
attribute [go_sem] tk_3 tsz_3 tby_3 tzv_3 tze_3 tk_4 tsz_4 tby_4 tze_4 tk_5 tsz_5 tby_5 tze_5 tk_9 tsz_9
attribute [go_sem] tk_23 tsz_23 tk_25 tsz_25 tze_25 tk_26 tk_29 tsz_29 tze_29 tk_31 tsz_31 tze_31 tk_41
attribute [go_sem] tk_56 tsz_56 tby_56 tze_56 tk_59 tsz_59 tze_59 tk_61 tsz_61 tk_63 tsz_63 tby_63 tze_63 tk_68 tk_72
attribute [go_sem] tk_83 tsz_83 tze_83 tk_84 tsz_84 tze_84 tk_86 tsz_86 tze_86 tk_104 tk_105 tsz_105 tze_105
attribute [go_sem] tk_106 tze_106
theorem mixed:Tryd.prog.follows .mixedOrders=true:=by kernel_rfl
end Go.Proofs.YtphjphpmfflfpaaDoor
