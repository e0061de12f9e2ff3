/- The types of the translation: kinds, sizes, bytes, zero values; made by a program of the author (gentypes.py), each fact checked by the kernel. -/
import Derived.Test.YtmdjdekgakidhaaDoorGc
import Derived.Test.YtmdjdekgakidhaaDoorRows
namespace Go.Proofs.YtmdjdekgakidhaaDoor
open Go
theorem tk_3:tk Tryd.prog 3= .int .i64:=by kernel_rfl
theorem tsz_3:tsz Tryd.prog 3=some 1:=by kernel_rfl
theorem tby_3:tby Tryd.prog 3=some 8:=by kernel_rfl
theorem tzv_3:tzv Tryd.prog 3=some (.int .i64 0):=by kernel_rfl
theorem tze_3:tze Tryd.prog 3=some [.int .i64 0]:=by kernel_rfl
theorem tk_4:tk Tryd.prog 4= .bool:=by kernel_rfl
theorem tsz_4:tsz Tryd.prog 4=some 1:=by kernel_rfl
theorem tby_4:tby Tryd.prog 4=some 1:=by kernel_rfl
theorem tze_4:tze Tryd.prog 4=some [.bool false]:=by kernel_rfl
theorem tk_5:tk Tryd.prog 5= .int .u8:=by kernel_rfl
theorem tsz_5:tsz Tryd.prog 5=some 1:=by kernel_rfl
theorem tby_5:tby Tryd.prog 5=some 1:=by kernel_rfl
theorem tze_5:tze Tryd.prog 5=some [.int .u8 0]:=by kernel_rfl
theorem tk_9:tk Tryd.prog 9= .str:=by kernel_rfl
theorem tsz_9:tsz Tryd.prog 9=some 1:=by kernel_rfl
theorem tk_23:tk Tryd.prog 23= .slice 3:=by kernel_rfl
theorem tsz_23:tsz Tryd.prog 23=some 1:=by kernel_rfl
theorem tk_25:tk Tryd.prog 25= .struct [(23,0),(23,1),(3,2)]:=by kernel_rfl
theorem tsz_25:tsz Tryd.prog 25=some 3:=by kernel_rfl
theorem tze_25:tze Tryd.prog 25=some [.nils, .nils, .int .i64 0]:=by kernel_rfl
theorem tk_26:tk Tryd.prog 26= .slice 50:=by kernel_rfl
theorem tsz_26:tsz Tryd.prog 26=some 1:=by kernel_rfl
theorem tk_28:tk Tryd.prog 28= .struct [(4,0),(26,1)]:=by kernel_rfl
theorem tsz_28:tsz Tryd.prog 28=some 2:=by kernel_rfl
theorem tze_28:tze Tryd.prog 28=some [.bool false, .nils]:=by kernel_rfl
theorem tk_29:tk Tryd.prog 29= .int .i64:=by kernel_rfl
theorem tk_47:tk Tryd.prog 47= .slice 4:=by kernel_rfl
theorem tk_50:tk Tryd.prog 50= .struct [(3,0),(3,1)]:=by kernel_rfl
theorem tsz_50:tsz Tryd.prog 50=some 2:=by kernel_rfl
theorem tby_50:tby Tryd.prog 50=some 16:=by kernel_rfl
theorem tze_50:tze Tryd.prog 50=some [.int .i64 0, .int .i64 0]:=by kernel_rfl
theorem tk_54:tk Tryd.prog 54= .slice 5:=by kernel_rfl
theorem tk_65:tk Tryd.prog 65= .struct [(3,0),(23,1)]:=by kernel_rfl
theorem tsz_65:tsz Tryd.prog 65=some 2:=by kernel_rfl
theorem tze_65:tze Tryd.prog 65=some [.int .i64 0, .nils]:=by kernel_rfl
theorem tk_66:tk Tryd.prog 66= .map 9 65:=by kernel_rfl
theorem tsz_66:tsz Tryd.prog 66=some 1:=by kernel_rfl
theorem tze_66:tze Tryd.prog 66=some [.any]:=by kernel_rfl
theorem tk_68:tk Tryd.prog 68= .struct [(3,0),(23,1),(23,2),(23,3)]:=by kernel_rfl
theorem tsz_68:tsz Tryd.prog 68=some 4:=by kernel_rfl
theorem tze_68:tze Tryd.prog 68=some [.int .i64 0, .nils, .nils, .nils]:=by kernel_rfl
theorem tk_76:tk Tryd.prog 76= .slice 80:=by kernel_rfl
theorem tsz_76:tsz Tryd.prog 76=some 1:=by kernel_rfl
theorem tze_76:tze Tryd.prog 76=some [.nils]:=by kernel_rfl
theorem tk_78:tk Tryd.prog 78= .int .u64:=by kernel_rfl
theorem tsz_78:tsz Tryd.prog 78=some 1:=by kernel_rfl
theorem tk_80:tk Tryd.prog 80= .struct [(78,0),(78,1)]:=by kernel_rfl
theorem tsz_80:tsz Tryd.prog 80=some 2:=by kernel_rfl
theorem tby_80:tby Tryd.prog 80=some 16:=by kernel_rfl
theorem tze_80:tze Tryd.prog 80=some [.int .u64 0, .int .u64 0]:=by kernel_rfl
theorem tk_87:tk Tryd.prog 87= .map 3 3:=by kernel_rfl
theorem tk_88:tk Tryd.prog 88= .arr 4 3:=by kernel_rfl
theorem tsz_88:tsz Tryd.prog 88=some 4:=by kernel_rfl
theorem tze_88:tze Tryd.prog 88=some [.int .i64 0, .int .i64 0, .int .i64 0, .int .i64 0]:=by kernel_rfl
theorem tk_89:tk Tryd.prog 89= .arr 2 88:=by kernel_rfl
theorem tze_89:tze Tryd.prog 89=some [.int .i64 0, .int .i64 0, .int .i64 0, .int .i64 0, .int .i64 0, .int .i64 0, .int .i64 0, .int .i64 0]:=by kernel_rfl
attribute [go_sem] tk_3 tsz_3 tby_3 tzv_3 tze_3 tk_4 tsz_4 tby_4 tze_4 tk_5 tsz_5 tby_5 tze_5 tk_9 tsz_9
attribute [go_sem] tk_23 tsz_23 tk_25 tsz_25 tze_25 tk_26 tsz_26 tk_28 tsz_28 tze_28 tk_29 tk_47
attribute [go_sem] tk_50 tsz_50 tby_50 tze_50 tk_54 tk_65 tsz_65 tze_65 tk_66 tsz_66 tze_66 tk_68
attribute [go_sem] tsz_68 tze_68 tk_76 tsz_76 tze_76 tk_78 tsz_78 tk_80 tsz_80 tby_80 tze_80 tk_87 tk_88 tsz_88 tze_88 tk_89 tze_89
theorem mixed:Tryd.prog.follows .mixedOrders=true:=by kernel_rfl
end Go.Proofs.YtmdjdekgakidhaaDoor
