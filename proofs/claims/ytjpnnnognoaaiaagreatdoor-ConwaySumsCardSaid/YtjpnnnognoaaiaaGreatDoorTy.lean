/- The types of the translation: kinds, sizes, bytes, zero values; made by a program of the author (gentypes.py), each fact checked by the kernel. -/
import Derived.Test.YtjpnnnognoaaiaaGreatDoorGc
import Derived.Test.YtjpnnnognoaaiaaGreatDoorRows
namespace Go.Proofs.YtjpnnnognoaaiaaGreatDoor
open Go
theorem tk_3:tk Tryz.prog 3= .int .i64:=by kernel_rfl
theorem tsz_3:tsz Tryz.prog 3=some 1:=by kernel_rfl
theorem tby_3:tby Tryz.prog 3=some 8:=by kernel_rfl
theorem tzv_3:tzv Tryz.prog 3=some (.int .i64 0):=by kernel_rfl
theorem tze_3:tze Tryz.prog 3=some [.int .i64 0]:=by kernel_rfl
theorem tk_4:tk Tryz.prog 4= .bool:=by kernel_rfl
theorem tsz_4:tsz Tryz.prog 4=some 1:=by kernel_rfl
theorem tby_4:tby Tryz.prog 4=some 1:=by kernel_rfl
theorem tzv_4:tzv Tryz.prog 4=some (.bool false):=by kernel_rfl
theorem tze_4:tze Tryz.prog 4=some [.bool false]:=by kernel_rfl
theorem tk_22:tk Tryz.prog 22= .slice 3:=by kernel_rfl
theorem tsz_22:tsz Tryz.prog 22=some 1:=by kernel_rfl
theorem tby_22:tby Tryz.prog 22=some 24:=by kernel_rfl
theorem tze_22:tze Tryz.prog 22=some [.nils]:=by kernel_rfl
theorem tk_24:tk Tryz.prog 24= .struct [(22,0),(22,1),(3,2)]:=by kernel_rfl
theorem tsz_24:tsz Tryz.prog 24=some 3:=by kernel_rfl
theorem tze_24:tze Tryz.prog 24=some [.nils, .nils, .int .i64 0]:=by kernel_rfl
theorem tk_29:tk Tryz.prog 29= .int .i64:=by kernel_rfl
theorem tk_32:tk Tryz.prog 32= .slice 62:=by kernel_rfl
theorem tsz_32:tsz Tryz.prog 32=some 1:=by kernel_rfl
theorem tk_34:tk Tryz.prog 34= .struct [(4,0),(32,1)]:=by kernel_rfl
theorem tsz_34:tsz Tryz.prog 34=some 2:=by kernel_rfl
theorem tze_34:tze Tryz.prog 34=some [.bool false, .nils]:=by kernel_rfl
theorem tk_62:tk Tryz.prog 62= .struct [(3,0),(3,1)]:=by kernel_rfl
theorem tsz_62:tsz Tryz.prog 62=some 2:=by kernel_rfl
theorem tby_62:tby Tryz.prog 62=some 16:=by kernel_rfl
theorem tze_62:tze Tryz.prog 62=some [.int .i64 0, .int .i64 0]:=by kernel_rfl
theorem tk_66:tk Tryz.prog 66= .map 3 3:=by kernel_rfl
theorem tk_68:tk Tryz.prog 68= .map 3 4:=by kernel_rfl
theorem tk_74:tk Tryz.prog 74= .slice 78:=by kernel_rfl
theorem tsz_74:tsz Tryz.prog 74=some 1:=by kernel_rfl
theorem tze_74:tze Tryz.prog 74=some [.nils]:=by kernel_rfl
theorem tk_76:tk Tryz.prog 76= .int .u64:=by kernel_rfl
theorem tsz_76:tsz Tryz.prog 76=some 1:=by kernel_rfl
theorem tk_78:tk Tryz.prog 78= .struct [(76,0),(76,1)]:=by kernel_rfl
theorem tsz_78:tsz Tryz.prog 78=some 2:=by kernel_rfl
theorem tby_78:tby Tryz.prog 78=some 16:=by kernel_rfl
theorem tze_78:tze Tryz.prog 78=some [.int .u64 0, .int .u64 0]:=by kernel_rfl
theorem tk_99:tk Tryz.prog 99= .slice 4:=by kernel_rfl
theorem tk_100:tk Tryz.prog 100= .slice 22:=by kernel_rfl
attribute [go_sem] tk_3 tsz_3 tby_3 tzv_3 tze_3 tk_4 tsz_4 tby_4 tzv_4 tze_4
attribute [go_sem] tk_22 tsz_22 tby_22 tze_22 tk_24 tsz_24 tze_24 tk_29 tk_32 tsz_32 tk_34
attribute [go_sem] tsz_34 tze_34 tk_62 tsz_62 tby_62 tze_62 tk_66 tk_68 tk_74 tsz_74 tze_74 tk_76 tsz_76
attribute [go_sem] tk_78 tsz_78 tby_78 tze_78 tk_99 tk_100
theorem mixed:Tryz.prog.follows .mixedOrders=true:=by kernel_rfl
end Go.Proofs.YtjpnnnognoaaiaaGreatDoor
