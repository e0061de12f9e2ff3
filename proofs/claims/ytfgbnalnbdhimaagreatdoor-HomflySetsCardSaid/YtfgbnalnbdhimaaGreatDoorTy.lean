/- The types of the translation: kinds, sizes, bytes, zero values; made by a program of the author (gentypes.py), each fact checked by the kernel. -/
import Derived.Test.YtfgbnalnbdhimaaGreatDoorGc
import Derived.Test.YtfgbnalnbdhimaaGreatDoorRows
namespace Go.Proofs.YtfgbnalnbdhimaaGreatDoor
open Go
theorem tk_3:tk Tryz.prog 3= .int .i64:=by kernel_rfl
theorem tsz_3:tsz Tryz.prog 3=some 1:=by kernel_rfl
theorem tby_3:tby Tryz.prog 3=some 8:=by kernel_rfl
theorem tzv_3:tzv Tryz.prog 3=some (.int .i64 0):=by kernel_rfl
theorem tze_3:tze Tryz.prog 3=some [.int .i64 0]:=by kernel_rfl
theorem tk_4:tk Tryz.prog 4= .bool:=by kernel_rfl
theorem tsz_4:tsz Tryz.prog 4=some 1:=by kernel_rfl
theorem tby_4:tby Tryz.prog 4=some 1:=by kernel_rfl
theorem tzv_4:tzv Tryz.prog 4=some (.bool false):=by kernel_rfl
theorem tze_4:tze Tryz.prog 4=some [.bool false]:=by kernel_rfl
theorem tk_22:tk Tryz.prog 22= .slice 28:=by kernel_rfl
theorem tk_24:tk Tryz.prog 24= .slice 50:=by kernel_rfl
theorem tsz_24:tsz Tryz.prog 24=some 1:=by kernel_rfl
theorem tk_26:tk Tryz.prog 26= .struct [(4,0),(24,1)]:=by kernel_rfl
theorem tsz_26:tsz Tryz.prog 26=some 2:=by kernel_rfl
theorem tze_26:tze Tryz.prog 26=some [.bool false, .nils]:=by kernel_rfl
theorem tk_28:tk Tryz.prog 28= .arr 3 3:=by kernel_rfl
theorem tsz_28:tsz Tryz.prog 28=some 3:=by kernel_rfl
theorem tk_30:tk Tryz.prog 30= .slice 57:=by kernel_rfl
theorem tsz_30:tsz Tryz.prog 30=some 1:=by kernel_rfl
theorem tk_32:tk Tryz.prog 32= .struct [(4,0),(30,1)]:=by kernel_rfl
theorem tsz_32:tsz Tryz.prog 32=some 2:=by kernel_rfl
theorem tby_32:tby Tryz.prog 32=some 32:=by kernel_rfl
theorem tze_32:tze Tryz.prog 32=some [.bool false, .nils]:=by kernel_rfl
theorem tk_33:tk Tryz.prog 33= .int .i64:=by kernel_rfl
theorem tk_43:tk Tryz.prog 43= .slice 3:=by kernel_rfl
theorem tsz_43:tsz Tryz.prog 43=some 1:=by kernel_rfl
theorem tby_43:tby Tryz.prog 43=some 24:=by kernel_rfl
theorem tze_43:tze Tryz.prog 43=some [.nils]:=by kernel_rfl
theorem tk_45:tk Tryz.prog 45= .struct [(43,0),(43,1),(3,2)]:=by kernel_rfl
theorem tsz_45:tsz Tryz.prog 45=some 3:=by kernel_rfl
theorem tze_45:tze Tryz.prog 45=some [.nils, .nils, .int .i64 0]:=by kernel_rfl
theorem tk_50:tk Tryz.prog 50= .struct [(3,0),(3,1),(3,2)]:=by kernel_rfl
theorem tsz_50:tsz Tryz.prog 50=some 3:=by kernel_rfl
theorem tby_50:tby Tryz.prog 50=some 24:=by kernel_rfl
theorem tze_50:tze Tryz.prog 50=some [.int .i64 0, .int .i64 0, .int .i64 0]:=by kernel_rfl
theorem tk_57:tk Tryz.prog 57= .struct [(3,0),(3,1)]:=by kernel_rfl
theorem tsz_57:tsz Tryz.prog 57=some 2:=by kernel_rfl
theorem tby_57:tby Tryz.prog 57=some 16:=by kernel_rfl
theorem tze_57:tze Tryz.prog 57=some [.int .i64 0, .int .i64 0]:=by kernel_rfl
theorem tk_62:tk Tryz.prog 62= .map 3 26:=by kernel_rfl
theorem tsz_62:tsz Tryz.prog 62=some 1:=by kernel_rfl
theorem tze_62:tze Tryz.prog 62=some [.any]:=by kernel_rfl
theorem tk_82:tk Tryz.prog 82= .map 83 85:=by kernel_rfl
theorem tsz_82:tsz Tryz.prog 82=some 1:=by kernel_rfl
theorem tze_82:tze Tryz.prog 82=some [.any]:=by kernel_rfl
theorem tk_83:tk Tryz.prog 83= .arr 2 3:=by kernel_rfl
theorem tsz_83:tsz Tryz.prog 83=some 2:=by kernel_rfl
theorem tze_83:tze Tryz.prog 83=some [.int .i64 0, .int .i64 0]:=by kernel_rfl
theorem tk_85:tk Tryz.prog 85= .struct [(3,0),(3,1)]:=by kernel_rfl
theorem tsz_85:tsz Tryz.prog 85=some 2:=by kernel_rfl
theorem tze_85:tze Tryz.prog 85=some [.int .i64 0, .int .i64 0]:=by kernel_rfl
theorem tk_91:tk Tryz.prog 91= .slice 32:=by kernel_rfl
theorem tsz_91:tsz Tryz.prog 91=some 1:=by kernel_rfl
theorem tze_91:tze Tryz.prog 91=some [.nils]:=by kernel_rfl
theorem tk_93:tk Tryz.prog 93= .slice 97:=by kernel_rfl
theorem tsz_93:tsz Tryz.prog 93=some 1:=by kernel_rfl
theorem tze_93:tze Tryz.prog 93=some [.nils]:=by kernel_rfl
theorem tk_95:tk Tryz.prog 95= .int .u64:=by kernel_rfl
theorem tsz_95:tsz Tryz.prog 95=some 1:=by kernel_rfl
theorem tk_97:tk Tryz.prog 97= .struct [(95,0),(95,1)]:=by kernel_rfl
theorem tsz_97:tsz Tryz.prog 97=some 2:=by kernel_rfl
theorem tby_97:tby Tryz.prog 97=some 16:=by kernel_rfl
theorem tze_97:tze Tryz.prog 97=some [.int .u64 0, .int .u64 0]:=by kernel_rfl
theorem tk_111:tk Tryz.prog 111= .slice 43:=by kernel_rfl
theorem tk_114:tk Tryz.prog 114= .int .u64:=by kernel_rfl
theorem tk_134:tk Tryz.prog 134= .slice 4:=by kernel_rfl
theorem tk_135:tk Tryz.prog 135= .map 3 3:=by kernel_rfl
theorem tk_137:tk Tryz.prog 137= .map 3 4:=by kernel_rfl
attribute [go_sem] tk_3 tsz_3 tby_3 tzv_3 tze_3 tk_4 tsz_4 tby_4 tzv_4 tze_4
attribute [go_sem] tk_22 tk_24 tsz_24 tk_26 tsz_26 tze_26 tk_28 tsz_28 tk_30 tsz_30 tk_32 tsz_32 tby_32 tze_32 tk_33
attribute [go_sem] tk_43 tsz_43 tby_43 tze_43 tk_45 tsz_45 tze_45 tk_50 tsz_50 tby_50 tze_50 tk_57 tsz_57 tby_57 tze_57 tk_62 tsz_62 tze_62
attribute [go_sem] tk_82 tsz_82 tze_82 tk_83 tsz_83 tze_83 tk_85 tsz_85 tze_85 tk_91 tsz_91 tze_91 tk_93 tsz_93 tze_93 tk_95 tsz_95
attribute [go_sem] tk_97 tsz_97 tby_97 tze_97 tk_111 tk_114 tk_134 tk_135 tk_137
theorem mixed:Tryz.prog.follows .mixedOrders=true:=by kernel_rfl
end Go.Proofs.YtfgbnalnbdhimaaGreatDoor
