/- The types of the translation: kinds, sizes, bytes, zero values; made by a program of the author (gentypes.py), each fact checked by the kernel. -/
import Derived.Test.YtmdjdekgakidhaaGreatDoorGc
import Derived.Test.YtmdjdekgakidhaaGreatDoorRows
namespace Go.Proofs.YtmdjdekgakidhaaGreatDoor
open Go
theorem tk_3:tk Tryz.prog 3= .int .i64:=by kernel_rfl
theorem tsz_3:tsz Tryz.prog 3=some 1:=by kernel_rfl
theorem tby_3:tby Tryz.prog 3=some 8:=by kernel_rfl
theorem tzv_3:tzv Tryz.prog 3=some (.int .i64 0):=by kernel_rfl
theorem tze_3:tze Tryz.prog 3=some [.int .i64 0]:=by kernel_rfl
theorem tk_4:tk Tryz.prog 4= .bool:=by kernel_rfl
theorem tsz_4:tsz Tryz.prog 4=some 1:=by kernel_rfl
theorem tby_4:tby Tryz.prog 4=some 1:=by kernel_rfl
theorem tze_4:tze Tryz.prog 4=some [.bool false]:=by kernel_rfl
theorem tk_5:tk Tryz.prog 5= .int .u8:=by kernel_rfl
theorem tsz_5:tsz Tryz.prog 5=some 1:=by kernel_rfl
theorem tby_5:tby Tryz.prog 5=some 1:=by kernel_rfl
theorem tze_5:tze Tryz.prog 5=some [.int .u8 0]:=by kernel_rfl
theorem tk_9:tk Tryz.prog 9= .str:=by kernel_rfl
theorem tsz_9:tsz Tryz.prog 9=some 1:=by kernel_rfl
theorem tk_22:tk Tryz.prog 22= .slice 3:=by kernel_rfl
theorem tsz_22:tsz Tryz.prog 22=some 1:=by kernel_rfl
theorem tby_22:tby Tryz.prog 22=some 24:=by kernel_rfl
theorem tze_22:tze Tryz.prog 22=some [.nils]:=by kernel_rfl
theorem tk_24:tk Tryz.prog 24= .struct [(22,0),(22,1),(3,2)]:=by kernel_rfl
theorem tsz_24:tsz Tryz.prog 24=some 3:=by kernel_rfl
theorem tze_24:tze Tryz.prog 24=some [.nils, .nils, .int .i64 0]:=by kernel_rfl
theorem tk_27:tk Tryz.prog 27= .slice 62:=by kernel_rfl
theorem tsz_27:tsz Tryz.prog 27=some 1:=by kernel_rfl
theorem tk_29:tk Tryz.prog 29= .struct [(4,0),(27,1)]:=by kernel_rfl
theorem tsz_29:tsz Tryz.prog 29=some 2:=by kernel_rfl
theorem tze_29:tze Tryz.prog 29=some [.bool false, .nils]:=by kernel_rfl
theorem tk_32:tk Tryz.prog 32= .int .i64:=by kernel_rfl
theorem tk_47:tk Tryz.prog 47= .slice 98:=by kernel_rfl
theorem tsz_47:tsz Tryz.prog 47=some 1:=by kernel_rfl
theorem tk_49:tk Tryz.prog 49= .struct [(47,0),(4,1)]:=by kernel_rfl
theorem tsz_49:tsz Tryz.prog 49=some 2:=by kernel_rfl
theorem tze_49:tze Tryz.prog 49=some [.nils, .bool false]:=by kernel_rfl
theorem tk_62:tk Tryz.prog 62= .struct [(3,0),(3,1)]:=by kernel_rfl
theorem tsz_62:tsz Tryz.prog 62=some 2:=by kernel_rfl
theorem tby_62:tby Tryz.prog 62=some 16:=by kernel_rfl
theorem tze_62:tze Tryz.prog 62=some [.int .i64 0, .int .i64 0]:=by kernel_rfl
theorem tk_65:tk Tryz.prog 65= .slice 69:=by kernel_rfl
theorem tsz_65:tsz Tryz.prog 65=some 1:=by kernel_rfl
theorem tze_65:tze Tryz.prog 65=some [.nils]:=by kernel_rfl
theorem tk_67:tk Tryz.prog 67= .int .u64:=by kernel_rfl
theorem tsz_67:tsz Tryz.prog 67=some 1:=by kernel_rfl
theorem tk_69:tk Tryz.prog 69= .struct [(67,0),(67,1)]:=by kernel_rfl
theorem tsz_69:tsz Tryz.prog 69=some 2:=by kernel_rfl
theorem tby_69:tby Tryz.prog 69=some 16:=by kernel_rfl
theorem tze_69:tze Tryz.prog 69=some [.int .u64 0, .int .u64 0]:=by kernel_rfl
theorem tk_83:tk Tryz.prog 83= .slice 5:=by kernel_rfl
theorem tk_93:tk Tryz.prog 93= .slice 22:=by kernel_rfl
theorem tk_98:tk Tryz.prog 98= .struct [(3,0),(3,1)]:=by kernel_rfl
theorem tsz_98:tsz Tryz.prog 98=some 2:=by kernel_rfl
theorem tby_98:tby Tryz.prog 98=some 16:=by kernel_rfl
theorem tze_98:tze Tryz.prog 98=some [.int .i64 0, .int .i64 0]:=by kernel_rfl
theorem tk_103:tk Tryz.prog 103= .slice 4:=by kernel_rfl
theorem tk_125:tk Tryz.prog 125= .slice 129:=by kernel_rfl
theorem tk_129:tk Tryz.prog 129= .struct [(3,0),(3,1)]:=by kernel_rfl
theorem tsz_129:tsz Tryz.prog 129=some 2:=by kernel_rfl
theorem tby_129:tby Tryz.prog 129=some 16:=by kernel_rfl
theorem tze_129:tze Tryz.prog 129=some [.int .i64 0, .int .i64 0]:=by kernel_rfl
theorem tk_137:tk Tryz.prog 137= .struct [(3,0),(22,1)]:=by kernel_rfl
theorem tsz_137:tsz Tryz.prog 137=some 2:=by kernel_rfl
theorem tze_137:tze Tryz.prog 137=some [.int .i64 0, .nils]:=by kernel_rfl
theorem tk_138:tk Tryz.prog 138= .map 9 137:=by kernel_rfl
theorem tsz_138:tsz Tryz.prog 138=some 1:=by kernel_rfl
theorem tze_138:tze Tryz.prog 138=some [.any]:=by kernel_rfl
theorem tk_140:tk Tryz.prog 140= .struct [(3,0),(22,1),(22,2),(22,3)]:=by kernel_rfl
theorem tsz_140:tsz Tryz.prog 140=some 4:=by kernel_rfl
theorem tze_140:tze Tryz.prog 140=some [.int .i64 0, .nils, .nils, .nils]:=by kernel_rfl
theorem tk_152:tk Tryz.prog 152= .int .u64:=by kernel_rfl
theorem tk_153:tk Tryz.prog 153= .map 3 155:=by kernel_rfl
theorem tsz_153:tsz Tryz.prog 153=some 1:=by kernel_rfl
theorem tze_153:tze Tryz.prog 153=some [.any]:=by kernel_rfl
theorem tk_155:tk Tryz.prog 155= .arr 2 3:=by kernel_rfl
theorem tsz_155:tsz Tryz.prog 155=some 2:=by kernel_rfl
theorem tze_155:tze Tryz.prog 155=some [.int .i64 0, .int .i64 0]:=by kernel_rfl
theorem tk_168:tk Tryz.prog 168= .map 3 3:=by kernel_rfl
theorem tk_169:tk Tryz.prog 169= .arr 4 3:=by kernel_rfl
theorem tsz_169:tsz Tryz.prog 169=some 4:=by kernel_rfl
theorem tze_169:tze Tryz.prog 169=some [.int .i64 0, .int .i64 0, .int .i64 0, .int .i64 0]:=by kernel_rfl
theorem tk_170:tk Tryz.prog 170= .arr 2 169:=by kernel_rfl
theorem tze_170:tze Tryz.prog 170=some [.int .i64 0, .int .i64 0, .int .i64 0, .int .i64 0, .int .i64 0, .int .i64 0, .int .i64 0, .int .i64 0]:=by kernel_rfl
attribute [go_sem] tk_3 tsz_3 tby_3 tzv_3 tze_3 tk_4 tsz_4 tby_4 tze_4 tk_5 tsz_5 tby_5 tze_5 tk_9 tsz_9
attribute [go_sem] tk_22 tsz_22 tby_22 tze_22 tk_24 tsz_24 tze_24 tk_27 tsz_27 tk_29 tsz_29 tze_29 tk_32 tk_47 tsz_47
attribute [go_sem] tk_49 tsz_49 tze_49 tk_62 tsz_62 tby_62 tze_62 tk_65 tsz_65 tze_65 tk_67 tsz_67 tk_69 tsz_69 tby_69 tze_69 tk_83
attribute [go_sem] tk_93 tk_98 tsz_98 tby_98 tze_98 tk_103 tk_125
attribute [go_sem] tk_129 tsz_129 tby_129 tze_129 tk_137 tsz_137 tze_137 tk_138 tsz_138 tze_138 tk_140 tsz_140 tze_140 tk_152 tk_153 tsz_153 tze_153 tk_155 tsz_155 tze_155
attribute [go_sem] tk_168 tk_169 tsz_169 tze_169 tk_170 tze_170
theorem mixed:Tryz.prog.follows .mixedOrders=true:=by kernel_rfl
end Go.Proofs.YtmdjdekgakidhaaGreatDoor
