/- The types of the translation: kinds, sizes, bytes, zero values; made by a program of the author (gentypes.py), each fact checked by the kernel. -/
import Derived.Test.YtphjphpmfflfpaaGreatDoorGc
import Derived.Test.YtphjphpmfflfpaaGreatDoorRows
namespace Go.Proofs.YtphjphpmfflfpaaGreatDoor
open Go
theorem tk_3:tk Tryz.prog 3= .int .i64:=by kernel_rfl
theorem tsz_3:tsz Tryz.prog 3=some 1:=by kernel_rfl
theorem tby_3:tby Tryz.prog 3=some 8:=by kernel_rfl
theorem tzv_3:tzv Tryz.prog 3=some (.int .i64 0):=by kernel_rfl
theorem tze_3:tze Tryz.prog 3=some [.int .i64 0]:=by kernel_rfl
theorem tk_4:tk Tryz.prog 4= .bool:=by kernel_rfl
theorem tsz_4:tsz Tryz.prog 4=some 1:=by kernel_rfl
theorem tby_4:tby Tryz.prog 4=some 1:=by kernel_rfl
theorem tze_4:tze Tryz.prog 4=some [.bool false]:=by kernel_rfl
theorem tk_5:tk Tryz.prog 5= .int .u8:=by kernel_rfl
theorem tsz_5:tsz Tryz.prog 5=some 1:=by kernel_rfl
theorem tby_5:tby Tryz.prog 5=some 1:=by kernel_rfl
theorem tze_5:tze Tryz.prog 5=some [.int .u8 0]:=by kernel_rfl
theorem tk_9:tk Tryz.prog 9= .str:=by kernel_rfl
theorem tsz_9:tsz Tryz.prog 9=some 1:=by kernel_rfl
theorem tk_22:tk Tryz.prog 22= .slice 3:=by kernel_rfl
theorem tsz_22:tsz Tryz.prog 22=some 1:=by kernel_rfl
theorem tby_22:tby Tryz.prog 22=some 24:=by kernel_rfl
theorem tze_22:tze Tryz.prog 22=some [.nils]:=by kernel_rfl
theorem tk_24:tk Tryz.prog 24= .struct [(22,0),(22,1),(3,2)]:=by kernel_rfl
theorem tsz_24:tsz Tryz.prog 24=some 3:=by kernel_rfl
theorem tze_24:tze Tryz.prog 24=some [.nils, .nils, .int .i64 0]:=by kernel_rfl
theorem tk_27:tk Tryz.prog 27= .slice 75:=by kernel_rfl
theorem tsz_27:tsz Tryz.prog 27=some 1:=by kernel_rfl
theorem tk_29:tk Tryz.prog 29= .struct [(4,0),(27,1)]:=by kernel_rfl
theorem tsz_29:tsz Tryz.prog 29=some 2:=by kernel_rfl
theorem tze_29:tze Tryz.prog 29=some [.bool false, .nils]:=by kernel_rfl
theorem tk_32:tk Tryz.prog 32= .int .i64:=by kernel_rfl
theorem tk_75:tk Tryz.prog 75= .struct [(3,0),(3,1)]:=by kernel_rfl
theorem tsz_75:tsz Tryz.prog 75=some 2:=by kernel_rfl
theorem tby_75:tby Tryz.prog 75=some 16:=by kernel_rfl
theorem tze_75:tze Tryz.prog 75=some [.int .i64 0, .int .i64 0]:=by kernel_rfl
theorem tk_77:tk Tryz.prog 77= .slice 81:=by kernel_rfl
theorem tsz_77:tsz Tryz.prog 77=some 1:=by kernel_rfl
theorem tze_77:tze Tryz.prog 77=some [.nils]:=by kernel_rfl
theorem tk_79:tk Tryz.prog 79= .int .u64:=by kernel_rfl
theorem tsz_79:tsz Tryz.prog 79=some 1:=by kernel_rfl
theorem tk_81:tk Tryz.prog 81= .struct [(79,0),(79,1)]:=by kernel_rfl
theorem tsz_81:tsz Tryz.prog 81=some 2:=by kernel_rfl
theorem tby_81:tby Tryz.prog 81=some 16:=by kernel_rfl
theorem tze_81:tze Tryz.prog 81=some [.int .u64 0, .int .u64 0]:=by kernel_rfl
theorem tk_91:tk Tryz.prog 91= .slice 5:=by kernel_rfl
theorem tk_101:tk Tryz.prog 101= .slice 22:=by kernel_rfl
theorem tk_117:tk Tryz.prog 117= .slice 4:=by kernel_rfl
theorem tsz_117:tsz Tryz.prog 117=some 1:=by kernel_rfl
theorem tze_117:tze Tryz.prog 117=some [.nils]:=by kernel_rfl
theorem tk_118:tk Tryz.prog 118= .map 3 3:=by kernel_rfl
theorem tk_151:tk Tryz.prog 151= .struct [(3,0),(22,1)]:=by kernel_rfl
theorem tsz_151:tsz Tryz.prog 151=some 2:=by kernel_rfl
theorem tze_151:tze Tryz.prog 151=some [.int .i64 0, .nils]:=by kernel_rfl
theorem tk_152:tk Tryz.prog 152= .map 9 151:=by kernel_rfl
theorem tsz_152:tsz Tryz.prog 152=some 1:=by kernel_rfl
theorem tze_152:tze Tryz.prog 152=some [.any]:=by kernel_rfl
theorem tk_154:tk Tryz.prog 154= .struct [(3,0),(22,1),(22,2),(22,3)]:=by kernel_rfl
theorem tsz_154:tsz Tryz.prog 154=some 4:=by kernel_rfl
theorem tze_154:tze Tryz.prog 154=some [.int .i64 0, .nils, .nils, .nils]:=by kernel_rfl
theorem tk_160:tk Tryz.prog 160= .map 3 162:=by kernel_rfl
theorem tsz_160:tsz Tryz.prog 160=some 1:=by kernel_rfl
theorem tze_160:tze Tryz.prog 160=some [.any]:=by kernel_rfl
theorem tk_162:tk Tryz.prog 162= .arr 2 3:=by kernel_rfl
theorem tsz_162:tsz Tryz.prog 162=some 2:=by kernel_rfl
theorem tze_162:tze Tryz.prog 162=some [.int .i64 0, .int .i64 0]:=by kernel_rfl
theorem tk_166:tk Tryz.prog 166= .int .u64:=by kernel_rfl
theorem tk_183:tk Tryz.prog 183= .arr 4 3:=by kernel_rfl
theorem tsz_183:tsz Tryz.prog 183=some 4:=by kernel_rfl
theorem tze_183:tze Tryz.prog 183=some [.int .i64 0, .int .i64 0, .int .i64 0, .int .i64 0]:=by kernel_rfl
theorem tk_184:tk Tryz.prog 184= .arr 2 183:=by kernel_rfl
theorem tze_184:tze Tryz.prog 184=some [.int .i64 0, .int .i64 0, .int .i64 0, .int .i64 0, .int .i64 0, .int .i64 0, .int .i64 0, .int .i64 0]:=by kernel_rfl
attribute [go_sem] tk_3 tsz_3 tby_3 tzv_3 tze_3 tk_4 tsz_4 tby_4 tze_4 tk_5 tsz_5 tby_5 tze_5 tk_9 tsz_9
attribute [go_sem] tk_22 tsz_22 tby_22 tze_22 tk_24 tsz_24 tze_24 tk_27 tsz_27 tk_29 tsz_29 tze_29 tk_32
attribute [go_sem] tk_75 tsz_75 tby_75 tze_75 tk_77 tsz_77 tze_77 tk_79 tsz_79 tk_81 tsz_81 tby_81 tze_81 tk_91
attribute [go_sem] tk_101 tk_117 tsz_117 tze_117 tk_118
attribute [go_sem] tk_151 tsz_151 tze_151 tk_152 tsz_152 tze_152 tk_154 tsz_154 tze_154 tk_160 tsz_160 tze_160 tk_162 tsz_162 tze_162
attribute [go_sem] tk_166 tk_183 tsz_183 tze_183 tk_184 tze_184
theorem mixed:Tryz.prog.follows .mixedOrders=true:=by kernel_rfl
end Go.Proofs.YtphjphpmfflfpaaGreatDoor
