/- The types of the translation: kinds, sizes, bytes, zero values; made by a program of the author (gentypes.py), each fact checked by the kernel. -/
import Derived.Test.YtcnilhcplgiidaaDoorGc
import Derived.Test.YtcnilhcplgiidaaDoorRows
namespace Go.Proofs.YtcnilhcplgiidaaDoor
open Go
theorem tk_2:tk Tryd.prog 2= .int .i64:=by kernel_rfl
theorem tsz_2:tsz Tryd.prog 2=some 1:=by kernel_rfl
theorem tby_2:tby Tryd.prog 2=some 8:=by kernel_rfl
theorem tzv_2:tzv Tryd.prog 2=some (.int .i64 0):=by kernel_rfl
theorem tze_2:tze Tryd.prog 2=some [.int .i64 0]:=by kernel_rfl
theorem tk_3:tk Tryd.prog 3= .int .i64:=by kernel_rfl
theorem tsz_3:tsz Tryd.prog 3=some 1:=by kernel_rfl
theorem tby_3:tby Tryd.prog 3=some 8:=by kernel_rfl
theorem tzv_3:tzv Tryd.prog 3=some (.int .i64 0):=by kernel_rfl
theorem tze_3:tze Tryd.prog 3=some [.int .i64 0]:=by kernel_rfl
theorem tk_4:tk Tryd.prog 4= .bool:=by kernel_rfl
theorem tsz_4:tsz Tryd.prog 4=some 1:=by kernel_rfl
theorem tby_4:tby Tryd.prog 4=some 1:=by kernel_rfl
theorem tzv_4:tzv Tryd.prog 4=some (.bool false):=by kernel_rfl
theorem tze_4:tze Tryd.prog 4=some [.bool false]:=by kernel_rfl
theorem tk_5:tk Tryd.prog 5= .int .u8:=by kernel_rfl
theorem tsz_5:tsz Tryd.prog 5=some 1:=by kernel_rfl
theorem tby_5:tby Tryd.prog 5=some 1:=by kernel_rfl
theorem tzv_5:tzv Tryd.prog 5=some (.int .u8 0):=by kernel_rfl
theorem tze_5:tze Tryd.prog 5=some [.int .u8 0]:=by kernel_rfl
theorem tk_6:tk Tryd.prog 6= .int .u8:=by kernel_rfl
theorem tsz_6:tsz Tryd.prog 6=some 1:=by kernel_rfl
theorem tby_6:tby Tryd.prog 6=some 1:=by kernel_rfl
theorem tzv_6:tzv Tryd.prog 6=some (.int .u8 0):=by kernel_rfl
theorem tze_6:tze Tryd.prog 6=some [.int .u8 0]:=by kernel_rfl
theorem tk_7:tk Tryd.prog 7= .struct [(2,0),(3,1),(4,2),(6,3)]:=by kernel_rfl
theorem tsz_7:tsz Tryd.prog 7=some 4:=by kernel_rfl
theorem tby_7:tby Tryd.prog 7=some 24:=by kernel_rfl
theorem tze_7:tze Tryd.prog 7=some [.int .i64 0, .int .i64 0, .bool false, .int .u8 0]:=by kernel_rfl
theorem tk_8:tk Tryd.prog 8= .struct [(2,0),(3,1),(4,2),(6,3)]:=by kernel_rfl
theorem tsz_8:tsz Tryd.prog 8=some 4:=by kernel_rfl
theorem tby_8:tby Tryd.prog 8=some 24:=by kernel_rfl
theorem tze_8:tze Tryd.prog 8=some [.int .i64 0, .int .i64 0, .bool false, .int .u8 0]:=by kernel_rfl
theorem tk_9:tk Tryd.prog 9= .str:=by kernel_rfl
theorem tsz_9:tsz Tryd.prog 9=some 1:=by kernel_rfl
theorem tby_9:tby Tryd.prog 9=some 16:=by kernel_rfl
theorem tzv_9:tzv Tryd.prog 9=some (.str ByteArray.empty):=by kernel_rfl
theorem tze_9:tze Tryd.prog 9=some [.str ByteArray.empty]:=by kernel_rfl
theorem tk_10:tk Tryd.prog 10= .str:=by kernel_rfl
theorem tsz_10:tsz Tryd.prog 10=some 1:=by kernel_rfl
theorem tby_10:tby Tryd.prog 10=some 16:=by kernel_rfl
theorem tzv_10:tzv Tryd.prog 10=some (.str ByteArray.empty):=by kernel_rfl
theorem tze_10:tze Tryd.prog 10=some [.str ByteArray.empty]:=by kernel_rfl
theorem tk_11:tk Tryd.prog 11= .str:=by kernel_rfl
theorem tsz_11:tsz Tryd.prog 11=some 1:=by kernel_rfl
theorem tby_11:tby Tryd.prog 11=some 16:=by kernel_rfl
theorem tzv_11:tzv Tryd.prog 11=some (.str ByteArray.empty):=by kernel_rfl
theorem tze_11:tze Tryd.prog 11=some [.str ByteArray.empty]:=by kernel_rfl
theorem tk_12:tk Tryd.prog 12= .int .u64:=by kernel_rfl
theorem tsz_12:tsz Tryd.prog 12=some 1:=by kernel_rfl
theorem tby_12:tby Tryd.prog 12=some 8:=by kernel_rfl
theorem tzv_12:tzv Tryd.prog 12=some (.int .u64 0):=by kernel_rfl
theorem tze_12:tze Tryd.prog 12=some [.int .u64 0]:=by kernel_rfl
theorem tk_13:tk Tryd.prog 13= .struct [(9,0),(12,1)]:=by kernel_rfl
theorem tsz_13:tsz Tryd.prog 13=some 2:=by kernel_rfl
theorem tby_13:tby Tryd.prog 13=some 24:=by kernel_rfl
theorem tze_13:tze Tryd.prog 13=some [.str ByteArray.empty, .int .u64 0]:=by kernel_rfl
theorem tk_14:tk Tryd.prog 14= .struct [(9,0),(12,1)]:=by kernel_rfl
theorem tsz_14:tsz Tryd.prog 14=some 2:=by kernel_rfl
theorem tby_14:tby Tryd.prog 14=some 24:=by kernel_rfl
theorem tze_14:tze Tryd.prog 14=some [.str ByteArray.empty, .int .u64 0]:=by kernel_rfl
theorem tk_15:tk Tryd.prog 15= .other:=by kernel_rfl
theorem tsz_15:tsz Tryd.prog 15=some 1:=by kernel_rfl
theorem tby_15:tby Tryd.prog 15=some 8:=by kernel_rfl
theorem tze_15:tze Tryd.prog 15=some [.any]:=by kernel_rfl
theorem tk_16:tk Tryd.prog 16= .other:=by kernel_rfl
theorem tsz_16:tsz Tryd.prog 16=some 1:=by kernel_rfl
theorem tby_16:tby Tryd.prog 16=some 8:=by kernel_rfl
theorem tze_16:tze Tryd.prog 16=some [.any]:=by kernel_rfl
theorem tk_17:tk Tryd.prog 17= .other:=by kernel_rfl
theorem tsz_17:tsz Tryd.prog 17=some 1:=by kernel_rfl
theorem tby_17:tby Tryd.prog 17=some 8:=by kernel_rfl
theorem tze_17:tze Tryd.prog 17=some [.any]:=by kernel_rfl
theorem tk_18:tk Tryd.prog 18= .struct [(17,0)]:=by kernel_rfl
theorem tsz_18:tsz Tryd.prog 18=some 1:=by kernel_rfl
theorem tby_18:tby Tryd.prog 18=some 8:=by kernel_rfl
theorem tze_18:tze Tryd.prog 18=some [.any]:=by kernel_rfl
theorem tk_19:tk Tryd.prog 19= .struct [(17,0)]:=by kernel_rfl
theorem tsz_19:tsz Tryd.prog 19=some 1:=by kernel_rfl
theorem tby_19:tby Tryd.prog 19=some 8:=by kernel_rfl
theorem tze_19:tze Tryd.prog 19=some [.any]:=by kernel_rfl
theorem tk_21:tk Tryd.prog 21= .int .i32:=by kernel_rfl
theorem tsz_21:tsz Tryd.prog 21=some 1:=by kernel_rfl
theorem tby_21:tby Tryd.prog 21=some 4:=by kernel_rfl
theorem tzv_21:tzv Tryd.prog 21=some (.int .i32 0):=by kernel_rfl
theorem tze_21:tze Tryd.prog 21=some [.int .i32 0]:=by kernel_rfl
theorem tk_22:tk Tryd.prog 22= .slice 3:=by kernel_rfl
theorem tsz_22:tsz Tryd.prog 22=some 1:=by kernel_rfl
theorem tby_22:tby Tryd.prog 22=some 24:=by kernel_rfl
theorem tze_22:tze Tryd.prog 22=some [.nils]:=by kernel_rfl
theorem tk_23:tk Tryd.prog 23= .struct [(22,0),(22,1),(3,2)]:=by kernel_rfl
theorem tsz_23:tsz Tryd.prog 23=some 3:=by kernel_rfl
theorem tby_23:tby Tryd.prog 23=some 56:=by kernel_rfl
theorem tze_23:tze Tryd.prog 23=some [.nils, .nils, .int .i64 0]:=by kernel_rfl
theorem tk_24:tk Tryd.prog 24= .struct [(22,0),(22,1),(3,2)]:=by kernel_rfl
theorem tsz_24:tsz Tryd.prog 24=some 3:=by kernel_rfl
theorem tby_24:tby Tryd.prog 24=some 56:=by kernel_rfl
theorem tze_24:tze Tryd.prog 24=some [.nils, .nils, .int .i64 0]:=by kernel_rfl
theorem tk_27:tk Tryd.prog 27= .slice 56:=by kernel_rfl
theorem tsz_27:tsz Tryd.prog 27=some 1:=by kernel_rfl
theorem tby_27:tby Tryd.prog 27=some 24:=by kernel_rfl
theorem tze_27:tze Tryd.prog 27=some [.nils]:=by kernel_rfl
theorem tk_28:tk Tryd.prog 28= .struct [(4,0),(27,1)]:=by kernel_rfl
theorem tsz_28:tsz Tryd.prog 28=some 2:=by kernel_rfl
theorem tby_28:tby Tryd.prog 28=some 32:=by kernel_rfl
theorem tze_28:tze Tryd.prog 28=some [.bool false, .nils]:=by kernel_rfl
theorem tk_29:tk Tryd.prog 29= .struct [(4,0),(27,1)]:=by kernel_rfl
theorem tsz_29:tsz Tryd.prog 29=some 2:=by kernel_rfl
theorem tby_29:tby Tryd.prog 29=some 32:=by kernel_rfl
theorem tze_29:tze Tryd.prog 29=some [.bool false, .nils]:=by kernel_rfl
theorem tk_30:tk Tryd.prog 30= .int .i64:=by kernel_rfl
theorem tsz_30:tsz Tryd.prog 30=some 1:=by kernel_rfl
theorem tby_30:tby Tryd.prog 30=some 8:=by kernel_rfl
theorem tzv_30:tzv Tryd.prog 30=some (.int .i64 0):=by kernel_rfl
theorem tze_30:tze Tryd.prog 30=some [.int .i64 0]:=by kernel_rfl
theorem tk_45:tk Tryd.prog 45= .slice 22:=by kernel_rfl
theorem tsz_45:tsz Tryd.prog 45=some 1:=by kernel_rfl
theorem tby_45:tby Tryd.prog 45=some 24:=by kernel_rfl
theorem tze_45:tze Tryd.prog 45=some [.nils]:=by kernel_rfl
theorem tk_55:tk Tryd.prog 55= .struct [(3,0),(3,1)]:=by kernel_rfl
theorem tsz_55:tsz Tryd.prog 55=some 2:=by kernel_rfl
theorem tby_55:tby Tryd.prog 55=some 16:=by kernel_rfl
theorem tze_55:tze Tryd.prog 55=some [.int .i64 0, .int .i64 0]:=by kernel_rfl
theorem tk_56:tk Tryd.prog 56= .struct [(3,0),(3,1)]:=by kernel_rfl
theorem tsz_56:tsz Tryd.prog 56=some 2:=by kernel_rfl
theorem tby_56:tby Tryd.prog 56=some 16:=by kernel_rfl
theorem tze_56:tze Tryd.prog 56=some [.int .i64 0, .int .i64 0]:=by kernel_rfl
theorem tk_67:tk Tryd.prog 67= .slice 4:=by kernel_rfl
theorem tsz_67:tsz Tryd.prog 67=some 1:=by kernel_rfl
theorem tby_67:tby Tryd.prog 67=some 24:=by kernel_rfl
theorem tze_67:tze Tryd.prog 67=some [.nils]:=by kernel_rfl
theorem tk_74:tk Tryd.prog 74= .other:=by kernel_rfl
theorem tsz_74:tsz Tryd.prog 74=some 1:=by kernel_rfl
theorem tby_74:tby Tryd.prog 74=some 8:=by kernel_rfl
theorem tze_74:tze Tryd.prog 74=some [.any]:=by kernel_rfl
theorem tk_75:tk Tryd.prog 75= .slice 5:=by kernel_rfl
theorem tsz_75:tsz Tryd.prog 75=some 1:=by kernel_rfl
theorem tby_75:tby Tryd.prog 75=some 24:=by kernel_rfl
theorem tze_75:tze Tryd.prog 75=some [.nils]:=by kernel_rfl
theorem tk_76:tk Tryd.prog 76= .struct [(74,0),(75,1)]:=by kernel_rfl
theorem tsz_76:tsz Tryd.prog 76=some 2:=by kernel_rfl
theorem tby_76:tby Tryd.prog 76=some 32:=by kernel_rfl
theorem tze_76:tze Tryd.prog 76=some [.any, .nils]:=by kernel_rfl
theorem tk_77:tk Tryd.prog 77= .struct [(74,0),(75,1)]:=by kernel_rfl
theorem tsz_77:tsz Tryd.prog 77=some 2:=by kernel_rfl
theorem tby_77:tby Tryd.prog 77=some 32:=by kernel_rfl
theorem tze_77:tze Tryd.prog 77=some [.any, .nils]:=by kernel_rfl
theorem tk_90:tk Tryd.prog 90= .int .u64:=by kernel_rfl
theorem tsz_90:tsz Tryd.prog 90=some 1:=by kernel_rfl
theorem tby_90:tby Tryd.prog 90=some 8:=by kernel_rfl
theorem tzv_90:tzv Tryd.prog 90=some (.int .u64 0):=by kernel_rfl
theorem tze_90:tze Tryd.prog 90=some [.int .u64 0]:=by kernel_rfl
theorem tk_91:tk Tryd.prog 91= .map 3 93:=by kernel_rfl
theorem tsz_91:tsz Tryd.prog 91=some 1:=by kernel_rfl
theorem tby_91:tby Tryd.prog 91=some 8:=by kernel_rfl
theorem tze_91:tze Tryd.prog 91=some [.any]:=by kernel_rfl
theorem tk_93:tk Tryd.prog 93= .arr 2 3:=by kernel_rfl
theorem tsz_93:tsz Tryd.prog 93=some 2:=by kernel_rfl
theorem tby_93:tby Tryd.prog 93=some 16:=by kernel_rfl
theorem tze_93:tze Tryd.prog 93=some [.int .i64 0, .int .i64 0]:=by kernel_rfl
theorem tk_96:tk Tryd.prog 96= .struct [(3,0),(22,1)]:=by kernel_rfl
theorem tsz_96:tsz Tryd.prog 96=some 2:=by kernel_rfl
theorem tby_96:tby Tryd.prog 96=some 32:=by kernel_rfl
theorem tze_96:tze Tryd.prog 96=some [.int .i64 0, .nils]:=by kernel_rfl
theorem tk_97:tk Tryd.prog 97= .struct [(3,0),(22,1)]:=by kernel_rfl
theorem tsz_97:tsz Tryd.prog 97=some 2:=by kernel_rfl
theorem tby_97:tby Tryd.prog 97=some 32:=by kernel_rfl
theorem tze_97:tze Tryd.prog 97=some [.int .i64 0, .nils]:=by kernel_rfl
theorem tk_98:tk Tryd.prog 98= .map 9 97:=by kernel_rfl
theorem tsz_98:tsz Tryd.prog 98=some 1:=by kernel_rfl
theorem tby_98:tby Tryd.prog 98=some 8:=by kernel_rfl
theorem tze_98:tze Tryd.prog 98=some [.any]:=by kernel_rfl
theorem tk_99:tk Tryd.prog 99= .struct [(3,0),(22,1),(22,2),(22,3)]:=by kernel_rfl
theorem tsz_99:tsz Tryd.prog 99=some 4:=by kernel_rfl
theorem tby_99:tby Tryd.prog 99=some 80:=by kernel_rfl
theorem tze_99:tze Tryd.prog 99=some [.int .i64 0, .nils, .nils, .nils]:=by kernel_rfl
theorem tk_100:tk Tryd.prog 100= .struct [(3,0),(22,1),(22,2),(22,3)]:=by kernel_rfl
theorem tsz_100:tsz Tryd.prog 100=some 4:=by kernel_rfl
theorem tby_100:tby Tryd.prog 100=some 80:=by kernel_rfl
theorem tze_100:tze Tryd.prog 100=some [.int .i64 0, .nils, .nils, .nils]:=by kernel_rfl
theorem tk_107:tk Tryd.prog 107= .slice 111:=by kernel_rfl
theorem tsz_107:tsz Tryd.prog 107=some 1:=by kernel_rfl
theorem tby_107:tby Tryd.prog 107=some 24:=by kernel_rfl
theorem tze_107:tze Tryd.prog 107=some [.nils]:=by kernel_rfl
theorem tk_109:tk Tryd.prog 109= .int .u64:=by kernel_rfl
theorem tsz_109:tsz Tryd.prog 109=some 1:=by kernel_rfl
theorem tby_109:tby Tryd.prog 109=some 8:=by kernel_rfl
theorem tzv_109:tzv Tryd.prog 109=some (.int .u64 0):=by kernel_rfl
theorem tze_109:tze Tryd.prog 109=some [.int .u64 0]:=by kernel_rfl
theorem tk_110:tk Tryd.prog 110= .struct [(109,0),(109,1)]:=by kernel_rfl
theorem tsz_110:tsz Tryd.prog 110=some 2:=by kernel_rfl
theorem tby_110:tby Tryd.prog 110=some 16:=by kernel_rfl
theorem tze_110:tze Tryd.prog 110=some [.int .u64 0, .int .u64 0]:=by kernel_rfl
theorem tk_111:tk Tryd.prog 111= .struct [(109,0),(109,1)]:=by kernel_rfl
theorem tsz_111:tsz Tryd.prog 111=some 2:=by kernel_rfl
theorem tby_111:tby Tryd.prog 111=some 16:=by kernel_rfl
theorem tze_111:tze Tryd.prog 111=some [.int .u64 0, .int .u64 0]:=by kernel_rfl
theorem tk_115:tk Tryd.prog 115= .map 3 22:=by kernel_rfl
theorem tsz_115:tsz Tryd.prog 115=some 1:=by kernel_rfl
theorem tby_115:tby Tryd.prog 115=some 8:=by kernel_rfl
theorem tze_115:tze Tryd.prog 115=some [.any]:=by kernel_rfl
theorem tk_120:tk Tryd.prog 120= .other:=by kernel_rfl
theorem tsz_120:tsz Tryd.prog 120=some 1:=by kernel_rfl
theorem tby_120:tby Tryd.prog 120=some 8:=by kernel_rfl
theorem tze_120:tze Tryd.prog 120=some [.any]:=by kernel_rfl
theorem tk_126:tk Tryd.prog 126= .map 3 3:=by kernel_rfl
theorem tsz_126:tsz Tryd.prog 126=some 1:=by kernel_rfl
theorem tby_126:tby Tryd.prog 126=some 8:=by kernel_rfl
theorem tze_126:tze Tryd.prog 126=some [.any]:=by kernel_rfl
theorem tk_127:tk Tryd.prog 127= .arr 4 3:=by kernel_rfl
theorem tsz_127:tsz Tryd.prog 127=some 4:=by kernel_rfl
theorem tby_127:tby Tryd.prog 127=some 32:=by kernel_rfl
theorem tze_127:tze Tryd.prog 127=some [.int .i64 0, .int .i64 0, .int .i64 0, .int .i64 0]:=by kernel_rfl
theorem tk_128:tk Tryd.prog 128= .arr 2 127:=by kernel_rfl
theorem tsz_128:tsz Tryd.prog 128=some 8:=by kernel_rfl
theorem tby_128:tby Tryd.prog 128=some 64:=by kernel_rfl
theorem tze_128:tze Tryd.prog 128=some [.int .i64 0, .int .i64 0, .int .i64 0, .int .i64 0, .int .i64 0, .int .i64 0, .int .i64 0, .int .i64 0]:=by kernel_rfl
theorem tk_132:tk Tryd.prog 132= .map 3 111:=by kernel_rfl
theorem tsz_132:tsz Tryd.prog 132=some 1:=by kernel_rfl
theorem tby_132:tby Tryd.prog 132=some 8:=by kernel_rfl
theorem tze_132:tze Tryd.prog 132=some [.any]:=by kernel_rfl
theorem tk_144:tk Tryd.prog 144= .other:=by kernel_rfl
theorem tsz_144:tsz Tryd.prog 144=some 1:=by kernel_rfl
theorem tby_144:tby Tryd.prog 144=some 8:=by kernel_rfl
theorem tze_144:tze Tryd.prog 144=some [.any]:=by kernel_rfl
theorem tk_147:tk Tryd.prog 147= .map 3 4:=by kernel_rfl
theorem tsz_147:tsz Tryd.prog 147=some 1:=by kernel_rfl
theorem tby_147:tby Tryd.prog 147=some 8:=by kernel_rfl
theorem tze_147:tze Tryd.prog 147=some [.any]:=by kernel_rfl
theorem tk_156:tk Tryd.prog 156= .int .i64:=by kernel_rfl
theorem tsz_156:tsz Tryd.prog 156=some 1:=by kernel_rfl
theorem tby_156:tby Tryd.prog 156=some 8:=by kernel_rfl
theorem tzv_156:tzv Tryd.prog 156=some (.int .i64 0):=by kernel_rfl
theorem tze_156:tze Tryd.prog 156=some [.int .i64 0]:=by kernel_rfl
theorem tk_163:tk Tryd.prog 163= .int .u32:=by kernel_rfl
theorem tsz_163:tsz Tryd.prog 163=some 1:=by kernel_rfl
theorem tby_163:tby Tryd.prog 163=some 4:=by kernel_rfl
theorem tzv_163:tzv Tryd.prog 163=some (.int .u32 0):=by kernel_rfl
theorem tze_163:tze Tryd.prog 163=some [.int .u32 0]:=by kernel_rfl
theorem tk_165:tk Tryd.prog 165= .arr 24 5:=by kernel_rfl
theorem tsz_165:tsz Tryd.prog 165=some 24:=by kernel_rfl
theorem tby_165:tby Tryd.prog 165=some 24:=by kernel_rfl
theorem tze_165:tze Tryd.prog 165=some [.int .u8 0, .int .u8 0, .int .u8 0, .int .u8 0, .int .u8 0, .int .u8 0, .int .u8 0, .int .u8 0, .int .u8 0, .int .u8 0, .int .u8 0, .int .u8 0, .int .u8 0, .int .u8 0, .int .u8 0, .int .u8 0, .int .u8 0, .int .u8 0, .int .u8 0, .int .u8 0, .int .u8 0, .int .u8 0, .int .u8 0, .int .u8 0]:=by kernel_rfl
theorem tk_171:tk Tryd.prog 171= .int .u64:=by kernel_rfl
theorem tsz_171:tsz Tryd.prog 171=some 1:=by kernel_rfl
theorem tby_171:tby Tryd.prog 171=some 8:=by kernel_rfl
theorem tzv_171:tzv Tryd.prog 171=some (.int .u64 0):=by kernel_rfl
theorem tze_171:tze Tryd.prog 171=some [.int .u64 0]:=by kernel_rfl
theorem tk_175:tk Tryd.prog 175= .other:=by kernel_rfl
theorem tsz_175:tsz Tryd.prog 175=some 1:=by kernel_rfl
theorem tby_175:tby Tryd.prog 175=some 8:=by kernel_rfl
theorem tze_175:tze Tryd.prog 175=some [.any]:=by kernel_rfl
theorem tk_178:tk Tryd.prog 178= .arr 20 109:=by kernel_rfl
theorem tsz_178:tsz Tryd.prog 178=some 20:=by kernel_rfl
theorem tby_178:tby Tryd.prog 178=some 160:=by kernel_rfl
theorem tze_178:tze Tryd.prog 178=some [.int .u64 0, .int .u64 0, .int .u64 0, .int .u64 0, .int .u64 0, .int .u64 0, .int .u64 0, .int .u64 0, .int .u64 0, .int .u64 0, .int .u64 0, .int .u64 0, .int .u64 0, .int .u64 0, .int .u64 0, .int .u64 0, .int .u64 0, .int .u64 0, .int .u64 0, .int .u64 0]:=by kernel_rfl
theorem tk_179:tk Tryd.prog 179= .arr 65 5:=by kernel_rfl
theorem tsz_179:tsz Tryd.prog 179=some 65:=by kernel_rfl
theorem tby_179:tby Tryd.prog 179=some 65:=by kernel_rfl
theorem tze_179:tze Tryd.prog 179=some [.int .u8 0, .int .u8 0, .int .u8 0, .int .u8 0, .int .u8 0, .int .u8 0, .int .u8 0, .int .u8 0, .int .u8 0, .int .u8 0, .int .u8 0, .int .u8 0, .int .u8 0, .int .u8 0, .int .u8 0, .int .u8 0, .int .u8 0, .int .u8 0, .int .u8 0, .int .u8 0, .int .u8 0, .int .u8 0, .int .u8 0, .int .u8 0, .int .u8 0, .int .u8 0, .int .u8 0, .int .u8 0, .int .u8 0, .int .u8 0, .int .u8 0, .int .u8 0, .int .u8 0, .int .u8 0, .int .u8 0, .int .u8 0, .int .u8 0, .int .u8 0, .int .u8 0, .int .u8 0, .int .u8 0, .int .u8 0, .int .u8 0, .int .u8 0, .int .u8 0, .int .u8 0, .int .u8 0, .int .u8 0, .int .u8 0, .int .u8 0, .int .u8 0, .int .u8 0, .int .u8 0, .int .u8 0, .int .u8 0, .int .u8 0, .int .u8 0, .int .u8 0, .int .u8 0, .int .u8 0, .int .u8 0, .int .u8 0, .int .u8 0, .int .u8 0, .int .u8 0]:=by kernel_rfl
theorem tk_180:tk Tryd.prog 180= .other:=by kernel_rfl
theorem tsz_180:tsz Tryd.prog 180=some 1:=by kernel_rfl
theorem tby_180:tby Tryd.prog 180=some 8:=by kernel_rfl
theorem tze_180:tze Tryd.prog 180=some [.any]:=by kernel_rfl
theorem tk_183:tk Tryd.prog 183= .arr 32 5:=by kernel_rfl
theorem tsz_183:tsz Tryd.prog 183=some 32:=by kernel_rfl
theorem tby_183:tby Tryd.prog 183=some 32:=by kernel_rfl
theorem tze_183:tze Tryd.prog 183=some [.int .u8 0, .int .u8 0, .int .u8 0, .int .u8 0, .int .u8 0, .int .u8 0, .int .u8 0, .int .u8 0, .int .u8 0, .int .u8 0, .int .u8 0, .int .u8 0, .int .u8 0, .int .u8 0, .int .u8 0, .int .u8 0, .int .u8 0, .int .u8 0, .int .u8 0, .int .u8 0, .int .u8 0, .int .u8 0, .int .u8 0, .int .u8 0, .int .u8 0, .int .u8 0, .int .u8 0, .int .u8 0, .int .u8 0, .int .u8 0, .int .u8 0, .int .u8 0]:=by kernel_rfl
theorem tk_184:tk Tryd.prog 184= .arr 64 5:=by kernel_rfl
theorem tsz_184:tsz Tryd.prog 184=some 64:=by kernel_rfl
theorem tby_184:tby Tryd.prog 184=some 64:=by kernel_rfl
theorem tze_184:tze Tryd.prog 184=some [.int .u8 0, .int .u8 0, .int .u8 0, .int .u8 0, .int .u8 0, .int .u8 0, .int .u8 0, .int .u8 0, .int .u8 0, .int .u8 0, .int .u8 0, .int .u8 0, .int .u8 0, .int .u8 0, .int .u8 0, .int .u8 0, .int .u8 0, .int .u8 0, .int .u8 0, .int .u8 0, .int .u8 0, .int .u8 0, .int .u8 0, .int .u8 0, .int .u8 0, .int .u8 0, .int .u8 0, .int .u8 0, .int .u8 0, .int .u8 0, .int .u8 0, .int .u8 0, .int .u8 0, .int .u8 0, .int .u8 0, .int .u8 0, .int .u8 0, .int .u8 0, .int .u8 0, .int .u8 0, .int .u8 0, .int .u8 0, .int .u8 0, .int .u8 0, .int .u8 0, .int .u8 0, .int .u8 0, .int .u8 0, .int .u8 0, .int .u8 0, .int .u8 0, .int .u8 0, .int .u8 0, .int .u8 0, .int .u8 0, .int .u8 0, .int .u8 0, .int .u8 0, .int .u8 0, .int .u8 0, .int .u8 0, .int .u8 0, .int .u8 0, .int .u8 0]:=by kernel_rfl
theorem tk_185:tk Tryd.prog 185= .struct [(17,0),(17,1),(17,2),(9,3)]:=by kernel_rfl
theorem tsz_185:tsz Tryd.prog 185=some 4:=by kernel_rfl
theorem tby_185:tby Tryd.prog 185=some 40:=by kernel_rfl
theorem tze_185:tze Tryd.prog 185=some [.any, .any, .any, .str ByteArray.empty]:=by kernel_rfl
theorem tk_186:tk Tryd.prog 186= .struct [(17,0),(17,1),(17,2),(9,3)]:=by kernel_rfl
theorem tsz_186:tsz Tryd.prog 186=some 4:=by kernel_rfl
theorem tby_186:tby Tryd.prog 186=some 40:=by kernel_rfl
theorem tze_186:tze Tryd.prog 186=some [.any, .any, .any, .str ByteArray.empty]:=by kernel_rfl
theorem tk_187:tk Tryd.prog 187= .arr 0 16:=by kernel_rfl
theorem tsz_187:tsz Tryd.prog 187=some 0:=by kernel_rfl
theorem tby_187:tby Tryd.prog 187=some 0:=by kernel_rfl
theorem tze_187:tze Tryd.prog 187=some []:=by kernel_rfl
theorem tk_188:tk Tryd.prog 188= .struct [(187,0)]:=by kernel_rfl
theorem tsz_188:tsz Tryd.prog 188=some 0:=by kernel_rfl
theorem tby_188:tby Tryd.prog 188=some 0:=by kernel_rfl
theorem tze_188:tze Tryd.prog 188=some []:=by kernel_rfl
theorem tk_189:tk Tryd.prog 189= .struct [(187,0)]:=by kernel_rfl
theorem tsz_189:tsz Tryd.prog 189=some 0:=by kernel_rfl
theorem tby_189:tby Tryd.prog 189=some 0:=by kernel_rfl
theorem tze_189:tze Tryd.prog 189=some []:=by kernel_rfl
theorem tk_190:tk Tryd.prog 190= .int .u8:=by kernel_rfl
theorem tsz_190:tsz Tryd.prog 190=some 1:=by kernel_rfl
theorem tby_190:tby Tryd.prog 190=some 1:=by kernel_rfl
theorem tzv_190:tzv Tryd.prog 190=some (.int .u8 0):=by kernel_rfl
theorem tze_190:tze Tryd.prog 190=some [.int .u8 0]:=by kernel_rfl
theorem tk_191:tk Tryd.prog 191= .int .u8:=by kernel_rfl
theorem tsz_191:tsz Tryd.prog 191=some 1:=by kernel_rfl
theorem tby_191:tby Tryd.prog 191=some 1:=by kernel_rfl
theorem tzv_191:tzv Tryd.prog 191=some (.int .u8 0):=by kernel_rfl
theorem tze_191:tze Tryd.prog 191=some [.int .u8 0]:=by kernel_rfl
theorem tk_193:tk Tryd.prog 193= .int .i32:=by kernel_rfl
theorem tsz_193:tsz Tryd.prog 193=some 1:=by kernel_rfl
theorem tby_193:tby Tryd.prog 193=some 4:=by kernel_rfl
theorem tzv_193:tzv Tryd.prog 193=some (.int .i32 0):=by kernel_rfl
theorem tze_193:tze Tryd.prog 193=some [.int .i32 0]:=by kernel_rfl
theorem tk_194:tk Tryd.prog 194= .int .i32:=by kernel_rfl
theorem tsz_194:tsz Tryd.prog 194=some 1:=by kernel_rfl
theorem tby_194:tby Tryd.prog 194=some 4:=by kernel_rfl
theorem tzv_194:tzv Tryd.prog 194=some (.int .i32 0):=by kernel_rfl
theorem tze_194:tze Tryd.prog 194=some [.int .i32 0]:=by kernel_rfl
theorem tk_195:tk Tryd.prog 195= .struct [(12,0),(12,1),(163,2),(190,3),(5,4),(5,5),(191,6),(192,7),(120,8),(193,9),(194,10)]:=by kernel_rfl
theorem tsz_195:tsz Tryd.prog 195=some 11:=by kernel_rfl
theorem tby_195:tby Tryd.prog 195=some 48:=by kernel_rfl
theorem tze_195:tze Tryd.prog 195=some [.int .u64 0, .int .u64 0, .int .u32 0, .int .u8 0, .int .u8 0, .int .u8 0, .int .u8 0, .any, .any, .int .i32 0, .int .i32 0]:=by kernel_rfl
theorem tk_196:tk Tryd.prog 196= .struct [(12,0),(12,1),(163,2),(190,3),(5,4),(5,5),(191,6),(192,7),(120,8),(193,9),(194,10)]:=by kernel_rfl
theorem tsz_196:tsz Tryd.prog 196=some 11:=by kernel_rfl
theorem tby_196:tby Tryd.prog 196=some 48:=by kernel_rfl
theorem tze_196:tze Tryd.prog 196=some [.int .u64 0, .int .u64 0, .int .u32 0, .int .u8 0, .int .u8 0, .int .u8 0, .int .u8 0, .any, .any, .int .i32 0, .int .i32 0]:=by kernel_rfl
attribute [go_sem] tk_2 tsz_2 tby_2 tzv_2 tze_2 tk_3 tsz_3 tby_3 tzv_3 tze_3 tk_4 tsz_4 tby_4 tzv_4 tze_4 tk_5 tsz_5 tby_5 tzv_5 tze_5 tk_6 tsz_6 tby_6 tzv_6 tze_6 tk_7 tsz_7 tby_7 tze_7 tk_8 tsz_8 tby_8 tze_8 tk_9 tsz_9 tby_9 tzv_9 tze_9 tk_10 tsz_10
attribute [go_sem] tby_10 tzv_10 tze_10 tk_11 tsz_11 tby_11 tzv_11 tze_11 tk_12 tsz_12 tby_12 tzv_12 tze_12 tk_13 tsz_13 tby_13 tze_13 tk_14 tsz_14 tby_14 tze_14 tk_15 tsz_15 tby_15 tze_15 tk_16 tsz_16 tby_16 tze_16 tk_17 tsz_17 tby_17 tze_17 tk_18 tsz_18 tby_18 tze_18 tk_19 tsz_19 tby_19
attribute [go_sem] tze_19 tk_21 tsz_21 tby_21 tzv_21 tze_21 tk_22 tsz_22 tby_22 tze_22 tk_23 tsz_23 tby_23 tze_23 tk_24 tsz_24 tby_24 tze_24 tk_27 tsz_27 tby_27 tze_27 tk_28 tsz_28 tby_28 tze_28 tk_29 tsz_29 tby_29 tze_29 tk_30 tsz_30 tby_30 tzv_30 tze_30 tk_45 tsz_45 tby_45 tze_45 tk_55
attribute [go_sem] tsz_55 tby_55 tze_55 tk_56 tsz_56 tby_56 tze_56 tk_67 tsz_67 tby_67 tze_67 tk_74 tsz_74 tby_74 tze_74 tk_75 tsz_75 tby_75 tze_75 tk_76 tsz_76 tby_76 tze_76 tk_77 tsz_77 tby_77 tze_77 tk_90 tsz_90 tby_90 tzv_90 tze_90 tk_91 tsz_91 tby_91 tze_91 tk_93 tsz_93 tby_93 tze_93
attribute [go_sem] tk_96 tsz_96 tby_96 tze_96 tk_97 tsz_97 tby_97 tze_97 tk_98 tsz_98 tby_98 tze_98 tk_99 tsz_99 tby_99 tze_99 tk_100 tsz_100 tby_100 tze_100 tk_107 tsz_107 tby_107 tze_107 tk_109 tsz_109 tby_109 tzv_109 tze_109 tk_110 tsz_110 tby_110 tze_110 tk_111 tsz_111 tby_111 tze_111 tk_115 tsz_115 tby_115
attribute [go_sem] tze_115 tk_120 tsz_120 tby_120 tze_120 tk_126 tsz_126 tby_126 tze_126 tk_127 tsz_127 tby_127 tze_127 tk_128 tsz_128 tby_128 tze_128 tk_132 tsz_132 tby_132 tze_132 tk_144 tsz_144 tby_144 tze_144 tk_147 tsz_147 tby_147 tze_147 tk_156 tsz_156 tby_156 tzv_156 tze_156 tk_163 tsz_163 tby_163 tzv_163 tze_163 tk_165
attribute [go_sem] tsz_165 tby_165 tze_165 tk_171 tsz_171 tby_171 tzv_171 tze_171 tk_175 tsz_175 tby_175 tze_175 tk_178 tsz_178 tby_178 tze_178 tk_179 tsz_179 tby_179 tze_179 tk_180 tsz_180 tby_180 tze_180 tk_183 tsz_183 tby_183 tze_183 tk_184 tsz_184 tby_184 tze_184 tk_185 tsz_185 tby_185 tze_185 tk_186 tsz_186 tby_186 tze_186
attribute [go_sem] tk_187 tsz_187 tby_187 tze_187 tk_188 tsz_188 tby_188 tze_188 tk_189 tsz_189 tby_189 tze_189 tk_190 tsz_190 tby_190 tzv_190 tze_190 tk_191 tsz_191 tby_191 tzv_191 tze_191 tk_193 tsz_193 tby_193 tzv_193 tze_193 tk_194 tsz_194 tby_194 tzv_194 tze_194 tk_195 tsz_195 tby_195 tze_195 tk_196 tsz_196 tby_196 tze_196
theorem mixed:Tryd.prog.follows .mixedOrders=true:=by kernel_rfl
end Go.Proofs.YtcnilhcplgiidaaDoor
