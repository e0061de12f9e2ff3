/- The types of the translation: kinds, sizes, bytes, zero values; made by a program of the author (gentypes.py), each fact checked by the kernel. -/
import Derived.Test.YtngegnonblbdhaaDoorGc
import Derived.Test.YtngegnonblbdhaaDoorRows
namespace Go.Proofs.YtngegnonblbdhaaDoor
open Go
theorem tk_3:tk Tryd.prog 3= .int .i64:=by kernel_rfl
theorem tsz_3:tsz Tryd.prog 3=some 1:=by kernel_rfl
theorem tby_3:tby Tryd.prog 3=some 8:=by kernel_rfl
theorem tzv_3:tzv Tryd.prog 3=some (.int .i64 0):=by kernel_rfl
theorem tze_3:tze Tryd.prog 3=some [.int .i64 0]:=by kernel_rfl
theorem tk_4:tk Tryd.prog 4= .bool:=by kernel_rfl
theorem tsz_4:tsz Tryd.prog 4=some 1:=by kernel_rfl
theorem tby_4:tby Tryd.prog 4=some 1:=by kernel_rfl
theorem tze_4:tze Tryd.prog 4=some [.bool false]:=by kernel_rfl
theorem tk_5:tk Tryd.prog 5= .int .u8:=by kernel_rfl
theorem tk_9:tk Tryd.prog 9= .str:=by kernel_rfl
theorem tk_22:tk Tryd.prog 22= .slice 3:=by kernel_rfl
theorem tsz_22:tsz Tryd.prog 22=some 1:=by kernel_rfl
theorem tby_22:tby Tryd.prog 22=some 24:=by kernel_rfl
theorem tze_22:tze Tryd.prog 22=some [.nils]:=by kernel_rfl
theorem tk_24:tk Tryd.prog 24= .struct [(22,0),(22,1),(3,2)]:=by kernel_rfl
theorem tsz_24:tsz Tryd.prog 24=some 3:=by kernel_rfl
theorem tze_24:tze Tryd.prog 24=some [.nils, .nils, .int .i64 0]:=by kernel_rfl
theorem tk_27:tk Tryd.prog 27= .slice 22:=by kernel_rfl
theorem tk_29:tk Tryd.prog 29= .int .i64:=by kernel_rfl
theorem tk_34:tk Tryd.prog 34= .slice 57:=by kernel_rfl
theorem tsz_34:tsz Tryd.prog 34=some 1:=by kernel_rfl
theorem tk_36:tk Tryd.prog 36= .struct [(4,0),(34,1)]:=by kernel_rfl
theorem tsz_36:tsz Tryd.prog 36=some 2:=by kernel_rfl
theorem tze_36:tze Tryd.prog 36=some [.bool false, .nils]:=by kernel_rfl
theorem tk_48:tk Tryd.prog 48= .map 3 22:=by kernel_rfl
theorem tk_57:tk Tryd.prog 57= .struct [(3,0),(3,1)]:=by kernel_rfl
theorem tsz_57:tsz Tryd.prog 57=some 2:=by kernel_rfl
theorem tby_57:tby Tryd.prog 57=some 16:=by kernel_rfl
theorem tze_57:tze Tryd.prog 57=some [.int .i64 0, .int .i64 0]:=by kernel_rfl
theorem tk_65:tk Tryd.prog 65= .slice 4:=by kernel_rfl
theorem tk_73:tk Tryd.prog 73= .slice 77:=by kernel_rfl
theorem tsz_73:tsz Tryd.prog 73=some 1:=by kernel_rfl
theorem tze_73:tze Tryd.prog 73=some [.nils]:=by kernel_rfl
theorem tk_75:tk Tryd.prog 75= .int .u64:=by kernel_rfl
theorem tsz_75:tsz Tryd.prog 75=some 1:=by kernel_rfl
theorem tk_77:tk Tryd.prog 77= .struct [(75,0),(75,1)]:=by kernel_rfl
theorem tsz_77:tsz Tryd.prog 77=some 2:=by kernel_rfl
theorem tby_77:tby Tryd.prog 77=some 16:=by kernel_rfl
theorem tze_77:tze Tryd.prog 77=some [.int .u64 0, .int .u64 0]:=by kernel_rfl
theorem tk_86:tk Tryd.prog 86= .int .u64:=by kernel_rfl
attribute [go_sem] tk_3 tsz_3 tby_3 tzv_3 tze_3 tk_4 tsz_4 tby_4 tze_4 tk_5 tk_9
attribute [go_sem] tk_22 tsz_22 tby_22 tze_22 tk_24 tsz_24 tze_24 tk_27 tk_29 tk_34 tsz_34 tk_36 tsz_36 tze_36 tk_48
attribute [go_sem] tk_57 tsz_57 tby_57 tze_57 tk_65 tk_73 tsz_73 tze_73 tk_75 tsz_75
attribute [go_sem] tk_77 tsz_77 tby_77 tze_77 tk_86
theorem mixed:Tryd.prog.follows .mixedOrders=true:=by kernel_rfl
end Go.Proofs.YtngegnonblbdhaaDoor
