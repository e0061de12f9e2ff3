/- Layer 12: the value of a polynomial at 1. -/
import Derived.Test.YtphjphpmfflfpaaGreatDoorZi
import Derived.Test.YtphjphpmfflfpaaGreatDoorZm
set_option linter.unusedSimpArgs false
set_option linter.unusedVariables false
namespace Go.Proofs.YtphjphpmfflfpaaGreatDoor
open Go Go.RowKit
set_option maxHeartbeats 8000000
set_option maxRecDepth 100000
def UJ:Tr:= .node [(0, .node [(1, .node [(2, .node [(3, .node [(4, .done)])])])]),(1, .node [(0, .node [(2, .node [(3, .node [(4, .done)])])]),(2, .node [(0, .node [(3, .node [(4, .done)])])])])]
theorem Ot (x:Int) (h0: -4611686018427387904<=x) (h1:x<=4611686018427387904):Fn Tryz.prog 112 [I x] (wdA x):=by
 refine Fn.aq [.cell 2 81] Tryz.func112 rfl rfl (by decide) (by simp [Tryz.ntmps112]) ?_;rw [Tryz.ntmps112];have e1:IntKind.u64.wrap (x/2^63)=x/18446744073709551616 % 18446744073709551616:=by rw [IntKind.wrap_u64];omega
 have e3:IntKind.u64.wrap (x/9223372036854775808)=x/18446744073709551616 % 18446744073709551616:=by rw [IntKind.wrap_u64];omega
 have e2:IntKind.u64.wrap x=x % 18446744073709551616:=by rw [IntKind.wrap_u64]
 repeat' (first|omega|(try apply ag);simp only [go_sem,sevalprocAttr,e1,e2,e3]|apply ah<;>(intro h_;(try simp only [h_]);revert h_)|apply ai|apply aj|apply ae|apply And.intro|with_reducible intro h_|trivial|simp only [go_sem,ak];omega)
 all_goals exact aR.refl _
theorem MY (p q:List (Int×Int)):evL (p++q)=evL p+evL q:=by
 induction p with
 |nil=>simp [evL]
 |cons t p ih=>simp only [List.cons_append,evL,ih];omega
theorem Mz (p:List (Int×Int)) (hl:p.length<=100000) (hc: ∀t∈p,-1125899906842624<=t.2/\t.2<=1125899906842624) (h0: -1125899906842624<=evL p) (h1:evL p<=1125899906842624):
  Fn Tryz.prog 50 [plA false p,I 1] (.tup [I (evL p),I 1,I 0]):=by
 refine Fn.aq [.tmp 4, .tmp 5, .tmp 6] Tryz.func50 rfl rfl (by decide) (by simp [Tryz.ntmps50]) ?_;rw [Tryz.ntmps50]
 repeat' (first|omega|(try apply ag);simp only [go_sem,sevalprocAttr]|apply ah<;>(intro h_;(try simp only [h_]);revert h_)|apply ai|apply aj|apply ae|apply And.intro|with_reducible intro h_|trivial|simp only [go_sem,ak];omega)
 refine bV.intro (fun n fr H=> ∃k:Nat,k<=p.length/\n=p.length-k/\fr=[(39,I k),(38,I p.length),(37, .ro 2 p.length (.lst (dw p))),(7, .ptr 1 0),(1,I 1)]/\
  H=[(1, .cells 81 (.lst [.int .u64 (evL (p.take k)/18446744073709551616 % 18446744073709551616), .int .u64 (evL (p.take k)% 18446744073709551616)]))]) ?_ ?_
 ·refine ⟨_,_,_,?_,0,by omega,rfl,rfl,rfl⟩;refine Wk.sub ?_ ?_<;>(simp only [go_sem,sevalprocAttr,yap,List.take_zero,evL])
  all_goals decide
 rintro n fr H ⟨k,hk,rfl,rfl,rfl⟩;by_cases bN:k<p.length
 ·have g0:=l7 p k bN;have g1:=qt p k bN;have hlen:=ybn p;have ji:=hc (p.getD k (0,0)) (jW bN);have hW:=Ot (p.getD k (0,0)).2 (by omega) (by omega);have hA:=Rc (evL (p.take k)) (p.getD k (0,0)).2;have e1:evL (p.take k)+(p.getD k (0,0)).2=evL (p.take (k+1)):=by
   rw [Lv (0,0) bN,MY];simp [evL]
  rw [e1] at hA
  repeat' (first|omega|(first|apply ag|(refine an.intro (id:=15) [[56,57],[55],[55],[],[]] [[],[0],[0],[],[]] (by decide+kernel) mixed ?_)|(refine an.aB (id:=15) (UJ) (by decide+kernel) mixed ?_)|skip);simp only [go_sem,sevalprocAttr,g0,g1,hlen,↓reduceIte,reduceCtorEq,UJ]|apply ah<;>(intro h_;(try simp only [h_]);revert h_)|apply ai|apply aj|apply ae|apply And.intro|with_reducible intro h_|trivial|simp only [go_sem,ak];omega)
  refine ⟨bC.fn rfl hW ?_⟩;simp only [go_sem,sevalprocAttr];refine ⟨bC.fn rfl hA ?_⟩;simp only [go_sem,sevalprocAttr]
  repeat' (first|omega|(try apply ag);simp only [go_sem,sevalprocAttr]|apply ah<;>(intro h_;(try simp only [h_]);revert h_)|apply ai|apply aj|apply ae|apply And.intro|with_reducible intro h_|trivial|simp only [go_sem,ak];omega)
  refine ⟨_,_,_,?_,?_,⟨k+1,by omega,rfl,rfl,rfl⟩⟩
  ·omega
  ·refine Wk.sub ?_ ?_<;>(simp only [go_sem,sevalprocAttr,yap])
 ·obtain rfl:k=p.length:=by omega
  rw [List.take_of_length_le (Nat.le_refl _)];have hS:=Sw (evL p) h0 h1
  repeat' (first|omega|(try apply ag);simp only [go_sem,sevalprocAttr]|apply ah<;>(intro h_;(try simp only [h_]);revert h_)|apply ai|apply aj|apply ae|apply And.intro|with_reducible intro h_|trivial|simp only [go_sem,ak];omega)
  refine ⟨aA.fn rfl hS ?_⟩
  repeat' (first|omega|(try apply ag);simp only [go_sem,sevalprocAttr]|apply ah<;>(intro h_;(try simp only [h_]);revert h_)|apply ai|apply aj|apply ae|apply And.intro|with_reducible intro h_|trivial|simp only [go_sem,ak];omega)
  all_goals exact aR.refl _
end Go.Proofs.YtphjphpmfflfpaaGreatDoor
