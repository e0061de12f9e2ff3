/- Layer 12: Equal, where both are the same. -/
import Derived.Test.YtphjphpmfflfpaaGreatDoorZb
set_option linter.unusedSimpArgs false
set_option linter.unusedVariables false
namespace Go.Proofs.YtphjphpmfflfpaaGreatDoor
open Go Go.RowKit
set_option maxRecDepth 100000
set_option maxHeartbeats 4000000
def UN:List (List Nat):=[[17,20,21,22,23],[16,20,21,22,23],[20,21,22,23],[20,21,22,23],[16,17,18,19,21],[16,17,18,19,20],[16,17,18,19],[16,17,18,19],[]]
theorem RJ:eq2 Tryz.prog 75=true:=by decide+kernel
theorem LY (p:List (Int×Int)) (hl:p.length<=1000000):Fn Tryz.prog 60 [.ro 2 p.length (.lst (dw p)), .ro 2 p.length (.lst (dw p))] (.bool true):=by
 have hlen:=ybn p;have b0:((p.length:Int)!=p.length)=false:=by simp
 refine Fn.intro [.tmp 4] Tryz.func60 rfl rfl (by decide) (by simp [Tryz.ntmps60]) ?_;rw [Tryz.ntmps60]
 repeat' (first|omega|(try apply ag);simp only [go_sem,sevalprocAttr,b0]|apply ah<;>(intro h_;(try simp only [h_]);revert h_)|apply ai|apply aj|apply ae|apply And.intro|with_reducible intro h_|trivial|simp only [go_sem,ak];omega)
 refine bV.intro (fun n fr H=> ∃k:Nat,k<=p.length/\n=p.length-k/\fr=[(13,I k),(12,I p.length),(1, .ro 2 p.length (.lst (dw p))),(0, .ro 2 p.length (.lst (dw p)))]/\H=[]) ?_ ?_
 ·refine ⟨_,_,_,?_,0,by omega,rfl,rfl,rfl⟩;refine Wk.sub ?_ ?_<;>(simp only [go_sem,sevalprocAttr,yap])
 rintro n fr H ⟨k,hk,rfl,rfl,rfl⟩;by_cases bN:k<p.length
 ·have g0:=l7 p k bN;have g1:=qt p k bN;have b1:((p.getD k (0,0)).1==(p.getD k (0,0)).1)=true:=by simp
  have b2:((p.getD k (0,0)).2==(p.getD k (0,0)).2)=true:=by simp
  repeat' (first|omega|(first|apply ag|(refine an.intro (id:=6) UN [[],[0],[],[],[0,1,2,3],[0,1,2,3,4],[0,1,2,3],[0,1,2,3],[]] (by decide+kernel) mixed ?_)|skip);simp only [go_sem,sevalprocAttr,g0,g1,hlen,b1,b2,RJ,↓reduceIte,reduceCtorEq,UN]|apply ah<;>(intro h_;(try simp only [h_]);revert h_)|apply ai|apply aj|apply ae|apply And.intro|with_reducible intro h_|trivial|simp only [go_sem,ak];omega)
  all_goals (first|exact RJ|skip)
  refine ⟨_,_,_,?_,?_,⟨k+1,by omega,rfl,rfl,rfl⟩⟩
  ·omega
  ·refine Wk.sub ?_ ?_<;>(simp only [go_sem,sevalprocAttr,yap])
 ·obtain rfl:k=p.length:=by omega
  repeat' (first|omega|(try apply ag);simp only [go_sem,sevalprocAttr]|apply ah<;>(intro h_;(try simp only [h_]);revert h_)|apply ai|apply aj|apply ae|apply And.intro|with_reducible intro h_|trivial|simp only [go_sem,ak];omega)
theorem BP (p:List (Int×Int)) (hl:p.length<=1000000):Fn Tryz.prog 15 [plA false p,plA false p] (.bool true):=by
 have hS:=LY p hl;refine Fn.intro [.tmp 4] Tryz.func15 rfl rfl (by decide) (by simp [Tryz.ntmps15]) ?_;rw [Tryz.ntmps15]
 repeat' (first|omega|(try apply ag);simp only [go_sem,sevalprocAttr,yap]|apply ah<;>(intro h_;(try simp only [h_]);revert h_)|apply ai|apply aj|apply ae|apply And.intro|with_reducible intro h_|trivial|simp only [go_sem,ak];omega)
 refine ⟨aA.fn rfl hS ?_⟩
 repeat' (first|omega|(try apply ag);simp only [go_sem,sevalprocAttr]|apply ah<;>(intro h_;(try simp only [h_]);revert h_)|apply ai|apply aj|apply ae|apply And.intro|with_reducible intro h_|trivial|simp only [go_sem,ak];omega)
end Go.Proofs.YtphjphpmfflfpaaGreatDoor
