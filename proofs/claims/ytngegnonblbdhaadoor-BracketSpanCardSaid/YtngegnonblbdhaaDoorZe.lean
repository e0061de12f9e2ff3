/- Layer 12: Of; the product with 0. -/
import Derived.Test.YtngegnonblbdhaaDoorZd
set_option linter.unusedSimpArgs false
set_option linter.unusedVariables false
namespace Go.Proofs.YtngegnonblbdhaaDoor
open Go Go.RowKit
set_option maxHeartbeats 8000000
set_option maxRecDepth 100000
theorem yjm {v l:Int} (h0: -l<=v) (h1:v<=l):fitB v l=true:=by unfold fitB;simp;omega
theorem y3b (low:Int) (cs:List Int) (hl: -1000000<=low/\low+cs.length<=1000000) (hn:cs.length<=100000) (hc: ∀c∈cs,-1125899906842624<=c/\c<=1125899906842624):
  Fn Tryd.prog 24 [I low,roI cs] (plA false (tmI low cs)):=by
 refine Fn.introL [.cell 4 36] Tryd.func24 rfl rfl (by decide) (by simp [Tryd.ntmps24]) ?_;rw [Tryd.ntmps24]
 repeat' (first|omega|(try apply yaa);simp only [go_sem,sevalprocAttr]|apply yab<;>(intro h_;(try simp only [h_]);revert h_)|apply And.intro|with_reducible intro h_|trivial|simp only [go_sem,la2];omega)
 refine yak.intro (fun n fr H=> ∃k:Nat,k<=cs.length/\n=cs.length-k/\fr=[(10,I k),(9,I cs.length),(8,roI cs),(5, .ptr 1 0),(4, .ptr 0 0),(0,I low)]/\
  ((tmI low (cs.take k)=[]/\H=[(1, .cells 36 (.lst [.bool false, .nils])),(0, .cells 36 (.lst [.bool false, .nils]))])\/
   H=[(3, .cells 57 (.lst (tmC (tmI low (cs.take k))))),(1, .cells 36 (.lst [.bool false, .sl 2 3 0 (tmI low (cs.take k)).length])),(0, .cells 36 (.lst [.bool false, .nils]))])) ?_ ?_
 ·refine ⟨_,_,_,?_,0,by omega,rfl,rfl, .inl ⟨by simp [tmI],rfl⟩⟩
  refine Wk.sub ?_ ?_<;>simp only [go_sem,sevalprocAttr]
  all_goals simp_all
 rintro n fr H ⟨k,hk,rfl,rfl,hcs⟩
 have htl:=yk9 low (cs.take k)
 rw [List.length_take] at htl
 by_cases hkl:k<cs.length
 ·have hzk:=hc (cs.getD k 0) (by simp [List.getD_eq_getElem?_getD,List.getElem?_eq_getElem hkl])
  have eT:=yjk low (cs.take k) (cs.getD k 0)
  rw [←yl9 hkl,List.length_take,show min k cs.length=k by omega] at eT
  have hw1:=yer (cs.getD k 0) 1125899906842624 (by omega) (by omega)
  have hw2:=yer (low+k) 1048576 (by omega) (by omega)
  rw [yjm (by omega) (by omega)] at hw1 hw2
  have bl:decide (1048576<low)=false:=by simp;omega
  have hlen:=yb9 (tmI low (cs.take k))
  by_cases hz0:cs.getD k 0=0
  ·have bz:(cs.getD k 0==0)=true:=by simpa using hz0
   rw [if_pos hz0,List.append_nil] at eT
   rcases hcs with ⟨hn,rfl⟩|rfl
   ·repeat' (first|omega|(try apply yaa);simp only [go_sem,sevalprocAttr,bz]|apply yab<;>(intro h_;(try simp only [h_]);revert h_)|apply And.intro|with_reducible intro h_|trivial|simp only [go_sem,la2];omega)
    refine ⟨_,_,_,?_,?_,⟨k+1,by omega,rfl,rfl, .inl ⟨by rw [eT];exact hn,rfl⟩⟩⟩
    ·omega
    ·refine Wk.sub ?_ ?_<;>(simp only [go_sem,sevalprocAttr,ybh])
     all_goals simp_all
   ·repeat' (first|omega|(try apply yaa);simp only [go_sem,sevalprocAttr,bz]|apply yab<;>(intro h_;(try simp only [h_]);revert h_)|apply And.intro|with_reducible intro h_|trivial|simp only [go_sem,la2];omega)
    refine ⟨_,_,_,?_,?_,⟨k+1,by omega,rfl,rfl, .inr rfl⟩⟩
    ·omega
    ·rw [eT]
     refine Wk.sub ?_ ?_<;>(simp only [go_sem,sevalprocAttr,ybh])
     all_goals simp_all
  ·have bz:(cs.getD k 0==0)=false:=by rw [beq_eq_false_iff_ne];exact hz0
   rw [if_neg hz0] at eT
   rcases hcs with ⟨hn,rfl⟩|rfl
   ·rw [hn,List.nil_append] at eT
    repeat' (first|omega|(try apply yaa);simp only [go_sem,sevalprocAttr,bz]|apply yab<;>(intro h_;(try simp only [h_]);revert h_)|apply And.intro|with_reducible intro h_|trivial|simp only [go_sem,la2];omega)
    refine ⟨yad.fn rfl hw1 ?_⟩
    repeat' (first|omega|(try apply yaa);simp only [go_sem,sevalprocAttr,bl]|apply yab<;>(intro h_;(try simp only [h_]);revert h_)|apply And.intro|with_reducible intro h_|trivial|simp only [go_sem,la2];omega)
    refine ⟨yad.fn rfl hw2 ?_⟩
    repeat' (first|omega|(try apply yaa);simp only [go_sem,sevalprocAttr]|apply yab<;>(intro h_;(try simp only [h_]);revert h_)|apply And.intro|with_reducible intro h_|trivial|simp only [go_sem,la2];omega)
    refine ⟨_,_,_,?_,?_,⟨k+1,by omega,rfl,rfl, .inr rfl⟩⟩
    ·omega
    ·rw [eT]
     refine Wk.sub ?_ ?_<;>(simp only [go_sem,sevalprocAttr,ybh])
     all_goals first|rfl|simp_all
   ·repeat' (first|omega|(try apply yaa);simp only [go_sem,sevalprocAttr,bz]|apply yab<;>(intro h_;(try simp only [h_]);revert h_)|apply And.intro|with_reducible intro h_|trivial|simp only [go_sem,la2];omega)
    refine ⟨yad.fn rfl hw1 ?_⟩
    repeat' (first|omega|(try apply yaa);simp only [go_sem,sevalprocAttr,bl]|apply yab<;>(intro h_;(try simp only [h_]);revert h_)|apply And.intro|with_reducible intro h_|trivial|simp only [go_sem,la2];omega)
    refine ⟨yad.fn rfl hw2 ?_⟩
    repeat' (first|omega|(try apply yaa);simp only [go_sem,sevalprocAttr,hlen]|apply yab<;>(intro h_;(try simp only [h_]);revert h_)|apply And.intro|with_reducible intro h_|trivial|simp only [go_sem,la2];omega)
    rw [yg3]
    refine ⟨_,_,_,?_,?_,⟨k+1,by omega,rfl,rfl, .inr rfl⟩⟩
    ·omega
    ·rw [eT]
     refine Wk.sub ?_ ?_<;>(simp only [go_sem,sevalprocAttr,ybh,List.length_append])
     all_goals simp_all
 ·obtain rfl:k=cs.length:=by omega
  rw [List.take_of_length_le (Nat.le_refl _)] at hcs htl
  rcases hcs with ⟨hn,rfl⟩|rfl
  ·repeat' (first|omega|(try apply yaa);simp only [go_sem,sevalprocAttr]|apply yab<;>(intro h_;(try simp only [h_]);revert h_)|apply And.intro|with_reducible intro h_|trivial|simp only [go_sem,la2];omega)
   all_goals rw [hn]
   all_goals exact LeA.aggL (.cons (LeA.refl _) (.cons (LeA.nils (by omega) rfl) .nil))
  ·have hlen:=yb9 (tmI low cs)
   repeat' (first|omega|(try apply yaa);simp only [go_sem,sevalprocAttr,yf0]|apply yab<;>(intro h_;(try simp only [h_]);revert h_)|apply And.intro|with_reducible intro h_|trivial|simp only [go_sem,la2];omega)
   all_goals exact LeA.of (by rw [List.take_of_length_le (by omega)])
def trm (c e:Int):List (Int×Int):=if c=0 then [] else [(e,c)]
theorem y0b (q:List (Int×Int)):Fn Tryd.prog 25 [plA false [],plA false q] (plA false []):=by
 refine Fn.introL [.cell 4 36] Tryd.func25 rfl rfl (by decide) (by simp [Tryd.ntmps25]) ?_;rw [Tryd.ntmps25]
 repeat' (first|omega|(try apply yaa);simp only [go_sem,sevalprocAttr]|apply yab<;>(intro h_;(try simp only [h_]);revert h_)|apply And.intro|with_reducible intro h_|trivial|simp only [go_sem,la2];omega)
 all_goals exact LeA.aggL (.cons (LeA.refl _) (.cons (LeA.nils (by omega) rfl) .nil))
end Go.Proofs.YtngegnonblbdhaaDoor
set_option linter.unusedSimpArgs false
set_option linter.unusedVariables false
namespace Go.Proofs.YtngegnonblbdhaaDoor
open Go Go.RowKit
set_option maxHeartbeats 8000000
set_option maxRecDepth 100000
theorem y0c (c e:Int) (h0: -1125899906842624<=c/\c<=1125899906842624) (h1: -1048576<=e/\e<=1048576):Fn Tryd.prog 27 [I c,I e] (plA false (trm c e)):=by
 have hw1:=yer c 1125899906842624 (by omega) (by omega)
 have hw2:=yer e 1048576 (by omega) (by omega)
 rw [yjm (by omega) (by omega)] at hw1 hw2
 unfold trm
 by_cases h:c=0
 ·have bz:(c==0)=true:=by simpa using h
  rw [if_pos h]
  refine Fn.introL [.cell 4 36] Tryd.func27 rfl rfl (by decide) (by simp [Tryd.ntmps27]) ?_;rw [Tryd.ntmps27]
  repeat' (first|omega|(try apply yaa);simp only [go_sem,sevalprocAttr,bz]|apply yab<;>(intro h_;(try simp only [h_]);revert h_)|apply And.intro|with_reducible intro h_|trivial|simp only [go_sem,la2];omega)
  all_goals exact LeA.aggL (.cons (LeA.refl _) (.cons (LeA.nils (by omega) rfl) .nil))
 ·have bz:(c==0)=false:=by rw [beq_eq_false_iff_ne];exact h
  rw [if_neg h]
  refine Fn.introL [.cell 4 36] Tryd.func27 rfl rfl (by decide) (by simp [Tryd.ntmps27]) ?_;rw [Tryd.ntmps27]
  repeat' (first|omega|(try apply yaa);simp only [go_sem,sevalprocAttr,bz]|apply yab<;>(intro h_;(try simp only [h_]);revert h_)|apply And.intro|with_reducible intro h_|trivial|simp only [go_sem,la2];omega)
  refine ⟨yad.fn rfl hw1 ?_⟩
  repeat' (first|omega|(try apply yaa);simp only [go_sem,sevalprocAttr]|apply yab<;>(intro h_;(try simp only [h_]);revert h_)|apply And.intro|with_reducible intro h_|trivial|simp only [go_sem,la2];omega)
  refine ⟨yad.fn rfl hw2 ?_⟩
  repeat' (first|omega|(try apply yaa);simp only [go_sem,sevalprocAttr]|apply yab<;>(intro h_;(try simp only [h_]);revert h_)|apply And.intro|with_reducible intro h_|trivial|simp only [go_sem,la2];omega)
  all_goals exact LeA.of rfl
end Go.Proofs.YtngegnonblbdhaaDoor
