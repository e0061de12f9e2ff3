/- Layer 12: sum, negative, shift, Of. -/
import Derived.Test.YtjpnnnognoaaiaaDoorLa2
set_option linter.unusedSimpArgs false
set_option linter.unusedVariables false
namespace Go.Proofs.YtjpnnnognoaaiaaDoor
open Go Go.RowKit
set_option maxRecDepth 100000
set_option maxHeartbeats 8000000
theorem y43 (a b:Int) (h1: -1125899906842624<=a) (h2:a<=1125899906842624) (h3: -1125899906842624<=b) (h4:b<=1125899906842624):Fn Tryd.prog 67 [I a,I b] (I (addF a b)):=by
 unfold addF
 refine Fn.intro [.tmp 4] Tryd.func67 rfl rfl (by decide) (by simp [Tryd.ntmps67]) ?_;rw [Tryd.ntmps67]
 repeat' (first|omega|(try apply yaa);simp only [go_sem,sevalprocAttr]|apply yab<;>(intro h_;(try simp only [h_]);revert h_)|apply And.intro|with_reducible intro h_|trivial|simp only [go_sem,la2];omega)
theorem y63 (p q:List (Int×Int)) (hp:yfu p) (hq:yfu q) (hpl:p.length<=500000) (hql:q.length<=500000) (hok:ycd (mrg addF p q)=true):Fn Tryd.prog 48 [plA false p,plA false q] (plA false (nz (mrg addF p q))):=by
 have hc:=yiy p q 67 addF hp hq hpl hql (fun a b h1 h2 h3 h4=>y43 a b h1 h2 h3 h4)
 rw [if_pos hok] at hc
 refine Fn.intro [.cell 4 29] Tryd.func48 rfl rfl (by decide) (by simp [Tryd.ntmps48]) ?_;rw [Tryd.ntmps48]
 repeat' (first|omega|(try apply yaa);simp only [go_sem,sevalprocAttr]|apply yab<;>(intro h_;(try simp only [h_]);revert h_)|apply And.intro|with_reducible intro h_|trivial|simp only [go_sem,la2];omega)
 refine ⟨yae.fn rfl hc ?_⟩
 repeat' (first|omega|(try apply yaa);simp only [go_sem,sevalprocAttr]|apply yab<;>(intro h_;(try simp only [h_]);revert h_)|apply And.intro|with_reducible intro h_|trivial|simp only [go_sem,la2];omega)
end Go.Proofs.YtjpnnnognoaaiaaDoor
set_option linter.unusedSimpArgs false
set_option linter.unusedVariables false
namespace Go.Proofs.YtjpnnnognoaaiaaDoor
open Go Go.RowKit
set_option maxRecDepth 100000
set_option maxHeartbeats 8000000
def yeg:List (List Nat):=[[],[],[],[],[],[52,53,54,55,56],[52,53,54,55,56],[52,53,54,55,56],[52,53,54,55,56],[52,53,54,55,56],[47,48,49,50,51],[47,48,49,50,51],[47,48,49,50,51],[47,48,49,50,51],[47,48,49,50,51],[],[]]
def yeh:List (List Nat):=[[],[],[],[],[],[],[],[],[],[],[5,6,7,8,9],[5,6,7,8,9],[5,6,7,8,9],[5,6,7,8,9],[5,6,7,8,9],[],[]]
theorem y44 (a b:Int) (h3: -1125899906842624<=b) (h4:b<=1125899906842624):Fn Tryd.prog 66 [I a,I b] (I (negF a b)):=by
 unfold negF
 refine Fn.intro [.tmp 4] Tryd.func66 rfl rfl (by decide) (by simp [Tryd.ntmps66]) ?_;rw [Tryd.ntmps66]
 repeat' (first|omega|(try apply yaa);simp only [go_sem,sevalprocAttr]|apply yab<;>(intro h_;(try simp only [h_]);revert h_)|apply And.intro|with_reducible intro h_|trivial|simp only [go_sem,la2];omega)
theorem y64 (q:List (Int×Int)) (hq:yfu q) (hql:q.length<=500000) (hok:ycd (mrg negF [] q)=true):Fn Tryd.prog 47 [plA false q] (plA false (nz (mrg negF [] q))):=by
 have hc:=yiy [] q 66 negF (fun _ h=>by cases h) hq (by simp) hql (fun a b h1 h2 h3 h4=>y44 a b h3 h4)
 rw [if_pos hok] at hc
 have hc':=hc.arg (args':=[.agg [.bool false, .nils],plA false q, .fn 66 []]) (.cons (LeA.aggL (.cons (LeA.refl _) (.cons (LeA.nils (by omega) rfl) .nil))) (.cons (LeA.refl _) (.cons (LeA.refl _) .nil)))
 refine Fn.intro [.cell 2 29] Tryd.func47 rfl rfl (by decide) (by simp [Tryd.ntmps47]) ?_;rw [Tryd.ntmps47]
 repeat' (first|omega|(try apply yaa);simp only [go_sem,sevalprocAttr]|apply yab<;>(intro h_;(try simp only [h_]);revert h_)|apply And.intro|with_reducible intro h_|trivial|simp only [go_sem,la2];omega)
 refine ⟨yae.fn rfl hc' ?_⟩
 repeat' (first|omega|(try apply yaa);simp only [go_sem,sevalprocAttr]|apply yab<;>(intro h_;(try simp only [h_]);revert h_)|apply And.intro|with_reducible intro h_|trivial|simp only [go_sem,la2];omega)
theorem yyc (e by':Int) (h1: -1125899906842624<=e) (h2:e<=1125899906842624) (h3: -1125899906842624<=by') (h4:by'<=1125899906842624):Fn Tryd.prog 65 [I e, .rp (.lst [I by']) 0] (I (e+by')):=by
 refine Fn.intro [.tmp 3] Tryd.func65 rfl rfl (by decide) (by simp [Tryd.ntmps65]) ?_;rw [Tryd.ntmps65]
 repeat' (first|omega|(try apply yaa);simp only [go_sem,sevalprocAttr]|apply yab<;>(intro h_;(try simp only [h_]);revert h_)|apply And.intro|with_reducible intro h_|trivial|simp only [go_sem,la2];omega)
theorem y45:Fn Tryd.prog 45 [I 0, .ro 1 1 (.ints [1])] (plA false [(0,1)]):=by
 have hw1:=ydz 1 1125899906842624 (by omega) (by omega)
 have hw2:=ydz 0 1048576 (by omega) (by omega)
 rw [show fitB 1 1125899906842624=true by decide] at hw1
 rw [show fitB 0 1048576=true by decide] at hw2
 refine Fn.introL [.cell 4 29] Tryd.func45 rfl rfl (by decide) (by simp [Tryd.ntmps45]) ?_;rw [Tryd.ntmps45]
 repeat' (first|omega|(try apply yaa);simp only [go_sem,sevalprocAttr]|apply yab<;>(intro h_;(try simp only [h_]);revert h_)|apply And.intro|with_reducible intro h_|trivial|simp only [go_sem,la2];omega)
 refine ya0.intro (fun n fr H=>(n=1/\fr=[(10,I 0),(9,I 1),(8, .ro 1 1 (.ints [1])),(5, .ptr 1 0),(4, .ptr 0 0),(0,I 0)]/\H=[(1, .cells 29 (.lst [.bool false, .nils])),(0, .cells 29 (.lst [.bool false, .nils]))])\/(n=0/\fr=[(10,I 1),(9,I 1),(8, .ro 1 1 (.ints [1])),(5, .ptr 1 0),(4, .ptr 0 0),(0,I 0)]/\H=[(3, .cells 52 (.lst [I 0,I 1])),(1, .cells 29 (.lst [.bool false, .sl 2 3 0 1])),(0, .cells 29 (.lst [.bool false, .nils]))])) ?_ ?_
 ·refine ⟨_,_,_,?_, .inl ⟨rfl,rfl,rfl⟩⟩
  refine Wk.sub ?_ ?_<;>simp only [go_sem,sevalprocAttr]
 rintro n fr H (⟨rfl,rfl,rfl⟩|⟨rfl,rfl,rfl⟩)
 ·repeat' (first|omega|(try apply yaa);simp only [go_sem,sevalprocAttr]|apply yab<;>(intro h_;(try simp only [h_]);revert h_)|apply And.intro|with_reducible intro h_|trivial|simp only [go_sem,la2];omega)
  refine ⟨yae.fn rfl hw1 ?_⟩
  repeat' (first|omega|(try apply yaa);simp only [go_sem,sevalprocAttr]|apply yab<;>(intro h_;(try simp only [h_]);revert h_)|apply And.intro|with_reducible intro h_|trivial|simp only [go_sem,la2];omega)
  refine ⟨yae.fn rfl hw2 ?_⟩
  repeat' (first|omega|(try apply yaa);simp only [go_sem,sevalprocAttr]|apply yab<;>(intro h_;(try simp only [h_]);revert h_)|apply And.intro|with_reducible intro h_|trivial|simp only [go_sem,la2];omega)
  refine ⟨_,_,_,?_,?_, .inr ⟨rfl,rfl,rfl⟩⟩
  ·omega
  ·refine Wk.sub ?_ ?_<;>simp only [go_sem,sevalprocAttr]
 ·repeat' (first|omega|(try apply yaa);simp only [go_sem,sevalprocAttr]|apply yab<;>(intro h_;(try simp only [h_]);revert h_)|apply And.intro|with_reducible intro h_|trivial|simp only [go_sem,la2];omega)
  all_goals exact LeA.refl _
theorem yyd (p:List (Int×Int)) (k:Int) (hk1: -1048576<=k) (hk2:k<=1048576) (hp: ∀t∈p,-1048576<=t.1/\t.1<=1048576) (hf: ∀t∈p,fitB (t.1+k) 1048576=true) (hasc:1<p.length->(p.getD 0 (0,0)).1<=(p.getD 1 (0,0)).1) (hl:p.length<=500000):
  Fn Tryd.prog 64 [plA false p, .fn 65 [.rp (.lst [I k]) 0]] (plA false (shP k p)):=by
 refine Fn.introL [.cell 4 29] Tryd.func64 rfl rfl (by decide) (by simp [Tryd.ntmps64]) ?_;rw [Tryd.ntmps64]
 repeat' (first|omega|(try apply yaa);simp only [go_sem,sevalprocAttr]|apply yab<;>(intro h_;(try simp only [h_]);revert h_)|apply And.intro|with_reducible intro h_|trivial|simp only [go_sem,la2];omega)
 refine ya0.intro (fun n fr H=> ∃i:Nat,i<=p.length/\n=p.length-i/\fr=[(20,I i),(19,I p.length),(18,tmA p),(5, .ptr 3 0),(4, .ptr 1 0),(2, .ptr 0 0),(1, .fn 65 [.rp (.lst [I k]) 0])]/\H=[(3, .cells 29 (.lst [.bool false, .sl 2 2 0 i])),(2, .cells 52 (.lst (tmC (shP k (p.take i))))),(1, .cells 29 (.lst [.bool false, .nils])),(0, .cells 29 (.lst [.bool false,tmA p]))]) ?_ ?_
 ·refine ⟨_,_,_,?_,0,by omega,rfl,rfl,rfl⟩
  refine Wk.sub ?_ ?_<;>simp only [go_sem,sevalprocAttr]
  all_goals simp [shP,tmC]
 rintro n fr H ⟨i,hi,rfl,rfl,rfl⟩
 by_cases hil:i<p.length
 ·have t0:=ycj p i hil
  have t1:=ydy p i hil
  have hm:p.getD i (0,0)∈p:=by simp [hil]
  have bi:decide ((i:Int)<p.length)=true:=by simp;omega
  have hp1:=hp _ hm
  have hs:=yyc (p.getD i (0,0)).1 k (by omega) (by omega) (by omega) (by omega)
  have hw:=ydz ((p.getD i (0,0)).1+k) 1048576 (by omega) (by omega)
  rw [hf _ hm] at hw
  repeat' (first|omega|(first|apply yaa|(refine yac.intro (id:=12) yeg yeh (by decide+kernel) mixed ?_)|skip);simp only [go_sem,sevalprocAttr,t0,t1,bi,↓reduceIte,reduceCtorEq,yeg,yeh]|apply yab<;>(intro h_;(try simp only [h_]);revert h_)|apply And.intro|with_reducible intro h_|trivial|simp only [go_sem,la2];omega)
  refine ⟨yae.fn rfl hs ?_⟩
  repeat' (first|omega|(first|apply yaa|(refine yac.intro (id:=12) yeg yeh (by decide+kernel) mixed ?_)|skip);simp only [go_sem,sevalprocAttr,t0,t1,bi,↓reduceIte,reduceCtorEq,yeg,yeh]|apply yab<;>(intro h_;(try simp only [h_]);revert h_)|apply And.intro|with_reducible intro h_|trivial|simp only [go_sem,la2];omega)
  refine ⟨yae.fn rfl hw ?_⟩
  repeat' (first|omega|(first|apply yaa|(refine yac.intro (id:=12) yeg yeh (by decide+kernel) mixed ?_)|skip);simp only [go_sem,sevalprocAttr,t0,t1,bi,↓reduceIte,reduceCtorEq,yeg,yeh]|apply yab<;>(intro h_;(try simp only [h_]);revert h_)|apply And.intro|with_reducible intro h_|trivial|simp only [go_sem,la2];omega)
  ·simp [shP];omega
  refine ⟨_,_,_,?_,?_,⟨i+1,by omega,rfl,rfl,rfl⟩⟩
  ·omega
  ·have e:shP k (p.take (i+1))=shP k (p.take i)++[((p.getD i (0,0)).1+k,(p.getD i (0,0)).2)]:=by
    unfold shP
    rw [List.take_add_one,List.map_append,List.getElem?_eq_getElem hil]
    simp [hil]
   rw [yl1,←e]
   refine Wk.sub ?_ ?_<;>simp only [go_sem,sevalprocAttr]
 ·obtain rfl:i=p.length:=by omega
  rw [List.take_length]
  have bi:decide ((p.length:Int)<p.length)=false:=by simp
  have hle:(shP k p).length=p.length:=by simp [shP]
  by_cases h2:1<p.length
  ·have t0:=ycj (shP k p) 0 (by omega)
   have t1:=ycj (shP k p) 1 (by omega)
   have b2:decide ((1:Int)<p.length)=true:=by simp;omega
   have b3:decide (((shP k p).getD 1 (0,0)).1<((shP k p).getD 0 (0,0)).1)=false:=by
    have:=hasc h2
    unfold shP
    match p,h2 with
    |x::y::r,_=>simp at this⊢;omega
   repeat' (first|omega|(first|apply yaa|(refine yac.intro (id:=12) yeg yeh (by decide+kernel) mixed ?_)|skip);simp only [go_sem,sevalprocAttr,t0,t1,bi,b2,b3,↓reduceIte,reduceCtorEq,yeg,yeh]|apply yab<;>(intro h_;(try simp only [h_]);revert h_)|apply And.intro|with_reducible intro h_|trivial|simp only [go_sem,la2];omega)
   all_goals (rw [List.take_of_length_le (by rw [ydr,hle];omega),hle];exact LeA.refl _)
  ·have b2:decide ((1:Int)<p.length)=false:=by simp;omega
   repeat' (first|omega|(first|apply yaa|(refine yac.intro (id:=12) yeg yeh (by decide+kernel) mixed ?_)|skip);simp only [go_sem,sevalprocAttr,bi,b2,↓reduceIte,reduceCtorEq,yeg,yeh]|apply yab<;>(intro h_;(try simp only [h_]);revert h_)|apply And.intro|with_reducible intro h_|trivial|simp only [go_sem,la2];omega)
   all_goals (rw [List.take_of_length_le (by rw [ydr,hle];omega),hle];exact LeA.refl _)
theorem y1r (p:List (Int×Int)) (k:Int) (hk1: -1048576<=k) (hk2:k<=1048576) (hp: ∀t∈p,-1048576<=t.1/\t.1<=1048576) (hf: ∀t∈p,fitB (t.1+k) 1048576=true) (hasc:1<p.length->(p.getD 0 (0,0)).1<=(p.getD 1 (0,0)).1) (hl:p.length<=500000):
  Fn Tryd.prog 46 [plA false p,I k] (plA false (shP k p)):=by
 have hm:=yyd p k hk1 hk2 hp hf hasc hl
 have hw:=ydz k 2097152 (by omega) (by omega)
 rw [show fitB k 2097152=true by unfold fitB;simp;omega] at hw
 refine Fn.intro [.cell 4 29] Tryd.func46 rfl rfl (by decide) (by simp [Tryd.ntmps46]) ?_;rw [Tryd.ntmps46]
 repeat' (first|omega|(try apply yaa);simp only [go_sem,sevalprocAttr]|apply yab<;>(intro h_;(try simp only [h_]);revert h_)|apply And.intro|with_reducible intro h_|trivial|simp only [go_sem,la2];omega)
 refine ⟨yae.fn rfl hw ?_⟩
 repeat' (first|omega|(try apply yaa);simp only [go_sem,sevalprocAttr]|apply yab<;>(intro h_;(try simp only [h_]);revert h_)|apply And.intro|with_reducible intro h_|trivial|simp only [go_sem,la2];omega)
 refine ⟨yae.frz [1] rfl (by simp only [go_sem,sevalprocAttr]) (by simp only [go_sem,sevalprocAttr]) (by simp only [go_sem,sevalprocAttr]) (by simp only [go_sem,sevalprocAttr]) rfl rfl rfl (yae.fn rfl hm ?_)⟩
 repeat' (first|omega|(try apply yaa);simp only [go_sem,sevalprocAttr]|apply yab<;>(intro h_;(try simp only [h_]);revert h_)|apply And.intro|with_reducible intro h_|trivial|simp only [go_sem,la2];omega)
end Go.Proofs.YtjpnnnognoaaiaaDoor
