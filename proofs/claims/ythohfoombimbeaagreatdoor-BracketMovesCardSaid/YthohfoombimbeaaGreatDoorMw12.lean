/- Layer 8: near, pokeable. -/
import Derived.Test.YthohfoombimbeaaGreatDoorZe
namespace Go.Proofs.YthohfoombimbeaaGreatDoor
open Go Go.RowKit
set_option maxRecDepth 99999
set_option maxHeartbeats 8000000
set_option linter.unusedVariables false
set_option linter.unusedSimpArgs false
def EB:fc:=[(1,[[9,12,13,14,15,16],[9,12,13,14,15,16],[7,8,12,13,14,15,16],[12,13,14,15,16],[12,13,14,15,16],[7,8,9,10,11,14],[7,8,9,10,11,14],[7,8,9,10,11,12,13],[7,8,9,10,11],[7,8,9,10,11],[],[],[21,22,25,26,27,28,29,30],[21,22,25,26,27,28,29,30],[19,20,25,26,27,28,29,30],[19,20,25,26,27,28,29,30],[25,26,27,28,29,30],[25,26,27,28,29,30],[19,20,21,22,23,24,27,28],[19,20,21,22,23,24,27,28],[19,20,21,22,23,24,25,26],[19,20,21,22,23,24,25,26],[19,20,21,22,23,24],[19,20,21,22,23,24],[],[],[],[37,40],[37,40],[37,40],[34,35,36,40],[40],[40],[34,35,36,37,38,39],[],[],[]],[[],[],[0,1],[],[],[0,1,2,3,4],[0,1,2,3,4],[0,1,2,3,4,5,6],[0,1,2,3,4],[0,1,2,3,4],[],[],[],[],[12,13],[12,13],[],[],[12,13,14,15,16,17],[12,13,14,15,16,17],[12,13,14,15,16,17,18,19],[12,13,14,15,16,17,18,19],[12,13,14,15,16,17],[12,13,14,15,16,17],[],[],[],[],[],[],[27,28,29],[],[],[27,28,29,30,31,32],[],[],[]])]
abbrev NQ(s m:List Int)(L:Int)(lf pt:List Int):AV:= .agg [roI s,roI m,I L,roI lf,roI pt]
def HB(m lf pt:List Int)(x y:Nat):Prop:=(lf.getD x 0=lf.getD y 0\/pt.getD (x/4) 0≠pt.getD (y/4) 0)/\m.getD x 0≠(y:Int)
theorem Z7(s m:List Int)(L:Int)(lf pt:List Int)(x y:Nat)(hs:s.length<=64)(hm:m.length=4*s.length)(hl:lf.length=m.length)(hp:pt.length=s.length)(hx:x<m.length)(hy:y<m.length):
  ∃b:Bool,Fn Tryz.prog 79 [NQ s m L lf pt,I x,I y] (.bool b)/\(b=true->HB m lf pt x y):=by
 have e1:(x:Int).tdiv 4=((x/4:Nat):Int):=by rw[u9 (by omega)];omega
 have e2:(y:Int).tdiv 4=((y/4:Nat):Int):=by rw[u9 (by omega)];omega
 have Wd:x/4<s.length:=by omega
 have hy4:y/4<s.length:=by omega
 by_cases c1:lf.getD x 0=lf.getD y 0
 ·have b1:(lf.getD x 0==lf.getD y 0)=true:=by rw[beq_iff_eq];exact c1
  by_cases c3:m.getD x 0=(y:Int)
  ·have b3:(m.getD x 0 !=(y:Int))=false:=by simp;exact c3
   refine⟨false,?_,fun h=>by cases h⟩;refine Fn.intro [.tmp 6] Tryz.func79 rfl rfl (by decide) (by simp[Tryz.ntmps79]) ?_;rw[Tryz.ntmps79]
   repeat' (first|omega|(first|apply ah|refine aw EB ?_|skip);simp only[go_sem,b1,b3]|apply ag<;>(intro h_;(try simp only[h_]);revert h_)|apply zO|with_reducible intro h_|trivial)
  ·have b3:(m.getD x 0 !=(y:Int))=true:=by simp;exact c3
   refine⟨true,?_,fun h=>⟨.inl c1,c3⟩⟩;refine Fn.intro [.tmp 6] Tryz.func79 rfl rfl (by decide) (by simp[Tryz.ntmps79]) ?_;rw[Tryz.ntmps79]
   repeat' (first|omega|(first|apply ah|refine aw EB ?_|skip);simp only[go_sem,b1,b3]|apply ag<;>(intro h_;(try simp only[h_]);revert h_)|apply zO|with_reducible intro h_|trivial)
 ·have b1:(lf.getD x 0==lf.getD y 0)=false:=by rw[zX];exact c1
  by_cases c2:pt.getD (x/4) 0=pt.getD (y/4) 0
  ·have b2:(pt.getD (x/4) 0 !=pt.getD (y/4) 0)=false:=by simp;exact c2
   refine⟨false,?_,fun h=>by cases h⟩;refine Fn.intro [.tmp 6] Tryz.func79 rfl rfl (by decide) (by simp[Tryz.ntmps79]) ?_;rw[Tryz.ntmps79]
   repeat' (first|omega|(first|apply ah|refine aw EB ?_|skip);simp only[go_sem,b1,e1,e2,b2]|apply ag<;>(intro h_;(try simp only[h_]);revert h_)|apply zO|with_reducible intro h_|trivial)
  ·have b2:(pt.getD (x/4) 0 !=pt.getD (y/4) 0)=true:=by simp;exact c2
   by_cases c3:m.getD x 0=(y:Int)
   ·have b3:(m.getD x 0 !=(y:Int))=false:=by simp;exact c3
    refine⟨false,?_,fun h=>by cases h⟩;refine Fn.intro [.tmp 6] Tryz.func79 rfl rfl (by decide) (by simp[Tryz.ntmps79]) ?_;rw[Tryz.ntmps79]
    repeat' (first|omega|(first|apply ah|refine aw EB ?_|skip);simp only[go_sem,b1,e1,e2,b2,b3]|apply ag<;>(intro h_;(try simp only[h_]);revert h_)|apply zO|with_reducible intro h_|trivial)
   ·have b3:(m.getD x 0 !=(y:Int))=true:=by simp;exact c3
    refine⟨true,?_,fun h=>⟨.inr c2,c3⟩⟩;refine Fn.intro [.tmp 6] Tryz.func79 rfl rfl (by decide) (by simp[Tryz.ntmps79]) ?_;rw[Tryz.ntmps79]
    repeat' (first|omega|(first|apply ah|refine aw EB ?_|skip);simp only[go_sem,b1,e1,e2,b2,b3]|apply ag<;>(intro h_;(try simp only[h_]);revert h_)|apply zO|with_reducible intro h_|trivial)
theorem YS(s m:List Int)(L:Int)(lf pt:List Int)(k x y g:Int)(ov:Bool)(hs:s.length<=64)(hm:m.length=4*s.length)(hl:lf.length=m.length)(hp:pt.length=s.length)(hx:x<m.length)(hy:y<m.length):
  ∃e:Int,Fn Tryz.prog 46 [NQ s m L lf pt,ei k x y g ov] (I e)/\(e=0->(if x<0 then 1 else 0)+(if y<0/\g=0 then 1 else 0)<=L/\s.length+2<=64/\(0<=x->0<=y->x≠y->HB m lf pt x.toNat y.toNat)):=by
 obtain⟨nd,hnd⟩:∃nd:Int,(if x<0 then 1 else 0)+(if y<0/\g=0 then 1 else 0)=nd:=⟨_,rfl⟩;rw[hnd];obtain⟨dx,sv⟩:∃d,decide (x<0)=d:=⟨_,rfl⟩;obtain⟨dy,su⟩:∃d,decide (y<0)=d:=⟨_,rfl⟩;obtain⟨dg,yJ⟩:∃d,(g==0)=d:=⟨_,rfl⟩;have jN:decide (0<=x)= !dx:=by rw[<-sv];by_cases h:x<0<;>simp[h]<;>omega
 have jM:decide (0<=y)= !dy:=by rw[<-su];by_cases h:y<0<;>simp[h]<;>omega
 have hn:nd=(if dx=true then 1 else 0)+(if (dy&&dg)=true then 1 else 0):=by
  rw[<-hnd,<-sv,<-su,<-yJ];simp
 obtain⟨d64,fM⟩:∃d,decide ((64:Int)<s.length+2)=d:=⟨_,rfl⟩;obtain⟨dl,nK⟩:∃d,decide (L<nd)=d:=⟨_,rfl⟩;have nr:x<0\/y<0\/x=y\/ ∃xn yn:Nat,x=xn/\y=yn/\x≠y/\xn<m.length/\yn<m.length:=by
  by_cases h1:x<0
  ·exact .inl h1
  ·by_cases h2:y<0
   ·exact .inr (.inl h2)
   ·by_cases h3:x=y
    ·exact .inr (.inr (.inl h3))
    ·exact .inr (.inr (.inr ⟨x.toNat,y.toNat,by omega,by omega,h3,by omega,by omega⟩))
 clear hnd;have vK:dx=true->x<0:=fun h=>by rw[h]at sv;exact of_decide_eq_true sv
 have V8:dy=true->y<0:=fun h=>by rw[h]at su;exact of_decide_eq_true su
 have kf:dx=false->¬x<0:=fun h=>by rw[h]at sv;exact of_decide_eq_false sv
 have xu:dy=false->¬y<0:=fun h=>by rw[h]at su;exact of_decide_eq_false su
 have Aw:dl=false->nd<=L:=fun h=>by rw[h]at nK;have:=of_decide_eq_false nK;omega
 have GZ:d64=false->s.length+2<=64:=fun h=>by rw[h]at fM;have:=of_decide_eq_false fM;omega
 cases dl with
 |true=>
  refine⟨6,?_,fun h=>by omega⟩;cases dx<;>cases dy<;>cases dg
  all_goals
   simp only[Bool.not_true,Bool.not_false,Bool.and_true,Bool.and_false,Bool.and_self,if_true,Bool.false_eq_true,if_false,Int.add_zero,Int.zero_add]at jN jM hn;subst hn
   try simp only[Int.reduceAdd]at nK
   refine Fn.intro [.tmp 4] Tryz.func46 rfl rfl (by decide) (by simp[Tryz.ntmps46]) ?_;rw[Tryz.ntmps46]
   repeat' (first|omega|(try apply ah);simp only[go_sem,sv,su,yJ,jN,jM,nK]|apply ag<;>(intro h_;(try simp only[h_]);revert h_)|apply zO|with_reducible intro h_|trivial)
 |false=>
  have hL:=Aw rfl;by_cases mu:x<0\/y<0\/x=y
  ·have cP:0<=x->0<=y->x≠y->HB m lf pt x.toNat y.toNat:=fun a b c=>by omega
   have Xt:dx=false->dy=false->(x !=y)=false:=fun a b=>by
    have:=kf a
    have:=xu b
    simp;omega
   cases d64 with
   |true=>
    refine⟨5,?_,fun h=>by omega⟩;cases dx<;>cases dy<;>cases dg
    all_goals
     simp only[Bool.not_true,Bool.not_false,Bool.and_true,Bool.and_false,Bool.and_self,if_true,Bool.false_eq_true,if_false,Int.add_zero,Int.zero_add]at jN jM hn;subst hn
     try simp only[Int.reduceAdd]at nK
     first
      |(have bq:=Xt rfl rfl
        refine Fn.intro [.tmp 4] Tryz.func46 rfl rfl (by decide) (by simp[Tryz.ntmps46]) ?_;rw[Tryz.ntmps46]
        repeat' (first|omega|(try apply ah);simp only[go_sem,sv,su,yJ,jN,jM,nK,bq,fM]|apply ag<;>(intro h_;(try simp only[h_]);revert h_)|apply zO|with_reducible intro h_|trivial)
        done)
      |(refine Fn.intro [.tmp 4] Tryz.func46 rfl rfl (by decide) (by simp[Tryz.ntmps46]) ?_;rw[Tryz.ntmps46]
        repeat' (first|omega|(try apply ah);simp only[go_sem,sv,su,yJ,jN,jM,nK,fM]|apply ag<;>(intro h_;(try simp only[h_]);revert h_)|apply zO|with_reducible intro h_|trivial))
   |false=>
    refine⟨0,?_,fun _=>⟨hL,GZ rfl,cP⟩⟩;cases dx<;>cases dy<;>cases dg
    all_goals
     simp only[Bool.not_true,Bool.not_false,Bool.and_true,Bool.and_false,Bool.and_self,if_true,Bool.false_eq_true,if_false,Int.add_zero,Int.zero_add]at jN jM hn;subst hn
     try simp only[Int.reduceAdd]at nK
     first
      |(have bq:=Xt rfl rfl
        refine Fn.intro [.tmp 4] Tryz.func46 rfl rfl (by decide) (by simp[Tryz.ntmps46]) ?_;rw[Tryz.ntmps46]
        repeat' (first|omega|(try apply ah);simp only[go_sem,sv,su,yJ,jN,jM,nK,bq,fM]|apply ag<;>(intro h_;(try simp only[h_]);revert h_)|apply zO|with_reducible intro h_|trivial)
        done)
      |(refine Fn.intro [.tmp 4] Tryz.func46 rfl rfl (by decide) (by simp[Tryz.ntmps46]) ?_;rw[Tryz.ntmps46]
        repeat' (first|omega|(try apply ah);simp only[go_sem,sv,su,yJ,jN,jM,nK,fM]|apply ag<;>(intro h_;(try simp only[h_]);revert h_)|apply zO|with_reducible intro h_|trivial))
  ·obtain⟨xn,yn,rfl,rfl,aJ,lx,ly⟩:∃xn yn:Nat,x=xn/\y=yn/\x≠y/\xn<m.length/\yn<m.length:=by
    rcases nr with h|h|h|h
    ·omega
    ·omega
    ·omega
    ·exact h
   have ex:dx=false:=by rw[<-sv];simp
   have ey:dy=false:=by rw[<-su];simp
   subst ex;subst ey;have bq:((xn:Int)!=(yn:Int))=true:=by simpa [bne] using aJ
   obtain⟨nb,hN,s5⟩:=Z7 s m L lf pt xn yn hs hm hl hp lx ly;cases nb with
   |false=>
    refine⟨6,?_,fun h=>by omega⟩;cases dg
    all_goals
     simp only[Bool.not_true,Bool.not_false,Bool.and_true,Bool.and_false,Bool.and_self,if_true,Bool.false_eq_true,if_false,Int.add_zero,Int.zero_add]at jN jM hn;subst hn
     try simp only[Int.reduceAdd]at nK
     refine Fn.intro [.tmp 4] Tryz.func46 rfl rfl (by decide) (by simp[Tryz.ntmps46]) ?_;rw[Tryz.ntmps46]
     repeat' (first|omega|(try apply ah);simp only[go_sem,sv,su,yJ,jN,jM,nK,bq]|refine az ?_|refine aA ?_|apply ag<;>(intro h_;(try simp only[h_]);revert h_)|apply zO|with_reducible intro h_|trivial)
   |true=>
    cases d64 with
    |true=>
     refine⟨5,?_,fun h=>by omega⟩;cases dg
     all_goals
      simp only[Bool.not_true,Bool.not_false,Bool.and_true,Bool.and_false,Bool.and_self,if_true,Bool.false_eq_true,if_false,Int.add_zero,Int.zero_add]at jN jM hn;subst hn
      try simp only[Int.reduceAdd]at nK
      refine Fn.intro [.tmp 4] Tryz.func46 rfl rfl (by decide) (by simp[Tryz.ntmps46]) ?_;rw[Tryz.ntmps46]
      repeat' (first|omega|(try apply ah);simp only[go_sem,sv,su,yJ,jN,jM,nK,bq,fM]|refine az ?_|refine aA ?_|apply ag<;>(intro h_;(try simp only[h_]);revert h_)|apply zO|with_reducible intro h_|trivial)
    |false=>
     refine⟨0,?_,fun _=>⟨hL,GZ rfl,fun _ _ _=>s5 rfl⟩⟩;cases dg
     all_goals
      simp only[Bool.not_true,Bool.not_false,Bool.and_true,Bool.and_false,Bool.and_self,if_true,Bool.false_eq_true,if_false,Int.add_zero,Int.zero_add]at jN jM hn;subst hn
      try simp only[Int.reduceAdd]at nK
      refine Fn.intro [.tmp 4] Tryz.func46 rfl rfl (by decide) (by simp[Tryz.ntmps46]) ?_;rw[Tryz.ntmps46]
      repeat' (first|omega|(try apply ah);simp only[go_sem,sv,su,yJ,jN,jM,nK,bq,fM]|refine az ?_|refine aA ?_|apply ag<;>(intro h_;(try simp only[h_]);revert h_)|apply zO|with_reducible intro h_|trivial)
end Go.Proofs.YthohfoombimbeaaGreatDoor
