/- Layer 15: the circles of a state, by parents. -/
import Derived.Test.YthohfoombimbeaaGreatDoorZd
set_option linter.unusedSimpArgs false
set_option linter.unusedVariables false
namespace Go.Proofs.YthohfoombimbeaaGreatDoor
open Go Go.RowKit
set_option maxRecDepth 99999
set_option maxHeartbeats 8000000
def QH:fc:=[(2,[[11,12,13,14,15,16,17,18],[10,12,13,14,15,16,17,18],[10,11,13,14,15,16],[10,11,12,14],[10,11,12,13],[10,11,12],[10,11,12],[10,11],[10,11],[],[]],[[],[0],[0,1],[0,1,2],[0,1,2,3],[0,1,2],[0,1,2],[0,1],[0,1],[],[]])]
def H8:wV:=[(0,.node [(0,.node [(1,.node [(2,.node [(3,trD [4,5,6,7]),(4,trD [3,5,6,7])]),(3,.node [(2,trD [4,5,6,7]),(4,trD [2,5,6,7])]),(4,.node [(2,trD [3,5,6,7]),(3,trD [2,5,6,7])])]),(3,.node [(1,.node [(2,trD [4,5,6,7]),(4,trD [2,5,6,7])]),(4,trD [1,2,5,6,7])]),(4,.node [(1,.node [(2,trD [3,5,6,7]),(3,trD [2,5,6,7])]),(3,trD [1,2,5,6,7])])]),(1,.node [(0,.node [(2,.node [(3,trD [4,5,6,7]),(4,trD [3,5,6,7])]),(3,.node [(2,trD [4,5,6,7]),(4,trD [2,5,6,7])]),(4,.node [(2,trD [3,5,6,7]),(3,trD [2,5,6,7])])]),(3,.node [(0,.node [(2,trD [4,5,6,7]),(4,trD [2,5,6,7])]),(4,trD [0,2,5,6,7])]),(4,.node [(0,.node [(2,trD [3,5,6,7]),(3,trD [2,5,6,7])]),(3,trD [0,2,5,6,7])])]),(3,.node [(0,.node [(1,.node [(2,trD [4,5,6,7]),(4,trD [2,5,6,7])]),(4,trD [1,2,5,6,7])]),(1,.node [(0,.node [(2,trD [4,5,6,7]),(4,trD [2,5,6,7])]),(4,trD [0,2,5,6,7])]),(4,.node [(0,trD [1,2,5,6,7]),(1,trD [0,2,5,6,7])])]),(4,.node [(0,.node [(1,.node [(2,trD [3,5,6,7]),(3,trD [2,5,6,7])]),(3,trD [1,2,5,6,7])]),(1,.node [(0,.node [(2,trD [3,5,6,7]),(3,trD [2,5,6,7])]),(3,trD [0,2,5,6,7])]),(3,.node [(0,trD [1,2,5,6,7]),(1,trD [0,2,5,6,7])])])])]
def H7:fc:=[(0,[[8,10,11],[7,10,11],[10,11],[7,8,9,11],[7,8,9,10],[],[],[]],[[],[0],[],[0,1,2],[0,1,2,3],[],[],[]])]
theorem yuz:∀fr:Fr,unl (lft fr)=fr
 |[]=>rfl
 |(s,x)::r=>by simp[lft,unl,yuz r]
attribute [go_sem] yuz
theorem Wk.low{F G:Fr}{H:Hp}(h1:∀t,t<1000000->fget G t= .any\/fget G t=fget F t)(h2:∀t,1000000<=t->fget G t=fget F t):Wk F H G H:=by
 intro B w0 Mx N w ρ a hs;refine⟨ρ,hs.below,hs.hB,hs.mx,hs.own,hs.objs,hs.inj,fun t=>?_,hs.defers,hs.size⟩
 have:=hs.frv t
 rcases zY t 1000000 with h|h
 ·rcases h1 t h with e|e
  ·rw[e];exact .any _
  ·rw[e];exact this
 ·rw[h2 t h];exact this
theorem Wk.FE{F fr:Fr}{H:Hp}{x y:AV}(h0:fget F 0=x)(h1:fget F 1=y)(h2:∀t,1000000<=t->fget F t=fget (lft fr) t):Wk F H ((0,x)::(1,y)::lft fr) H:=by
 refine Wk.low (fun t ht=>?_) (fun t ht=>?_)
 ·by_cases e0:t=0
  ·subst e0;right;simp[fget,h0]
  ·by_cases e1:t=1
   ·subst e1;right;simp[fget,h1]
   ·left;simp only[fget];rw[zL (by omega),zL (by omega),CW,zL (by omega)]
 ·simp only[fget];rw[zL (by omega),zL (by omega),h2 t ht]
abbrev Af(s m:List Int)(L:Int)(l:List Int)(c:Int):Hp:=[(4,.cells 60 (.lst [.fn 59 [.ptr 2 0]])),(3,.cells 3 (.lst [I c])),(2,.cells 22 (.lst [.sl 1 1 0 m.length])),(1,.cells 3 (.ints l)),(0,.cells 24 (.lst [roI s,roI m,I L]))]
theorem MR(s m:List Int)(L:Int)(l R:List Int)(c:Int)(hu:UF l R m.length)(h:Nat)(hh:h<m.length)(hm:m.length<=100000){fr:Fr}{K:AV->Fr->Hp->Prop}
  (hK:∀l',UF l' R m.length->(∀x,x<m.length->l.getD x 0=R.getD x 0->l'.getD x 0=R.getD x 0)->K (I (R.getD h 0)) fr (Af s m L l' c)):
  jy Tryz.prog 59 [I h,.ptr 2 0] fr (Af s m L l c) K:=by
 obtain⟨rk,J1⟩:=hu.rank;refine jy.intro [.tmp 3] Tryz.func59 rfl rfl (by decide) (by simp[Tryz.ntmps59]) ?_;rw[Tryz.ntmps59]
 repeat' (first|omega|(try apply ah);simp only[go_sem]|apply ag<;>(intro h_;(try simp only[h_]);revert h_)|apply zO|with_reducible intro h_|trivial)
 refine dr.intro (fun n fr' H=>∃(l':List Int) (x:Nat),UF l' R m.length/\(∀x:Nat,x<m.length->l'.getD x 0≠x->rk (l'.getD x 0).toNat<rk x)/\x<m.length/\R.getD x 0=R.getD h 0/\(∀x,x<m.length->l.getD x 0=R.getD x 0->l'.getD x 0=R.getD x 0)/\n=rk x/\fr'=(0,I x)::(1,.ptr 2 0)::lft fr/\H=Af s m L l' c) ?_ ?_
 ·refine⟨_,_,_,?_,l,h,hu,J1,hh,rfl,fun _ _ e=>e,rfl,rfl,rfl⟩;refine Wk.FE rfl rfl (fun t ht=>?_);simp only[fget]
  repeat rw[zL (by omega)]
 rintro n fr' H ⟨l',x,uI,ik,hx,W0,hd,rfl,rfl,rfl⟩;have hl:=uI.len;have r1:=uI.fP x hx;have r2:=uI.fP (l'.getD x 0).toNat (by omega);by_cases e:l'.getD x 0=x
 ·have b0:(l'.getD x 0 !=(x:Int))=false:=by rw[e];simp
  have hRr:R.getD h 0=x:=by rw[<-W0];exact(uI.root x hx).1 e
  rw[hRr]at hK
  repeat' (first|omega|(first|apply ah|refine aw QH ?_|skip);simp only[go_sem,b0]|apply ag<;>(intro h_;(try simp only[h_]);revert h_)|apply zO|with_reducible intro h_|trivial)
  all_goals exact hK l' uI hd
 ·have b0:(l'.getD x 0 !=(x:Int))=true:=by simpa [bne] using e
  have WI:=uI.half hx e;obtain⟨q1,q2,q3⟩:=uI.GP ik hx e;have Kn:=uI.same (l'.getD x 0).toNat (by omega);rw[uI.same x hx]at Kn;obtain⟨y,hy⟩:∃y:Nat,l'.getD (l'.getD x 0).toNat 0=y:=⟨(l'.getD (l'.getD x 0).toNat 0).toNat,by omega⟩;rw[hy]at WI q1 q2 q3 r2 Kn;rw[zD]at q2 Kn;have e3:(l'.set x (y:Int)).getD x 0=y:=rm (by omega)
  repeat' (first|omega|(first|apply ah|refine aw QH ?_|skip);simp only[go_sem,b0,e3,hy]|apply ag<;>(intro h_;(try simp only[h_]);revert h_)|apply zO|with_reducible intro h_|trivial)
  refine⟨_,_,_,q2,?_,l'.set x y,y,WI,q1,by omega,Kn.trans W0,fun z hz ez=>q3 z hz (hd z hz ez),rfl,rfl,rfl⟩;refine Wk.FE rfl rfl (fun t ht=>?_);simp only[fget]
  repeat rw[zL (by omega)]
theorem ET(s m:List Int)(L:Int)(l R:List Int)(c:Int)(hu:UF l R m.length)(hc:c=roots R)(g h:Nat)(hg:g<m.length)(hh:h<m.length)(hm:m.length<=100000){fr:Fr}{K:AV->Fr->Hp->Prop}
  (hK:∀l' r,UF l' (iL R g h) m.length->K r fr (Af s m L l' (roots (iL R g h)))):
  jy Tryz.prog 60 [I g,I h,.ptr 4 0,.ptr 2 0,.ptr 3 0] fr (Af s m L l c) K:=by
 have g1:=hu.rep.fP g hg;have h1:=hu.rep.fP h hh;have nI:roots R<=m.length:=by
  have:=List.countP_le_length (p:=fun x=>R.getD x 0==(x:Int)) (l:=List.range R.length)
  rw[List.length_range]at this;have h2:=hu.rep.len;unfold roots;omega
 obtain⟨rg,J3⟩:∃rg:Nat,R.getD g 0=rg:=⟨(R.getD g 0).toNat,by omega⟩;obtain⟨rh,Ar⟩:∃rh:Nat,R.getD h 0=rh:=⟨(R.getD h 0).toNat,by omega⟩;refine jy.intro [] Tryz.func60 rfl rfl (by decide) (by simp[Tryz.ntmps60]) ?_;rw[Tryz.ntmps60]
 repeat' (first|omega|(first|apply ah|refine gH H8 ?_|refine aw H7 ?_|skip);simp only[go_sem,hc]|apply ag<;>(intro h_;(try simp only[h_]);revert h_)|apply zO|with_reducible intro h_|trivial)
 all_goals refine⟨aL.inline (MR s m L l R _ hu g hg hm ?_)⟩
 all_goals intro l1 kU dW
 all_goals (repeat' (first|omega|(first|apply ah|refine gH H8 ?_|refine aw H7 ?_|skip);simp only[go_sem,J3]|apply ag<;>(intro h_;(try simp only[h_]);revert h_)|apply zO|with_reducible intro h_|trivial))
 all_goals refine⟨aL.inline (MR s m L l1 R _ kU h hh hm ?_)⟩
 all_goals intro l2 ns im
 all_goals have Aw:=ns.len
 all_goals (
  by_cases e:R.getD g 0=R.getD h 0
  ·have ej:iL R g h=R:=by unfold iL;rw[zM e]
   rw[ej]at hK;have b0:((rg:Int)!=rh)=false:=by rw[<-J3,<-Ar,e];simp
   rw[Ar]
   repeat' (first|omega|(first|apply ah|refine gH H8 ?_|refine aw H7 ?_|skip);simp only[go_sem,b0]|apply ag<;>(intro h_;(try simp only[h_]);revert h_)|apply zO|with_reducible intro h_|trivial)
   all_goals exact hK _ _ ns
  ·have hj:=ns.join hg hh e;rw[J3,Ar,zD]at hj;have b0:((rg:Int)!=rh)=true:=by rw[<-J3,<-Ar];simpa [bne] using e
   have WS:=YF ns.rep hg hh e;have eG:(roots R:Int)-1=roots (iL R g h):=by omega
   rw[Ar]
   repeat' (first|omega|(first|apply ah|refine gH H8 ?_|refine aw H7 ?_|skip);simp only[go_sem,b0,eG]|apply ag<;>(intro h_;(try simp only[h_]);revert h_)|apply zO|with_reducible intro h_|trivial)
   all_goals exact hK _ _ hj)
end Go.Proofs.YthohfoombimbeaaGreatDoor
