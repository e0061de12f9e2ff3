/- Layer 8: triangle. -/
import Derived.Test.YthohfoombimbeaaGreatDoorZj
namespace Go.Proofs.YthohfoombimbeaaGreatDoor
open Go Go.RowKit
set_option maxRecDepth 99999
set_option maxHeartbeats 8000000
set_option linter.unusedVariables false
set_option linter.unusedSimpArgs false
def gT(s m:List Int)(x:Nat):Nat:=if aB s (x:Int) then x else Sp.ae m x
abbrev Vu(a b c:Int×Int×Int×Int):AV:= .agg [I a.1,I a.2.1,I a.2.2.1,I a.2.2.2,I b.1,I b.2.1,I b.2.2.1,I b.2.2.2,I c.1,I c.2.1,I c.2.2.1,I c.2.2.2]
def vv(m:List Int)(o:Nat):Int×Int×Int×Int:=((Sp.af o:Nat),o,(Sp.ae m o:Nat),(Sp.af (Sp.ae m o):Nat))
abbrev psL(m:List Int)(o:Nat):List AV:=[I (Sp.af o:Nat),I o,I (Sp.ae m o:Nat),I (Sp.af (Sp.ae m o):Nat)]
abbrev xJ:List AV:=[I 0,I 0,I 0,I 0]
def uW(a b c:List AV):Nat->List AV
 |0=>xJ++(xJ++xJ)
 |1=>a++(xJ++xJ)
 |2=>a++(b++xJ)
 |_=>a++(b++c)
theorem YT(s m:List Int)(L:Int)(h:Nat)(hv:bG s m L=true)(hh:h<4*s.length):
  ∃(a b c:Int×Int×Int×Int) (ok:Bool),Fn Tryz.prog 56 [dgA s m L,I h] (.tup [Vu a b c,.bool ok])/\(ok=true->∃i j:Nat,Sp.ai (Sp.ae m h)=i/\Sp.ai (Sp.ae m i)=j/\Sp.ai (Sp.ae m j)=h/\h/4≠i/4/\i/4≠j/4/\h/4≠j/4/\ ¬(h % 2=i % 2/\i % 2=j % 2)/\
   a=vv m (gT s m h)/\b=vv m (gT s m i)/\c=vv m (gT s m j)):=by
 have v1:=gP hv;have fM:=v1.s64;have dw:=v1.len;have hd:=(Sp.aE hv).1;have ha:=hd.aW;obtain⟨i,hi⟩:∃i,Sp.ai (Sp.ae m h)=i:=⟨_,rfl⟩;obtain⟨j,hj⟩:∃j,Sp.ai (Sp.ae m i)=j:=⟨_,rfl⟩;obtain⟨z,hz⟩:∃z,Sp.ai (Sp.ae m j)=z:=⟨_,rfl⟩;have li:i<4*s.length:=by rw[<-hi];exact CK (ha.lt _ hh)
 have lj:j<4*s.length:=by rw[<-hj];exact CK (ha.lt _ li)
 have Gj:=ER hd fM hh;have BN:=ER hd fM li;have hn3:=ER hd fM lj;rw[hi]at Gj;rw[hj]at BN;rw[hz]at hn3;have e1:(h:Int).tdiv 4=((h/4:Nat):Int):=by rw[u9 (by omega)];omega
 have e2:(i:Int).tdiv 4=((i/4:Nat):Int):=by rw[u9 (by omega)];omega
 have e3:(j:Int).tdiv 4=((j/4:Nat):Int):=by rw[u9 (by omega)];omega
 by_cases c1:z=h
 case neg=>
  have b1:((z:Int)!=(h:Int))=true:=by simp;omega
  refine⟨(0,0,0,0),(0,0,0,0),(0,0,0,0),false,?_,fun h=>by cases h⟩;refine Fn.av [.cell 4 99,.tmp 5] Tryz.func56 rfl rfl (by decide) (by simp[Tryz.ntmps56]) ?_;rw[Tryz.ntmps56]
  repeat' (first|omega|(try apply ah);simp only[go_sem,b1]|refine az ?_|refine aA ?_|apply ag<;>(intro h_;(try simp only[h_]);revert h_)|apply zO|with_reducible intro h_|trivial)
  all_goals exact aT.refl _
 have b1:((z:Int)!=(h:Int))=false:=by simp;omega
 by_cases c2:h/4=i/4
 ·have b2:(((h/4:Nat):Int)==((i/4:Nat):Int))=true:=by simp;omega
  refine⟨(0,0,0,0),(0,0,0,0),(0,0,0,0),false,?_,fun h=>by cases h⟩;refine Fn.av [.cell 4 99,.tmp 5] Tryz.func56 rfl rfl (by decide) (by simp[Tryz.ntmps56]) ?_;rw[Tryz.ntmps56]
  repeat' (first|omega|(try apply ah);simp only[go_sem,b1,e1,e2,e3,b2]|refine az ?_|refine aA ?_|apply ag<;>(intro h_;(try simp only[h_]);revert h_)|apply zO|with_reducible intro h_|trivial)
  all_goals exact aT.refl _
 have b2:(((h/4:Nat):Int)==((i/4:Nat):Int))=false:=by simp;omega
 by_cases c3:i/4=j/4
 ·have b3:(((i/4:Nat):Int)==((j/4:Nat):Int))=true:=by simp;omega
  refine⟨(0,0,0,0),(0,0,0,0),(0,0,0,0),false,?_,fun h=>by cases h⟩;refine Fn.av [.cell 4 99,.tmp 5] Tryz.func56 rfl rfl (by decide) (by simp[Tryz.ntmps56]) ?_;rw[Tryz.ntmps56]
  repeat' (first|omega|(try apply ah);simp only[go_sem,b1,e1,e2,e3,b2,b3]|refine az ?_|refine aA ?_|apply ag<;>(intro h_;(try simp only[h_]);revert h_)|apply zO|with_reducible intro h_|trivial)
  all_goals exact aT.refl _
 have b3:(((i/4:Nat):Int)==((j/4:Nat):Int))=false:=by simp;omega
 by_cases c4:h/4=j/4
 ·have b4:(((h/4:Nat):Int)==((j/4:Nat):Int))=true:=by simp;omega
  refine⟨(0,0,0,0),(0,0,0,0),(0,0,0,0),false,?_,fun h=>by cases h⟩;refine Fn.av [.cell 4 99,.tmp 5] Tryz.func56 rfl rfl (by decide) (by simp[Tryz.ntmps56]) ?_;rw[Tryz.ntmps56]
  repeat' (first|omega|(try apply ah);simp only[go_sem,b1,e1,e2,e3,b2,b3,b4]|refine az ?_|refine aA ?_|apply ag<;>(intro h_;(try simp only[h_]);revert h_)|apply zO|with_reducible intro h_|trivial)
  all_goals exact aT.refl _
 have b4:(((h/4:Nat):Int)==((j/4:Nat):Int))=false:=by simp;omega
 let ov:Nat->Nat:=fun x=>if gT s m x % 2=1/\Sp.ae m (gT s m x)% 2=1 then 1 else 0
 let un:Nat->Nat:=fun x=>if gT s m x % 2=0/\Sp.ae m (gT s m x)% 2=0 then 1 else 0
 have OY:∀x,ov x<=1/\un x<=1:=fun x=>by
  show (if _ then 1 else 0)<=1/\(if _ then 1 else 0)<=1;constructor<;>split<;>omega
 have Gh:ov h+ov i+ov j=1->¬(h % 2=i % 2/\i % 2=j % 2):=fun e ⟨p1,p2⟩=>by
  have key:∀x y,x<4*s.length->Sp.ai (Sp.ae m x)=y->x % 2=y % 2->ov x=0:=fun x y hx mu hp=>by
   have h1:Sp.ae m x % 2≠x % 2:=by rw[hp,<-mu];unfold Sp.ai;omega
   show (if gT s m x % 2=1/\Sp.ae m (gT s m x)% 2=1 then 1 else 0)=0;unfold gT;rw[zL]
   split
   ·omega
   ·rw[ha.inv x hx];omega
  have k1:=key h i hh hi p1;have k2:=key i j li hj p2;have k3:=key j h lj (by rw[hz,c1]) (by omega);omega
 let ti:(Nat->Nat)->Nat->Nat:=fun f k=>(if 0<k then f h else 0)+(if 1<k then f i else 0)+(if 2<k then f j else 0)
 refine⟨vv m (gT s m h),vv m (gT s m i),vv m (gT s m j),(((ti ov 3:Nat):Int)==1)&&(((ti un 3:Nat):Int)==1),?_,fun dt=>⟨i,j,hi,hj,by rw[hz,c1],c2,c3,c4,Gh ?_,rfl,rfl,rfl⟩⟩
 rotate_left 1
 ·simp only[zV,beq_iff_eq]at dt
  have:=dt.1
  show ov h+ov i+ov j=1;have e:ti ov 3=ov h+ov i+ov j:=rfl;omega
 have ar:∀k,k<3->∃x:Nat,x<4*s.length/\([I h,I i,I j]:List AV)[k]?=some (I x)/\ti ov (k+1)=ti ov k+ov x/\ti un (k+1)=ti un k+un x/\(k=0/\x=h\/k=1/\x=i\/k=2/\x=j):=fun k hk=>by
  rcases (show k=0\/k=1\/k=2 by omega) with rfl|rfl|rfl
  ·exact⟨h,hh,rfl,by show ov h+0+0=0+0+0+ov h;omega,by show un h+0+0=0+0+0+un h;omega,.inl ⟨rfl,rfl⟩⟩
  ·exact⟨i,li,rfl,by show ov h+ov i+0=ov h+0+0+ov i;omega,by show un h+un i+0=un h+0+0+un i;omega,.inr (.inl ⟨rfl,rfl⟩)⟩
  ·exact⟨j,lj,rfl,by show ov h+ov i+ov j=ov h+ov i+0+ov j;omega,by show un h+un i+un j=un h+un i+0+un j;omega,.inr (.inr ⟨rfl,rfl⟩)⟩
 have GL:∀k,ti ov k<=3/\ti un k<=3:=fun k=>by
  have h1:=OY h;have h2:=OY i;have h3:=OY j;show (if 0<k then ov h else 0)+(if 1<k then ov i else 0)+(if 2<k then ov j else 0)<=3/\(if 0<k then un h else 0)+(if 1<k then un i else 0)+(if 2<k then un j else 0)<=3
  (repeat' split)<;>omega
 have rA:ti ov 0=0/\ti un 0=0:=⟨rfl,rfl⟩;have OX:∀x,ov x=if gT s m x % 2=1/\Sp.ae m (gT s m x)% 2=1 then 1 else 0:=fun _=>rfl;have OA:∀x,un x=if gT s m x % 2=0/\Sp.ae m (gT s m x)% 2=0 then 1 else 0:=fun _=>rfl;clear Gh;generalize ov=ov' at*;generalize un=un' at*;generalize qU:ti ov'=cv at*;generalize GK:ti un'=cu at*
 obtain⟨f0,DN⟩:∃f:Nat->Int,∀x,f x=((Sp.af (gT s m x):Nat):Int):=⟨_,fun _=>rfl⟩;obtain⟨f1,uP⟩:∃f:Nat->Int,∀x,f x=((gT s m x:Nat):Int):=⟨_,fun _=>rfl⟩;obtain⟨f2,yI⟩:∃f:Nat->Int,∀x,f x=((Sp.ae m (gT s m x):Nat):Int):=⟨_,fun _=>rfl⟩;obtain⟨f3,Ke⟩:∃f:Nat->Int,∀x,f x=((Sp.af (Sp.ae m (gT s m x)):Nat):Int):=⟨_,fun _=>rfl⟩
 have hps:∀x,psL m (gT s m x)=[I (f0 x),I (f1 x),I (f2 x),I (f3 x)]:=fun x=>by rw[DN,uP,yI,Ke]
 have Ge:Vu (vv m (gT s m h)) (vv m (gT s m i)) (vv m (gT s m j))= .agg [I (f0 h),I (f1 h),I (f2 h),I (f3 h),I (f0 i),I (f1 i),I (f2 i),I (f3 i),I (f0 j),I (f1 j),I (f2 j),I (f3 j)]:=by
  simp only[vv,DN,uP,yI,Ke]
 rw[Ge];refine Fn.av [.cell 4 99,.tmp 5] Tryz.func56 rfl rfl (by decide) (by simp[Tryz.ntmps56]) ?_;rw[Tryz.ntmps56]
 repeat' (first|omega|(try apply ah);simp only[go_sem,b1,e1,e2,e3,b2,b3,b4]|refine az ?_|refine aA ?_|apply ag<;>(intro h_;(try simp only[h_]);revert h_)|apply zO|with_reducible intro h_|trivial)
 refine rF.wT (a:=h) (b:=i) (c:=j) (e:=3) rfl rfl (by simp only[go_sem]) (by simp only[go_sem]) (by simp only[go_sem]) rfl rfl rfl ?_
 repeat' (first|omega|(try apply ah);simp only[go_sem]|apply ag<;>(intro h_;(try simp only[h_]);revert h_)|apply zO|with_reducible intro h_|trivial)
 refine dr.intro (fun n fr H=>∃k:Nat,k<=3/\n=3-k/\fr=[(54,I k),(53,.agg [I h,I i,I j]),(10,I (cu k)),(9,I (cv k)),(6,.ptr 2 0),(5,.bool false),(4,.ptr 1 0),(2,.ptr 0 0)]/\H=[(2,.cells 99 (.lst (uW [I (f0 h),I (f1 h),I (f2 h),I (f3 h)] [I (f0 i),I (f1 i),I (f2 i),I (f3 i)] [I (f0 j),I (f1 j),I (f2 j),I (f3 j)] k))),(1,.cells 99 (.lst (xJ++(xJ++xJ)))),(0,.cells 24 (.lst [roI s,roI m,I L]))]) ?_ ?_
 ·refine⟨_,_,_,?_,0,by omega,rfl,rfl,rfl⟩;rw[rA.1,rA.2];refine Wk.sub ?_ ?_<;>(simp only[go_sem,uW])
  all_goals rfl
 rintro n fr H ⟨k,hk,rfl,rfl,rfl⟩;by_cases hk3:k<3
 ·have bk:decide ((k:Int)<3)=true:=by rw[decide_eq_true_iff];omega
  obtain⟨x,lx,hx,KE,KD,Kb⟩:=ar k hk3;have hO:=Eo s m L x (by omega) (by omega);have lax:=ha.lt _ lx;have cx:=hd.cast lx;have Xr:=hd.cast lax;have JP:=ha.inv _ lx;rw[JP]at Xr;obtain⟨o,ho⟩:∃o,gT s m x=o:=⟨_,rfl⟩;have O5:o=x/\aB s (x:Int)=true\/o=Sp.ae m x/\aB s (x:Int)=false:=by
   rw[<-ho];unfold gT;cases aB s (x:Int)
   ·exact .inr ⟨rfl,rfl⟩
   ·exact .inl ⟨rfl,rfl⟩
  have hq:=OX x;have hr:=OA x;rw[ho]at hq hr;have lo:o<4*s.length:=by rcases O5 with ⟨e,_⟩|⟨e,_⟩<;>rw[e]<;>assumption
  have wb:=(hd.cast lo).symm;have lao:=ha.lt _ lo;have iS:(x=o/\m.getD o 0=(Sp.ae m o:Nat)/\aB s (x:Int)=true)\/(x=Sp.ae m o/\m.getD (Sp.ae m o) 0=(o:Int)/\aB s (x:Int)=false):=by
   rcases O5 with ⟨e,e2⟩|⟨e,e2⟩
   ·exact .inl ⟨e.symm,wb,e2⟩
   ·refine .inr ⟨by rw[e,JP],?_,e2⟩;rw[e,JP,<-cx]
  have dM:=zp o (by omega) (by omega);have ow:=zp (Sp.ae m o:Nat) (by omega) (by omega);rw[Sp.oP]at dM ow;have g0:=DN x;have g1:=uP x;have g2:=yI x;have g3:=Ke x;rw[ho]at g0 g1 g2 g3;clear O5 cx Xr JP lax DN uP yI Ke hps qU GK ti;generalize Sp.ae m o=q at*;have KC:(o:Int).tmod 2=((o % 2:Nat):Int):=by rw[Int.tmod_eq_emod_of_nonneg (by omega)];rfl
  have uf:(q:Int).tmod 2=((q % 2:Nat):Int):=by rw[Int.tmod_eq_emod_of_nonneg (by omega)];rfl
  generalize Sp.af o=po at*;generalize Sp.af q=pq at*;have hb:=GL k;generalize hku:cv k=u at*;generalize hkv:cu k=v at*;obtain⟨k',Az⟩:∃k',k'=k+1:=⟨_,rfl⟩;by_cases p1:o % 2=1
  ·have n1:(((o % 2:Nat):Int)==1)=true:=by simp;omega
   have n2:(((o % 2:Nat):Int)==0)=false:=by simp;omega
   rw[zL (by omega)]at hr;by_cases p2:q % 2=1
   ·have n3:(((q % 2:Nat):Int)==1)=true:=by simp;omega
    have n4:(((q % 2:Nat):Int)==0)=false:=by simp;omega
    rw[zM ⟨p1,p2⟩]at hq;rcases Kb with ⟨rfl,kf⟩|⟨rfl,kf⟩|⟨rfl,kf⟩<;>rcases iS with ⟨rY,uL,dV⟩|⟨rY,uL,dV⟩
    all_goals
     rw[dV]at hO;subst kf;subst rY
     repeat' (first|omega|(try apply ah);simp only[go_sem,bk,hx,wb,uL,KC,uf,n1,n2,n3,n4,uW]|refine az ?_|refine aA ?_|apply ag<;>(intro h_;(try simp only[h_]);revert h_)|apply zO|with_reducible intro h_|trivial)
     refine⟨_,_,_,?_,?_,⟨k',by omega,rfl,rfl,rfl⟩⟩
     ·omega
     ·rw[Az,KE,KD,hq,hr];refine Wk.sub ?_ ?_<;>(simp only[go_sem,uW,g0,g1,g2,g3])
      all_goals first|rfl|(constructor<;>rfl)|skip
   ·have n3:(((q % 2:Nat):Int)==1)=false:=by simp;omega
    have n4:(((q % 2:Nat):Int)==0)=true:=by simp;omega
    rw[zL (by omega)]at hq;rcases Kb with ⟨rfl,kf⟩|⟨rfl,kf⟩|⟨rfl,kf⟩<;>rcases iS with ⟨rY,uL,dV⟩|⟨rY,uL,dV⟩
    all_goals
     rw[dV]at hO;subst kf;subst rY
     repeat' (first|omega|(try apply ah);simp only[go_sem,bk,hx,wb,uL,KC,uf,n1,n2,n3,n4,uW]|refine az ?_|refine aA ?_|apply ag<;>(intro h_;(try simp only[h_]);revert h_)|apply zO|with_reducible intro h_|trivial)
     refine⟨_,_,_,?_,?_,⟨k',by omega,rfl,rfl,rfl⟩⟩
     ·omega
     ·rw[Az,KE,KD,hq,hr];refine Wk.sub ?_ ?_<;>(simp only[go_sem,uW,g0,g1,g2,g3])
      all_goals first|rfl|(constructor<;>rfl)|skip
  ·have n1:(((o % 2:Nat):Int)==1)=false:=by simp;omega
   have n2:(((o % 2:Nat):Int)==0)=true:=by simp;omega
   rw[zL (by omega)]at hq;by_cases p2:q % 2=1
   ·have n3:(((q % 2:Nat):Int)==1)=true:=by simp;omega
    have n4:(((q % 2:Nat):Int)==0)=false:=by simp;omega
    rw[zL (by omega)]at hr;rcases Kb with ⟨rfl,kf⟩|⟨rfl,kf⟩|⟨rfl,kf⟩<;>rcases iS with ⟨rY,uL,dV⟩|⟨rY,uL,dV⟩
    all_goals
     rw[dV]at hO;subst kf;subst rY
     repeat' (first|omega|(try apply ah);simp only[go_sem,bk,hx,wb,uL,KC,uf,n1,n2,n3,n4,uW]|refine az ?_|refine aA ?_|apply ag<;>(intro h_;(try simp only[h_]);revert h_)|apply zO|with_reducible intro h_|trivial)
     refine⟨_,_,_,?_,?_,⟨k',by omega,rfl,rfl,rfl⟩⟩
     ·omega
     ·rw[Az,KE,KD,hq,hr];refine Wk.sub ?_ ?_<;>(simp only[go_sem,uW,g0,g1,g2,g3])
      all_goals first|rfl|(constructor<;>rfl)|skip
   ·have n3:(((q % 2:Nat):Int)==1)=false:=by simp;omega
    have n4:(((q % 2:Nat):Int)==0)=true:=by simp;omega
    rw[zM ⟨by omega,by omega⟩]at hr;rcases Kb with ⟨rfl,kf⟩|⟨rfl,kf⟩|⟨rfl,kf⟩<;>rcases iS with ⟨rY,uL,dV⟩|⟨rY,uL,dV⟩
    all_goals
     rw[dV]at hO;subst kf;subst rY
     repeat' (first|omega|(try apply ah);simp only[go_sem,bk,hx,wb,uL,KC,uf,n1,n2,n3,n4,uW]|refine az ?_|refine aA ?_|apply ag<;>(intro h_;(try simp only[h_]);revert h_)|apply zO|with_reducible intro h_|trivial)
     refine⟨_,_,_,?_,?_,⟨k',by omega,rfl,rfl,rfl⟩⟩
     ·omega
     ·rw[Az,KE,KD,hq,hr];refine Wk.sub ?_ ?_<;>(simp only[go_sem,uW,g0,g1,g2,g3])
      all_goals first|rfl|(constructor<;>rfl)|skip
 ·obtain rfl:k=3:=by omega
  have bk:decide (((3:Nat):Int)<3)=false:=by decide
  by_cases d1:cv 3=1
  ·have b5:(((cv 3:Nat):Int)==1)=true:=by simp;omega
   rw[b5,Bool.true_and]
   repeat' (first|omega|(try apply ah);simp only[go_sem,bk,b5,uW]|refine az ?_|refine aA ?_|apply ag<;>(intro h_;(try simp only[h_]);revert h_)|apply zO|with_reducible intro h_|trivial)
   all_goals exact aT.refl _
  ·have b5:(((cv 3:Nat):Int)==1)=false:=by simp;omega
   rw[b5,Bool.false_and]
   repeat' (first|omega|(try apply ah);simp only[go_sem,bk,b5,uW]|refine az ?_|refine aA ?_|apply ag<;>(intro h_;(try simp only[h_]);revert h_)|apply zO|with_reducible intro h_|trivial)
   all_goals exact aT.refl _
end Go.Proofs.YthohfoombimbeaaGreatDoor
