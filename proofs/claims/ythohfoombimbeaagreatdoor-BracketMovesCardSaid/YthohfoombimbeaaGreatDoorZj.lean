/- Arrays of four integers. -/
import Derived.Test.YthohfoombimbeaaGreatDoorZi
set_option linter.unusedSimpArgs false
set_option linter.unusedVariables false
namespace Go.Proofs.YthohfoombimbeaaGreatDoor
open Go Go.RowKit
set_option maxRecDepth 99999
set_option maxHeartbeats 4000000
section
variable{P:Program}{N:Nat}{fr:Fr}{H:Hp}{o:Oper}
theorem Qp{α:Type}{a:Array α}(h:a.size=4):∃x0 x1 x2 x3,a= #[x0,x1,x2,x3]:=by
 obtain⟨l⟩:=a
 match l,h with
 |[x0,x1,x2,x3],_=>exact⟨x0,x1,x2,x3,rfl⟩
theorem rF.pC{ops:Array Oper}{rr:List Oper}{K:Fr->Hp->Prop}{t e:Nat}{x0 x1 x2 x3:Operand}{a b c d:Int}(ho:o.op= .build t #[(0,x0),(1,x1),(2,x2),(3,x3)])(hd:dok o.dst N=true)(fu:tk P t= .arr 4 e)(fJ:tsz P e=some 1)(hz:tze P t=some [I 0,I 0,I 0,I 0])
  (h0:evA fr x0=I a) (h1:evA fr x1=I b) (h2:evA fr x2=I c) (h3:evA fr x3=I d) (h:fO P N ops rr (fput fr o.dst (.agg [I a,I b,I c,I d])) H K):rF P N ops fr H K o rr:=by
 refine rF.VI ?_ ?_ ?_ ?_
 ·rw[ho];rfl
 ·rw[ho];simp only[quF,yhg,fu]
 ·rw[ho];rfl
 unfold sG;rw[ho];refine⟨rfl,fun B w0 Mx w ρ ac jG Q=>?_⟩;have e0:=(h0▸jG.ev x0).aq;have e1:=(h1▸jG.ev x1).aq;have e2:=(h2▸jG.ev x2).aq;have e3:=(h3▸jG.ev x3).aq;obtain⟨i,zv,i1,i2,i3⟩:=xT hz;obtain⟨z0,z1,z2,z3,tO⟩:=Qp (a:=zv.cells) (by have:=congrArg List.length i3;simpa using this)
 have aU:(execOp ac.eval o).run P w= .ok (.value (.agg #[.int .i64 a,.int .i64 b,.int .i64 c,.int .i64 d])) w:=by
  simp[execOp,ho,Instr.build,zeroValue,typeInfo,i1,i2,run_underlying (tC fu),km fJ,tO,Instr.fill,e0,e1,e2,e3,Rf]
 exact Oper.qh aU ⟨ρ,_,_,h,jG.put hd (VR.ints [a,b,c,d])⟩
end
set_option maxHeartbeats 8000000
theorem SI(P:Nat->Bool):∀N,∃K,K<=N/\(∀k,k<K->P k=false)/\(K<N->P K=true)
 |0=>⟨0,zA _,fun k hk=>by omega,fun h=>by omega⟩
 |N+1=>by
  obtain⟨K,h1,h2,h3⟩:=SI P N;by_cases e:K<N
  ·exact⟨K,by omega,h2,fun _=>h3 e⟩
  ·obtain rfl:K=N:=by omega
   cases h:P K with
   |true=>exact⟨K,by omega,h2,fun _=>h⟩
   |false=>exact⟨K+1,by omega,fun k hk=>by
    by_cases e2:k=K
    ·rw[e2];exact h
    ·exact h2 k (by omega),fun hk=>by omega⟩
theorem Rd(x:Nat):kH (x:Int) (-1)=(Sp.ai x:Nat):=by
 unfold kH Sp.ai;rw[show Int.tmod (-1) 4= -1 by decide];omega
theorem CK{x n:Nat}(h:x<4*n):Sp.ai x<4*n:=by unfold Sp.ai;omega
theorem ER{m:List Int}{n:Nat}(hd:Sp.bm m n)(hn:n<=64){h:Nat}(hh:h<4*n):Fn Tryz.prog 58 [roI m,I h] (I (Sp.ai (Sp.ae m h):Nat)):=by
 have hl:=hd.prd.ok.1;have h1:=hd.cast hh;have h2:=hd.aW.lt h hh
 have:=Sy m h (by omega) (by omega) (by omega) (by omega)
 rwa [<-h1,Rd]at this
def Ag(p1 p2 q1 q2:Nat):AV:= .agg [I p1,I p2,I (Sp.af p1:Nat),I (Sp.af p2:Nat),I (Sp.af q1:Nat),I q2,I q1,I (Sp.af q2:Nat)]
theorem y7t(s m:List Int)(L:Int)(x y:Nat)(hv:bG s m L=true)(mu:x<y)(hy:y<s.length):
  ∃(r:AV) (ok:Bool),Fn Tryz.prog 54 [dgA s m L,I x,I y] (.tup [r,.bool ok])/\(ok=true->∃p1 p2 q1 q2:Nat,Hs.gy m p1 p2 q1 q2/\((p1/4=x/\q1/4=y)\/(p1/4=y/\q1/4=x))/\p1<4*s.length/\(Sp.ai q1=q2/\Sp.ai p2=p1)/\r=Ag p1 p2 q1 q2)/\(ok=false->r= .agg [I 0,I 0,I 0,I 0,I 0,I 0,I 0,I 0]):=by
 have v1:=gP hv;have fM:=v1.s64;have dw:=v1.len;have hd:=(Sp.aE hv).1;let hk:Nat->Nat:=fun k=>if k<4 then 4*x+k else 4*y+(k-4)
 let ot:Nat->Nat:=fun k=>if k<4 then y else x
 let eZ:Nat->Bool:=fun k=>decide (Sp.ai (Sp.ae m (hk k))/4=ot k)&&(decide (Sp.ai (Sp.ae m (Sp.ai (Sp.ae m (hk k))))=hk k)&&decide (hk k % 2=Sp.ae m (hk k)% 2))
 obtain⟨K,hK8,B8,GU⟩:=SI eZ 8;obtain⟨r,hr⟩:∃r,r=if K<8 then Ag (hk K) (Sp.ae m (Sp.ai (Sp.ae m (hk K)))) (Sp.ae m (hk K)) (Sp.ai (Sp.ae m (hk K))) else .agg [I 0,I 0,I 0,I 0,I 0,I 0,I 0,I 0]:=⟨_,rfl⟩;have cX:∀k,k<8->hk k<4*s.length/\hk k/4≠ot k/\(hk k/4=x/\ot k=y\/hk k/4=y/\ot k=x):=fun k h=>by
  show (if k<4 then 4*x+k else 4*y+(k-4))<4*s.length/\(if k<4 then 4*x+k else 4*y+(k-4))/4≠(if k<4 then y else x)/\((if k<4 then 4*x+k else 4*y+(k-4))/4=x/\(if k<4 then y else x)=y\/(if k<4 then 4*x+k else 4*y+(k-4))/4=y/\(if k<4 then y else x)=x)
  split<;>omega
 refine⟨r,decide (K<8),?_,fun h=>?_,fun h=>by rw[hr,zL (by simpa using h)]⟩
 rotate_left 1
 ·have yG:K<8:=by simpa using h
  have hg:=GU yG;simp only[eZ,zV,decide_eq_true_eq]at hg;obtain⟨l1,l2,l3⟩:=cX K yG;have hL:=Hs.yj hv l1 hg.2.1 (by rw[hg.1];exact fun e=>l2 e.symm) hg.2.2;refine⟨_,_,_,_,hL,?_,l1,⟨rfl,hg.2.1⟩,by rw[hr,zM yG]⟩
  have:=hL.qq
  have h1:=hg.1;rcases l3 with ⟨e1,e2⟩|⟨e1,e2⟩
  ·left;omega
  ·right;omega
 refine Fn.av [.cell 6 93,.tmp 7] Tryz.func54 rfl rfl (by decide) (by simp[Tryz.ntmps54]) ?_;rw[Tryz.ntmps54]
 repeat' (first|omega|(try apply ah);simp only[go_sem]|apply ag<;>(intro h_;(try simp only[h_]);revert h_)|apply zO|with_reducible intro h_|trivial)
 refine dr.intro (fun n fr H=>∃k:Nat,k<=K/\n=8-k/\fr=[(15,I k),(7,.bool false),(6,.ptr 1 0),(3,.ptr 0 0),(1,I x),(2,I y)]/\H=[(1,.cells 93 (.lst [I 0,I 0,I 0,I 0,I 0,I 0,I 0,I 0])),(0,.cells 24 (.lst [roI s,roI m,I L]))]) ?_ ?_
 ·refine⟨_,_,_,?_,0,by omega,rfl,rfl,rfl⟩;refine Wk.sub ?_ ?_<;>simp only[go_sem]
 rintro n fr H ⟨k,hkK,rfl,rfl,rfl⟩;by_cases yG:k<8
 ·have bk:decide ((k:Int)<8)=true:=by rw[decide_eq_true_iff];omega
  have cP:eZ k=false->k+1<=K:=fun h=>by
   by_cases e:k=K
   ·subst e;rw[GU yG]at h;cases h
   ·omega
  have JR:eZ k=true->k=K:=fun h=>by
   by_cases e:k=K
   ·exact e
   ·rw[B8 k (by omega)]at h;cases h
  obtain⟨l1,l2,l3⟩:=cX k yG;have s7:eZ k=(decide (Sp.ai (Sp.ae m (hk k))/4=ot k)&&(decide (Sp.ai (Sp.ae m (Sp.ai (Sp.ae m (hk k))))=hk k)&&decide (hk k % 2=Sp.ae m (hk k)% 2))):=rfl;have J1:k=K->r=Ag (hk k) (Sp.ae m (Sp.ai (Sp.ae m (hk k)))) (Sp.ae m (hk k)) (Sp.ai (Sp.ae m (hk k))):=fun e=>by rw[hr,<-e,zM yG]
  have WH:hk k=if k<4 then 4*x+k else 4*y+(k-4):=rfl;have dt:ot k=if k<4 then y else x:=rfl;generalize hk k=h at*;generalize ot k=o at*;have hdec:decide (K<8)=decide (K<8):=rfl;clear hr cX;have Gj:=ER hd fM l1;have c1:=hd.cast l1;have m1:=hd.aW.lt h l1;generalize Sp.ae m h=mh at*;have g1:=CK m1;have BN:=ER hd fM g1;generalize Sp.ai mh=g at*;have c2:=hd.cast g1;have m2:=hd.aW.lt g g1
  have dM:=zp h (by omega) (by omega);have ow:=zp mh (by omega) (by omega);have OW:=zp g (by omega) (by omega);generalize Sp.ae m g=up at*;have hp4:=zp up (by omega) (by omega);rw[Sp.oP]at dM ow OW hp4;have eg:(g:Int).tdiv 4=((g/4:Nat):Int):=by rw[u9 (by omega)];omega
  have AN:(h:Int).tmod 2=((h % 2:Nat):Int):=by rw[Int.tmod_eq_emod_of_nonneg (by omega)];rfl
  have uf:(mh:Int).tmod 2=((mh % 2:Nat):Int):=by rw[Int.tmod_eq_emod_of_nonneg (by omega)];rfl
  have go:∀(b4:decide (4<=(k:Int))=decide (4<=k)),True:=fun _=>trivial;by_cases k4:k<4
  all_goals
   first
    |(rw[zM k4]at WH dt)
    |(rw[zL k4]at WH dt)
  ·have b4:decide (4<=(k:Int))=false:=decide_eq_false (by omega);have eh:4*(x:Int)+k=h:=by omega
   subst dt;by_cases e1:g/4=o
   ·have b1:(((g/4:Nat):Int)!=(o:Int))=false:=by simp;omega
    by_cases e2:Sp.ai up=h
    ·have b2:((Sp.ai up:Int)!=(h:Int))=false:=by simp;omega
     by_cases e3:h % 2=mh % 2
     ·have b3:(((h % 2:Nat):Int)!=((mh % 2:Nat):Int))=false:=by simp;omega
      obtain rfl:=JR (by rw[s7];simp[e1,e2,e3]);rw[J1 rfl,decide_eq_true yG];unfold Ag
      repeat' (first|omega|(try apply ah);simp only[go_sem,bk,b4,eh,<-c1,<-c2,eg,AN,uf,b1,b2,b3]|refine az ?_|refine aA ?_|apply ag<;>(intro h_;(try simp only[h_]);revert h_)|apply zO|with_reducible intro h_|trivial)
      refine rF.pC (a:=(h:Int)) (b:=(up:Int)) (c:=(Sp.af h:Nat)) (d:=(Sp.af up:Nat)) (e:=3) rfl rfl (by simp only[go_sem]) (by simp only[go_sem]) (by simp only[go_sem]) rfl rfl rfl rfl ?_
      repeat' (first|omega|(try apply ah);simp only[go_sem,bk]|refine az ?_|refine aA ?_|apply ag<;>(intro h_;(try simp only[h_]);revert h_)|apply zO|with_reducible intro h_|trivial)
      refine rF.pC (a:=(Sp.af mh:Nat)) (b:=(g:Int)) (c:=(mh:Int)) (d:=(Sp.af g:Nat)) (e:=3) rfl rfl (by simp only[go_sem]) (by simp only[go_sem]) (by simp only[go_sem]) rfl rfl rfl rfl ?_
      repeat' (first|omega|(try apply ah);simp only[go_sem,bk]|refine az ?_|refine aA ?_|apply ag<;>(intro h_;(try simp only[h_]);revert h_)|apply zO|with_reducible intro h_|trivial)
      all_goals exact aT.refl _
     ·have b3:(((h % 2:Nat):Int)!=((mh % 2:Nat):Int))=true:=by simp;omega
      repeat' (first|omega|(try apply ah);simp only[go_sem,bk,b4,eh,<-c1,<-c2,eg,AN,uf,b1,b2,b3]|refine az ?_|refine aA ?_|apply ag<;>(intro h_;(try simp only[h_]);revert h_)|apply zO|with_reducible intro h_|trivial)
      refine⟨_,_,_,?_,?_,⟨k+1,cP (by rw[s7];simp[e3]),rfl,rfl,rfl⟩⟩
      ·omega
      ·refine Wk.sub ?_ ?_<;>simp only[go_sem]
    ·have b2:((Sp.ai up:Int)!=(h:Int))=true:=by simp;omega
     repeat' (first|omega|(try apply ah);simp only[go_sem,bk,b4,eh,<-c1,<-c2,eg,AN,uf,b1,b2]|refine az ?_|refine aA ?_|apply ag<;>(intro h_;(try simp only[h_]);revert h_)|apply zO|with_reducible intro h_|trivial)
     refine⟨_,_,_,?_,?_,⟨k+1,cP (by rw[s7];simp[e2]),rfl,rfl,rfl⟩⟩
     ·omega
     ·refine Wk.sub ?_ ?_<;>simp only[go_sem]
   ·have b1:(((g/4:Nat):Int)!=(o:Int))=true:=by simp;omega
    repeat' (first|omega|(try apply ah);simp only[go_sem,bk,b4,eh,<-c1,<-c2,eg,AN,uf,b1]|refine az ?_|refine aA ?_|apply ag<;>(intro h_;(try simp only[h_]);revert h_)|apply zO|with_reducible intro h_|trivial)
    refine⟨_,_,_,?_,?_,⟨k+1,cP (by rw[s7];simp[e1]),rfl,rfl,rfl⟩⟩
    ·omega
    ·refine Wk.sub ?_ ?_<;>simp only[go_sem]
  ·have b4:decide (4<=(k:Int))=true:=decide_eq_true (by omega);have eh:4*(y:Int)+k-4=h:=by omega
   subst dt;by_cases e1:g/4=o
   ·have b1:(((g/4:Nat):Int)!=(o:Int))=false:=by simp;omega
    by_cases e2:Sp.ai up=h
    ·have b2:((Sp.ai up:Int)!=(h:Int))=false:=by simp;omega
     by_cases e3:h % 2=mh % 2
     ·have b3:(((h % 2:Nat):Int)!=((mh % 2:Nat):Int))=false:=by simp;omega
      obtain rfl:=JR (by rw[s7];simp[e1,e2,e3]);rw[J1 rfl,decide_eq_true yG];unfold Ag
      repeat' (first|omega|(try apply ah);simp only[go_sem,bk,b4,eh,<-c1,<-c2,eg,AN,uf,b1,b2,b3]|refine az ?_|refine aA ?_|apply ag<;>(intro h_;(try simp only[h_]);revert h_)|apply zO|with_reducible intro h_|trivial)
      refine rF.pC (a:=(h:Int)) (b:=(up:Int)) (c:=(Sp.af h:Nat)) (d:=(Sp.af up:Nat)) (e:=3) rfl rfl (by simp only[go_sem]) (by simp only[go_sem]) (by simp only[go_sem]) rfl rfl rfl rfl ?_
      repeat' (first|omega|(try apply ah);simp only[go_sem,bk]|refine az ?_|refine aA ?_|apply ag<;>(intro h_;(try simp only[h_]);revert h_)|apply zO|with_reducible intro h_|trivial)
      refine rF.pC (a:=(Sp.af mh:Nat)) (b:=(g:Int)) (c:=(mh:Int)) (d:=(Sp.af g:Nat)) (e:=3) rfl rfl (by simp only[go_sem]) (by simp only[go_sem]) (by simp only[go_sem]) rfl rfl rfl rfl ?_
      repeat' (first|omega|(try apply ah);simp only[go_sem,bk]|refine az ?_|refine aA ?_|apply ag<;>(intro h_;(try simp only[h_]);revert h_)|apply zO|with_reducible intro h_|trivial)
      all_goals exact aT.refl _
     ·have b3:(((h % 2:Nat):Int)!=((mh % 2:Nat):Int))=true:=by simp;omega
      repeat' (first|omega|(try apply ah);simp only[go_sem,bk,b4,eh,<-c1,<-c2,eg,AN,uf,b1,b2,b3]|refine az ?_|refine aA ?_|apply ag<;>(intro h_;(try simp only[h_]);revert h_)|apply zO|with_reducible intro h_|trivial)
      refine⟨_,_,_,?_,?_,⟨k+1,cP (by rw[s7];simp[e3]),rfl,rfl,rfl⟩⟩
      ·omega
      ·refine Wk.sub ?_ ?_<;>simp only[go_sem]
    ·have b2:((Sp.ai up:Int)!=(h:Int))=true:=by simp;omega
     repeat' (first|omega|(try apply ah);simp only[go_sem,bk,b4,eh,<-c1,<-c2,eg,AN,uf,b1,b2]|refine az ?_|refine aA ?_|apply ag<;>(intro h_;(try simp only[h_]);revert h_)|apply zO|with_reducible intro h_|trivial)
     refine⟨_,_,_,?_,?_,⟨k+1,cP (by rw[s7];simp[e2]),rfl,rfl,rfl⟩⟩
     ·omega
     ·refine Wk.sub ?_ ?_<;>simp only[go_sem]
   ·have b1:(((g/4:Nat):Int)!=(o:Int))=true:=by simp;omega
    repeat' (first|omega|(try apply ah);simp only[go_sem,bk,b4,eh,<-c1,<-c2,eg,AN,uf,b1]|refine az ?_|refine aA ?_|apply ag<;>(intro h_;(try simp only[h_]);revert h_)|apply zO|with_reducible intro h_|trivial)
    refine⟨_,_,_,?_,?_,⟨k+1,cP (by rw[s7];simp[e1]),rfl,rfl,rfl⟩⟩
    ·omega
    ·refine Wk.sub ?_ ?_<;>simp only[go_sem]
 ·obtain rfl:k=8:=by omega
  obtain rfl:K=8:=by omega
  have bk:decide (((8:Nat):Int)<8)=false:=by decide
  rw[zL (by omega)]at hr;subst hr
  repeat' (first|omega|(try apply ah);simp only[go_sem,bk]|refine az ?_|refine aA ?_|apply ag<;>(intro h_;(try simp only[h_]);revert h_)|apply zO|with_reducible intro h_|trivial)
  all_goals exact aT.refl _
end Go.Proofs.YthohfoombimbeaaGreatDoor
