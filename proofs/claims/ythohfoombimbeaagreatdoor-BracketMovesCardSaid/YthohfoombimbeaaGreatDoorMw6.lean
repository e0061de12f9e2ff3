/- Layer 8: kink, uncurl. -/
import Derived.Test.YthohfoombimbeaaGreatDoorZi
namespace Go.Proofs.YthohfoombimbeaaGreatDoor
open Go Go.RowKit
set_option maxRecDepth 99999
set_option maxHeartbeats 8000000
set_option linter.unusedVariables false
set_option linter.unusedSimpArgs false
def Va:fc:=[(6,[[33,34,35,36,37],[33,34,35,36,37],[31,32,35],[31,32,35],[31,32,33,34],[31,32],[31,32],[],[],[],[]],[[],[],[0,1],[0,1],[0,1,2,3],[0,1],[0,1],[],[],[],[]])]
def rj:Tr:=trP [2,3,4] (.node [(0,.node [(1,trD [5,6,7]),(5,trD [1,6,7])]),(5,trD [0,1,6,7])])
def rf:Tr:=trP [2,3,4] (.node [(0,.node [(1,.node [(5,.node [(6,.node [(7,trD [8,9,10]),(8,trD [7,9,10])]),(7,trD [6,8,9,10])]),(7,trD [5,6,8,9,10])]),(5,.node [(1,.node [(6,.node [(7,trD [8,9,10]),(8,trD [7,9,10])]),(7,trD [6,8,9,10])]),(7,trD [1,6,8,9,10])]),(7,.node [(1,trD [5,6,8,9,10]),(5,trD [1,6,8,9,10])])]),(5,.node [(0,.node [(1,.node [(6,.node [(7,trD [8,9,10]),(8,trD [7,9,10])]),(7,trD [6,8,9,10])]),(7,trD [1,6,8,9,10])]),(7,trD [0,1,6,8,9,10])]),(7,.node [(0,.node [(1,trD [5,6,8,9,10]),(5,trD [1,6,8,9,10])]),(5,trD [0,1,6,8,9,10])])])
def zb:fc:=[(6,[[32,33,34,35],[32,33,34,35],[30,31,33,34],[30,31,32,34],[30,31,32,33],[30,31],[],[]],[[],[],[0,1],[0,1,2],[0,1,2,3],[0,1],[],[]]),(12,[[65,66,67,68,70],[65,66,67,68,70],[63,64,66,67,68,70],[63,64,65,67,68,70],[63,64,65,66,70],[63,64,65,66,70],[70],[63,64,65,66,67,68,69],[70],[],[]],[[],[],[0,1],[0,1,2],[0,1,2,3],[0,1,2,3],[],[0,1,2,3,4,5,6],[7],[],[]])]
def tL(k:Nat):Nat:=if k=0 then 2 else if k=1 then 1 else 3
theorem y4c(s m:List Int)(L:Int)(c:Nat)(hv:bG s m L=true)(hc:c<s.length):∃(a b:Int) (ok:Bool),Fn Tryz.prog 42 [dgA s m L,I c] (.tup [I a,I b,.bool ok])/\(ok=true->∃p q:Nat,Hs.kj m c p q/\a=(Sp.af p:Nat)/\b=(Sp.af q:Nat)):=by
 have v1:=gP hv;have fM:=v1.s64;have dw:=v1.len;have hd:=(Sp.aE hv).1;let eZ:Nat->Bool:=fun k=>aB s ((4*c+tL k:Nat):Int)&&decide (Sp.ae m (4*c+tL k)/4=c)
 obtain⟨K,hK3,B8,GU⟩:∃K,K<=3/\(∀k,k<K->eZ k=false)/\(K<3->eZ K=true):=by
  cases h0:eZ 0 with
  |true=>exact⟨0,by omega,fun k hk=>by omega,fun _=>h0⟩
  |false=>
   cases h1:eZ 1 with
   |true=>exact⟨1,by omega,fun k hk=>by (obtain rfl:k=0:=by omega);exact h0,fun _=>h1⟩
   |false=>
    cases h2:eZ 2 with
    |true=>exact⟨2,by omega,fun k hk=>by rcases (show k=0\/k=1 by omega) with rfl|rfl<;>assumption,fun _=>h2⟩
    |false=>exact⟨3,by omega,fun k hk=>by rcases (show k=0\/k=1\/k=2 by omega) with rfl|rfl|rfl<;>assumption,fun h=>by omega⟩
 have aC:∀k,tL k<4:=fun k=>by unfold tL;(repeat' split)<;>omega
 refine⟨if K<3 then (Sp.af (4*c+tL K):Nat) else 0,if K<3 then (Sp.af (Sp.ae m (4*c+tL K)):Nat) else 0,decide (K<3),?_,fun h=>?_⟩
 rotate_left 1
 ·have hk:K<3:=by simpa using h
  have hg:=GU hk;simp only[eZ,zV,decide_eq_true_eq]at hg
  have:=aC K
  rw[zM hk,zM hk];exact⟨_,_,Hs.ym hv hc (by omega) hg.2,rfl,rfl⟩
 have mv:∀k,k<3->∃(o pn:Nat),4*c+tL k=o/\o<m.length/\m.getD o 0=(pn:Int)/\pn<m.length/\Sp.ae m o=pn/\Fn Tryz.prog 75 [dgA s m L,I o] (.bool (aB s (o:Int))):=fun k hk=>by
  have:=aC k
  have h1:=hd.cast (x:=4*c+tL k) (by omega);have h2:=hd.aW.lt (4*c+tL k) (by omega);exact⟨_,_,rfl,by omega,h1.symm,by omega,rfl,Eo s m L _ (by omega) (by omega)⟩
 have ar:∀k,k<3->([I 2,I 1,I 3]:List AV)[k]?=some (I (tL k)):=fun k hk=>by
  rcases (show k=0\/k=1\/k=2 by omega) with rfl|rfl|rfl<;>rfl
 refine Fn.av [.tmp 4,.tmp 5,.tmp 6] Tryz.func42 rfl rfl (by decide) (by simp[Tryz.ntmps42]) ?_;rw[Tryz.ntmps42]
 repeat' (first|omega|(try apply ah);simp only[go_sem]|apply ag<;>(intro h_;(try simp only[h_]);revert h_)|apply zO|with_reducible intro h_|trivial)
 refine rF.wT (a:=2) (b:=1) (c:=3) (e:=3) rfl rfl (by simp only[go_sem]) (by simp only[go_sem]) (by simp only[go_sem]) rfl rfl rfl ?_
 repeat' (first|omega|(try apply ah);simp only[go_sem]|apply ag<;>(intro h_;(try simp only[h_]);revert h_)|apply zO|with_reducible intro h_|trivial)
 refine dr.intro (fun n fr H=>∃k:Nat,k<=K/\n=3-k/\fr=[(11,I k),(10,.agg [I 2,I 1,I 3]),(6,.bool false),(5,I 0),(4,I 0),(2,.ptr 0 0),(1,I c)]/\H=[(0,.cells 24 (.lst [roI s,roI m,I L]))]) ?_ ?_
 ·refine⟨_,_,_,?_,0,by omega,rfl,rfl,rfl⟩;refine Wk.sub ?_ ?_<;>simp only[go_sem]
 rintro n fr H ⟨k,hk,rfl,rfl,rfl⟩;by_cases hk3:k<3
 ·have bk:decide ((k:Int)<3)=true:=by rw[decide_eq_true_iff];omega
  obtain⟨o,pn,ho,O6,fU,gq,br,hO⟩:=mv k hk3;have B4:=ar k hk3;have e0:(4*(c:Int)+tL k)=(o:Int):=by omega
  have e4:(pn:Int).tdiv 4=((pn/4:Nat):Int):=by rw[u9 (by omega)];omega
  have O4:=zp o (by omega) (by omega);rw[Sp.oP]at O4;have O3:=zp pn (by omega) (by omega);rw[Sp.oP]at O3;have s7:eZ k=(aB s (o:Int)&&decide (pn/4=c)):=by
   show (aB s ((4*c+tL k:Nat):Int)&&decide (Sp.ae m (4*c+tL k)/4=c))=_;rw[ho,br]
  have cP:eZ k=false->k+1<=K:=fun h=>by
   by_cases e:k=K
   ·subst e;rw[GU hk3]at h;cases h
   ·omega
  have JR:eZ k=true->k=K:=fun h=>by
   by_cases e:k=K
   ·exact e
   ·rw[B8 k (by omega)]at h;cases h
  cases dV:aB s (o:Int) with
  |false=>
   rw[dV]at hO s7
   repeat' (first|omega|(try apply ah);simp only[go_sem,bk,B4,e0]|refine az ?_|refine aA ?_|apply ag<;>(intro h_;(try simp only[h_]);revert h_)|apply zO|with_reducible intro h_|trivial)
   refine⟨_,_,_,?_,?_,⟨k+1,cP (by rw[s7];rfl),rfl,rfl,rfl⟩⟩
   ·omega
   ·refine Wk.sub ?_ ?_<;>simp only[go_sem]
  |true=>
   rw[dV]at hO s7;by_cases J5:pn/4=c
   ·obtain rfl:=JR (by rw[s7,decide_eq_true J5];rfl);rw[zM hk3,zM hk3,decide_eq_true hk3,ho,br]
    repeat' (first|omega|(first|apply ah|refine aw Va ?_|skip);simp only[go_sem,bk,B4,e0,e4,J5,fU]|refine az ?_|refine aA ?_|apply ag<;>(intro h_;(try simp only[h_]);revert h_)|apply zO|with_reducible intro h_|trivial)
    all_goals exact aT.refl _
   ·repeat' (first|omega|(first|apply ah|refine aw Va ?_|skip);simp only[go_sem,bk,B4,e0,e4,fU]|refine az ?_|refine aA ?_|apply ag<;>(intro h_;(try simp only[h_]);revert h_)|apply zO|with_reducible intro h_|trivial)
    refine⟨_,_,_,?_,?_,⟨k+1,cP (by rw[s7,decide_eq_false J5];rfl),rfl,rfl,rfl⟩⟩
    ·omega
    ·refine Wk.sub ?_ ?_<;>simp only[go_sem]
 ·obtain rfl:k=3:=by omega
  obtain rfl:K=3:=by omega
  have bk:decide (((3:Nat):Int)<3)=false:=by decide
  repeat' (first|omega|(try apply ah);simp only[go_sem,bk]|refine az ?_|refine aA ?_|apply ag<;>(intro h_;(try simp only[h_]);revert h_)|apply zO|with_reducible intro h_|trivial)
  all_goals exact aT.refl _
theorem Re(l:List Int):l.all (ycg∘AV.int IntKind.i64)=true:=zZ.2 fun _ _=>rfl
theorem y00(s m:List Int)(L k y g:Int)(ov:Bool)(c:Nat)(hv:bG s m L=true)(hc:c<s.length):
  ∃(r inv:AV) (e:Int),Fn Tryz.prog 16 [dgA s m L,ei k c y g ov] (.tup [r,inv,I e])/\(e=0->∃s' m' L',r=dgA s' m' L'/\Hs.gN s m L 2 (s.getD c 0) s' m' L'/\L'<=64)/\y7 r inv e:=by
 have v1:=gP hv;have fM:=v1.s64;have dw:=v1.len;have wc:=v1.l0;have mI:=v1.mj;have hd:=(Sp.aE hv).1;obtain⟨a,b,ok,hK,dt⟩:=y4c s m L c hv hc;cases ok with
 |false=>
  refine⟨qb,ei 0 0 0 0 false,6,?_,fun h=>by omega,by first|exact .err|exact .ok|(rw[BQ];exact .ok)⟩;refine Fn.av [.cell 4 24,.cell 5 26,.tmp 6] Tryz.func16 rfl rfl (by decide) (by simp[Tryz.ntmps16]) ?_;rw[Tryz.ntmps16]
  repeat' (first|omega|(try apply ah);simp only[go_sem,]|refine az ?_|refine aA ?_|apply ag<;>(intro h_;(try simp only[h_]);revert h_)|apply zO|with_reducible intro h_|trivial)
  all_goals exact aT.refl _
 |true=>
  obtain⟨p,q,K,rfl,rfl⟩:=dt rfl;have gq:Sp.af p<4*s.length:=Hs.aG (by have:=K.pc;omega);have qJ:Sp.af q<4*s.length:=Hs.aG (by have:=K.qc;omega);have pa:=hd.prd.ok.2 _ gq;have pb:=hd.prd.ok.2 _ qJ;have sw:=hd.cast gq;have nA:=hd.cast qJ;have lcl:=Hs.jR m (Sp.af p) (Sp.af q)
  have cW:∀x,x<(bB m (Sp.af p) (Sp.af q)).length->0<=(bB m (Sp.af p) (Sp.af q)).getD x 0/\(bB m (Sp.af p) (Sp.af q)).getD x 0<1000:=fun x hx=>by
   have h4:=Hs.vA hd;have aJ:Sp.af p≠Sp.af q:=fun e=>K.ne (by have h1:=congrArg Sp.af e;rw[show Sp.af (Sp.af p)=p by unfold Sp.af;omega,show Sp.af (Sp.af q)=q by unfold Sp.af;omega]at h1;exact h1.symm);obtain⟨_,g2,g3⟩:=Hs.jk h4 gq qJ (x:=x) (by omega) (fun e=>by have h1:=congrArg (Sp.ae m) e;rwa [hd.aW.inv _ gq,hd.aW.inv _ qJ]at h1) aJ;omega
  have hS:=Ud s (bB m (Sp.af p) (Sp.af q)) (L+if m.getD (Sp.af p) 0=(Sp.af q:Nat) then 1 else 0) [(c:Int)] (fun i=>i==c) (fun i hi=>by
   by_cases h:i=c
   ·subst h;simp
   ·have h2:¬((i:Int)=c):=by omega
    simp[h,h2]) (by simp) (by omega) (by omega) cW
  have Ga:=M8 [(c:Int)] (m.getD (Sp.af p) 0) (by simp) pa.1 (by omega);have vZ:=Re m;obtain⟨a1,a2⟩:(if m.getD (Sp.af p) 0=(Sp.af q:Nat) then (1:Int) else 0)=(if Sp.ae m (Sp.af p)=Sp.af q then 1 else 0)/\0<=(if m.getD (Sp.af p) 0=(Sp.af q:Nat) then (1:Int) else 0):=by
   rw[<-sw];constructor
   ·split<;>split<;>omega
   ·split<;>omega
  have a3:(if m.getD (Sp.af p) 0=(Sp.af q:Nat) then (1:Int) else 0)<=1:=by split<;>omega
  obtain⟨u,hu⟩:∃u:Int,(if m.getD (Sp.af p) 0=(Sp.af q:Nat) then (1:Int) else 0)=u:=⟨_,rfl⟩;have sW:∀L':Int,L'=L+u->L'<=64->Hs.gN s m L 2 (s.getD c 0) (fC s (fun i=>i==c) s.length) (dI (bB m (Sp.af p) (Sp.af q)) (fun i=>i==c) (bY [(c:Int)]) s.length) L':=fun L' h1 h2=> .un c p q L' hc K (by rw[h1,<-hu,a1]) h2
  obtain⟨pn,fU⟩:∃pn:Nat,m.getD (Sp.af p) 0=pn:=⟨(m.getD (Sp.af p) 0).toNat,by omega⟩;have ij:(fC s (fun i=>i==c) s.length)=(fC s (fun i=>i==c) s.length):=rfl;rw[hu]at hS a2 a3;have lC:(bB m (Sp.af p) (Sp.af q)).length=m.length:=lcl;obtain⟨C,hC⟩:∃C,bB m (Sp.af p) (Sp.af q)=C:=⟨_,rfl⟩;rw[hC]at hS lC sW cW;generalize (fC s (fun i=>i==c) s.length)=S' at*
  generalize (dI C (fun i=>i==c) (bY [(c:Int)]) s.length)=M' at*;have WZ:=Fn.ofN hS;have p9:C.take m.length=C:=zU (by omega);have se:=v1.sg c hc;generalize hip:Sp.af p=ip at*;generalize hiq:Sp.af q=iq at*;have hkr:∀iv:AV,True:=fun _=>trivial;have emod:(ip:Int).tmod 2=((ip % 2:Nat):Int):=by rw[Int.tmod_eq_emod_of_nonneg (by omega)];rfl
  by_cases Kt:L+u<=64
  ·have xD:decide ((64:Int)<L+u)=false:=decide_eq_false (by omega);obtain⟨iv,BQ⟩:∃iv,iv=ei 1 (if u=0 then bY [(c:Int)] pn else-1) 0 (s.getD c 0) (((ip % 2:Nat):Int)==1):=⟨_,rfl⟩;refine⟨dgA S' M' (L+u),iv,0,?_,fun _=>⟨_,_,_,rfl,sW _ rfl Kt,Kt⟩,by first|exact .err|exact .ok|(rw[BQ];exact .ok)⟩
   refine Fn.av [.cell 4 24,.cell 5 26,.tmp 6] Tryz.func16 rfl rfl (by decide) (by simp[Tryz.ntmps16]) ?_;rw[Tryz.ntmps16]
   repeat' (first|omega|(try apply ah);simp only[go_sem,zA,vZ]|refine az ?_|refine aA ?_|apply ag<;>(intro h_;(try simp only[h_]);revert h_)|apply zO|with_reducible intro h_|trivial)
   refine a8.cut [(12,I (L+u)),(11,.sl 1 4 0 m.length),(9,I iq),(8,I ip),(7,I c),(6,I 0),(5,.ptr 3 0),(4,.ptr 2 0),(3,.ptr 1 0),(2,.ptr 0 0)] [(4,.cells 3 (.ints C)),(3,.cells 26 (.lst [I 0,I 0,I 0,I 0,.bool false])),(2,.cells 24 (.lst [.nils,.nils,I 0])),(1,.cells 26 (.lst [I k,I c,I y,I g,.bool ov])),(0,.cells 24 (.lst [roI s,roI m,I L]))] ?_ ?_
   ·repeat' (first|omega|(first|apply ah|refine a8.cT (id:=6) (rj) (by decide+kernel) mixed ?_|refine a8.cT (id:=12) (rf) (by decide+kernel) mixed ?_|refine aw zb ?_|skip);simp only[go_sem,zA,rj,rf]|apply ag<;>(intro h_;(try simp only[h_]);revert h_)|apply zO|with_reducible intro h_|trivial)
    all_goals (
     refine⟨aL.inline (Db rfl rfl (by omega) (by omega) (by omega) (by simp only[go_sem]) (by omega) (by omega) ?_)⟩;rw[hu,hC]
     repeat' (first|omega|(first|apply ah|refine a8.cT (id:=6) (rj) (by decide+kernel) mixed ?_|refine a8.cT (id:=12) (rf) (by decide+kernel) mixed ?_|refine aw zb ?_|skip);simp only[go_sem,zA,rj,rf]|apply ag<;>(intro h_;(try simp only[h_]);revert h_)|apply zO|with_reducible intro h_|trivial)
     refine Wk.sub ?_ ?_<;>(simp only[go_sem]))
   by_cases An:u=0
   ·have b1:(L+u==L)=true:=by rw[beq_iff_eq];omega
    rw[zM An]at BQ;rw[fU]at Ga
    repeat' (first|omega|(try apply ah);simp only[go_sem,xD,b1,emod,fU]|refine az ?_|refine aA ?_|apply ag<;>(intro h_;(try simp only[h_]);revert h_)|apply zO|with_reducible intro h_|trivial)
    refine⟨aL.wO [6] rfl (by simp only[go_sem]) (by simp only[go_sem]) (by simp only[go_sem]) (by simp only[go_sem]) rfl rfl rfl (aL.fn rfl Ga ?_)⟩
    repeat' (first|omega|(try apply ah);simp only[go_sem,xD,b1,emod,fU]|refine az ?_|refine aA ?_|apply ag<;>(intro h_;(try simp only[h_]);revert h_)|apply zO|with_reducible intro h_|trivial)
    refine a8.yX [(6,I 0),(5,.ptr 3 0),(4,.ptr 2 0)] [(3,.cells 26 (.lst [I 1,I (bY [(c:Int)] pn),I 0,I (s.getD c 0),.bool (((ip % 2:Nat):Int)==1)])),(2,.cells 24 (.lst [roI S',roI M',I (L+u)]))] ?_ ?_
    ·repeat' (first|omega|(first|apply ah|refine a8.cT (id:=6) (rj) (by decide+kernel) mixed ?_|refine a8.cT (id:=12) (rf) (by decide+kernel) mixed ?_|refine aw zb ?_|skip);simp only[go_sem,p9,rj,rf]|apply ag<;>(intro h_;(try simp only[h_]);revert h_)|apply zO|with_reducible intro h_|trivial)
     all_goals (
      refine⟨aL.wO [4,7] rfl (by simp only[go_sem,p9,lC,zA]) (by simp only[go_sem,p9,lC,zA]) (by simp only[go_sem,p9,lC,zA]) (by simp only[go_sem,p9,lC,zA]) rfl rfl rfl (aL.fn rfl WZ ?_)⟩
      repeat' (first|omega|(first|apply ah|refine a8.cT (id:=6) (rj) (by decide+kernel) mixed ?_|refine a8.cT (id:=12) (rf) (by decide+kernel) mixed ?_|refine aw zb ?_|skip);simp only[go_sem,p9,rj,rf]|apply ag<;>(intro h_;(try simp only[h_]);revert h_)|apply zO|with_reducible intro h_|trivial)
      all_goals (refine Wk.sub ?_ ?_<;>(simp only[go_sem])))
    ·rw[BQ]
     repeat' (first|omega|(try apply ah);simp only[go_sem,p9]|refine az ?_|refine aA ?_|apply ag<;>(intro h_;(try simp only[h_]);revert h_)|apply zO|with_reducible intro h_|trivial)
     all_goals exact aT.refl _
   ·have b1:(L+u==L)=false:=by rw[zX];omega
    rw[zL An]at BQ
    repeat' (first|omega|(try apply ah);simp only[go_sem,xD,b1,emod,fU]|refine az ?_|refine aA ?_|apply ag<;>(intro h_;(try simp only[h_]);revert h_)|apply zO|with_reducible intro h_|trivial)
    refine a8.yX [(6,I 0),(5,.ptr 3 0),(4,.ptr 2 0)] [(3,.cells 26 (.lst [I 1,I (-1),I 0,I (s.getD c 0),.bool (((ip % 2:Nat):Int)==1)])),(2,.cells 24 (.lst [roI S',roI M',I (L+u)]))] ?_ ?_
    ·repeat' (first|omega|(first|apply ah|refine a8.cT (id:=6) (rj) (by decide+kernel) mixed ?_|refine a8.cT (id:=12) (rf) (by decide+kernel) mixed ?_|refine aw zb ?_|skip);simp only[go_sem,p9,rj,rf]|apply ag<;>(intro h_;(try simp only[h_]);revert h_)|apply zO|with_reducible intro h_|trivial)
     all_goals (
      refine⟨aL.wO [4,6] rfl (by simp only[go_sem,p9,lC,zA]) (by simp only[go_sem,p9,lC,zA]) (by simp only[go_sem,p9,lC,zA]) (by simp only[go_sem,p9,lC,zA]) rfl rfl rfl (aL.fn rfl WZ ?_)⟩
      repeat' (first|omega|(first|apply ah|refine a8.cT (id:=6) (rj) (by decide+kernel) mixed ?_|refine a8.cT (id:=12) (rf) (by decide+kernel) mixed ?_|refine aw zb ?_|skip);simp only[go_sem,p9,rj,rf]|apply ag<;>(intro h_;(try simp only[h_]);revert h_)|apply zO|with_reducible intro h_|trivial)
      all_goals (refine Wk.sub ?_ ?_<;>(simp only[go_sem])))
    ·rw[BQ]
     repeat' (first|omega|(try apply ah);simp only[go_sem,p9]|refine az ?_|refine aA ?_|apply ag<;>(intro h_;(try simp only[h_]);revert h_)|apply zO|with_reducible intro h_|trivial)
     all_goals exact aT.refl _
  ·have xD:decide ((64:Int)<L+u)=true:=decide_eq_true (by omega);refine⟨qb,ei 0 0 0 0 false,5,?_,fun h=>by omega,by first|exact .err|exact .ok|(rw[BQ];exact .ok)⟩;refine Fn.av [.cell 4 24,.cell 5 26,.tmp 6] Tryz.func16 rfl rfl (by decide) (by simp[Tryz.ntmps16]) ?_;rw[Tryz.ntmps16]
   repeat' (first|omega|(try apply ah);simp only[go_sem,zA,vZ]|refine az ?_|refine aA ?_|apply ag<;>(intro h_;(try simp only[h_]);revert h_)|apply zO|with_reducible intro h_|trivial)
   refine a8.cut [(12,I (L+u)),(11,.sl 1 4 0 m.length),(9,I iq),(8,I ip),(7,I c),(6,I 0),(5,.ptr 3 0),(4,.ptr 2 0),(3,.ptr 1 0),(2,.ptr 0 0)] [(4,.cells 3 (.ints C)),(3,.cells 26 (.lst [I 0,I 0,I 0,I 0,.bool false])),(2,.cells 24 (.lst [.nils,.nils,I 0])),(1,.cells 26 (.lst [I k,I c,I y,I g,.bool ov])),(0,.cells 24 (.lst [roI s,roI m,I L]))] ?_ ?_
   ·repeat' (first|omega|(first|apply ah|refine a8.cT (id:=6) (rj) (by decide+kernel) mixed ?_|refine a8.cT (id:=12) (rf) (by decide+kernel) mixed ?_|refine aw zb ?_|skip);simp only[go_sem,zA,rj,rf]|apply ag<;>(intro h_;(try simp only[h_]);revert h_)|apply zO|with_reducible intro h_|trivial)
    all_goals (
     refine⟨aL.inline (Db rfl rfl (by omega) (by omega) (by omega) (by simp only[go_sem]) (by omega) (by omega) ?_)⟩;rw[hu,hC]
     repeat' (first|omega|(first|apply ah|refine a8.cT (id:=6) (rj) (by decide+kernel) mixed ?_|refine a8.cT (id:=12) (rf) (by decide+kernel) mixed ?_|refine aw zb ?_|skip);simp only[go_sem,zA,rj,rf]|apply ag<;>(intro h_;(try simp only[h_]);revert h_)|apply zO|with_reducible intro h_|trivial)
     refine Wk.sub ?_ ?_<;>(simp only[go_sem]))
   repeat' (first|omega|(try apply ah);simp only[go_sem,xD]|refine az ?_|refine aA ?_|apply ag<;>(intro h_;(try simp only[h_]);revert h_)|apply zO|with_reducible intro h_|trivial)
   all_goals exact aT.refl _
end Go.Proofs.YthohfoombimbeaaGreatDoor
