import Derived.Test.YthohfoombimbeaaGreatDoorMw8
import Derived.Test.YthohfoombimbeaaGreatDoorMw6
import Derived.Test.YthohfoombimbeaaGreatDoorZk
namespace Go.Proofs.YthohfoombimbeaaGreatDoor
open Go Go.RowKit
set_option maxRecDepth 99999
set_option maxHeartbeats 8000000
set_option linter.unusedVariables false
set_option linter.unusedSimpArgs false
def NB:fc:=[(5,[[29,30,31,32,33,34,35,36],[29,30,31,32,33,34,35,36],[27,28,30,31,32,33,34,35],[27,28,29,33,34,35],[27,28,29,33,34,35],[27,28,29,33,34,35],[27,28,29,30,31,32],[27,28,29,30,31,32],[27,28,29,30,31,32],[27,28],[],[]],[[],[],[0,1],[0,1,2],[0,1,2],[0,1,2],[0,1,2,3,4,5],[0,1,2,3,4,5],[0,1,2,3,4,5],[0,1],[],[]]),(9,[[54,55,56,57,58,59,60,62,63,64],[54,55,56,57,58,59,60,62,63,64],[52,53,55,56,57,58,59,60,62,63,64],[52,53,54,56,57,58,59,60,62,63,64],[52,53,54,55,58,59,62,63,64],[52,53,54,55,58,59,62,63,64],[52,53,54,55,56,57,62,63,64],[52,53,54,55,56,57,62,63,64],[52,53,54,55,62,63,64],[62,63,64],[52,53,54,55,56,57,58,59,60,61,63,64],[52,53,54,55,56,57,58,59,60,61,62,64],[52,53,54,55,56,57,58,59,60,61,62,63],[],[],[],[]],[[],[],[0,1],[0,1,2],[0,1,2,3],[0,1,2,3],[0,1,2,3,4,5],[0,1,2,3,4,5],[0,1,2,3],[],[0,1,2,3,4,5,6,7,8,9],[0,1,2,3,4,5,6,7,8,9,10],[0,1,2,3,4,5,6,7,8,9,10,11],[],[],[],[]])]
def za:Tr:=trP [0,2,3,6] (.node [(1,.node [(4,.node [(5,trD [7,8,9,10,11]),(7,.node [(5,trD [8,9,10,11]),(8,trD [5,9,10,11])])]),(7,.node [(4,.node [(5,trD [8,9,10,11]),(8,trD [5,9,10,11])]),(8,trD [4,5,9,10,11])])]),(4,.node [(1,.node [(5,trD [7,8,9,10,11]),(7,.node [(5,trD [8,9,10,11]),(8,trD [5,9,10,11])])]),(5,.node [(1,trD [7,8,9,10,11]),(7,.node [(1,trD [8,9,10,11]),(8,.node [(1,trD [9,10,11]),(9,trD [1,10,11])])])]),(7,.node [(1,.node [(5,trD [8,9,10,11]),(8,trD [5,9,10,11])]),(5,.node [(1,trD [8,9,10,11]),(8,.node [(1,trD [9,10,11]),(9,trD [1,10,11])])]),(8,.node [(1,trD [5,9,10,11]),(5,.node [(1,trD [9,10,11]),(9,trD [1,10,11])])])])]),(7,.node [(1,.node [(4,.node [(5,trD [8,9,10,11]),(8,trD [5,9,10,11])]),(8,trD [4,5,9,10,11])]),(4,.node [(1,.node [(5,trD [8,9,10,11]),(8,trD [5,9,10,11])]),(5,.node [(1,trD [8,9,10,11]),(8,.node [(1,trD [9,10,11]),(9,trD [1,10,11])])]),(8,.node [(1,trD [5,9,10,11]),(5,.node [(1,trD [9,10,11]),(9,trD [1,10,11])])])]),(8,.node [(1,trD [4,5,9,10,11]),(4,.node [(1,trD [5,9,10,11]),(5,.node [(1,trD [9,10,11]),(9,trD [1,10,11])])])])])])
theorem y05(s m:List Int)(L k g:Int)(ov:Bool)(lo hi:Nat)(hv:bG s m L=true)(jK:lo<hi)(gJ:hi<s.length):
  ∃(r inv:AV) (e:Int),Fn Tryz.prog 19 [dgA s m L,ei k lo hi g ov] (.tup [r,inv,I e])/\(e=0->∃s' m' L',r=dgA s' m' L'/\Hs.gN s m L 4 0 s' m' L')/\y7 r inv e:=by
 have v1:=gP hv;have fM:=v1.s64;have dw:=v1.len;have wc:=v1.l0;have mI:=v1.mj;have hd:=(Sp.aE hv).1;obtain⟨r0,ok,hF,dt,PF⟩:=y7t s m L lo hi hv jK gJ;cases ok with
 |false=>
  obtain rfl:=PF rfl;refine⟨qb,ei 0 0 0 0 false,6,?_,fun h=>by omega,by first|exact .err|exact .ok⟩;refine Fn.av [.cell 4 24,.cell 5 26,.tmp 6] Tryz.func19 rfl rfl (by decide) (by simp[Tryz.ntmps19]) ?_;rw[Tryz.ntmps19]
  repeat' (first|omega|(try apply ah);simp only[go_sem,]|refine az ?_|refine aA ?_|apply ag<;>(intro h_;(try simp only[h_]);revert h_)|apply zO|with_reducible intro h_|trivial)
  all_goals exact aT.refl _
 |true=>
  obtain⟨p1,p2,q1,q2,K,dS,h1,OZ,rfl⟩:=dt rfl;have h2:p2<4*s.length:=by have:=K.pp;omega
  have h3:q1<4*s.length:=by rcases dS with ⟨_,e⟩|⟨_,e⟩<;>omega
  have h4:q2<4*s.length:=by have:=K.qq;omega
  obtain⟨ix,iy,iz,ib,W8⟩:=y02 s m L k g ov lo hi p1 p2 q1 q2 hv h1 h2 h3 h4 (by omega) gJ;have Au:=fun L' a b=>Hs.gN.up (s:=s) (m:=m) (L:=L) lo hi p1 p2 q1 q2 L' jK gJ K OZ dS a b;have o1:=Hs.aG h1;have o2:=Hs.aG h2;have o3:=Hs.aG h3;have o4:=Hs.aG h4;obtain⟨d1,d2,d3,d4,d5,d6⟩:=K.Dk;have n4:=Hs.vA hd;have ha:=hd.aW
  have c0:∀z,z<4*s.length->Sp.ae (bB m (Sp.af p1) (Sp.af q1)) z=Hs.cl (Sp.ae m) (Sp.af p1) (Sp.af q1) z/\((Sp.ae (bB m (Sp.af p1) (Sp.af q1)) z:Nat):Int)=(bB m (Sp.af p1) (Sp.af q1)).getD z 0/\Sp.ae (bB m (Sp.af p1) (Sp.af q1)) z<4*s.length:=fun z hz=>
   Hs.jk n4 o1 o3 hz (fun e=>by rw[<-ha.inv _ o1,e,ha.inv _ o3]) d1
  have n41:Hs.y6 (bB m (Sp.af p1) (Sp.af q1)) s.length:=⟨by rw[Hs.jR];exact n4.1,fun z hz=>(c0 z hz).2⟩
  have c1:∀z,z<4*s.length->((Sp.ae (bB (bB m (Sp.af p1) (Sp.af q1)) (Sp.af p2) (Sp.af q2)) z:Nat):Int)=(bB (bB m (Sp.af p1) (Sp.af q1)) (Sp.af p2) (Sp.af q2)).getD z 0/\Sp.ae (bB (bB m (Sp.af p1) (Sp.af q1)) (Sp.af p2) (Sp.af q2)) z<4*s.length:=fun z hz=>
   (Hs.jk n41 o2 o4 hz (fun e=>by
    rw[(c0 _ o2).1,(c0 _ o4).1]at e;exact Hs.wS ha o1 o3 o2 o4 (Ne.symm d2) (Ne.symm d4) (Ne.symm d3) (Ne.symm d5) e) d6).2
  have JM:=Hs.jR m (Sp.af p1) (Sp.af q1);have Om:=Hs.jR (bB m (Sp.af p1) (Sp.af q1)) (Sp.af p2) (Sp.af q2);have pa1:=hd.prd.ok.2 _ o1;have pa2:=hd.prd.ok.2 _ o3;have k1:=hd.cast o1;have VE:=c0 _ o2;have pb2:=c0 _ o4;have hS:=fun L'=>Ud s (bB (bB m (Sp.af p1) (Sp.af q1)) (Sp.af p2) (Sp.af q2)) L' [(lo:Int),(hi:Int)] (Hs.Q2 lo hi) (fun c hc=>by
   show (c==lo||c==hi)=_;by_cases h:c=lo
   ·subst h;simp
   ·by_cases h':c=hi
    ·subst h';simp
    ·have h2:¬((c:Int)=lo):=by omega
     have h3:¬((c:Int)=hi):=by omega
     simp[h,h',h2,h3]) (by simp) (by omega) (by omega) (fun x hx=>by have:=c1 x (by omega);omega)
  have vZ:=Re m;obtain⟨u1,kU⟩:∃u:Int,(if m.getD (Sp.af p1) 0=(Sp.af q1:Nat) then (1:Int) else 0)=u:=⟨_,rfl⟩;obtain⟨u2,ns⟩:∃u:Int,(if (bB m (Sp.af p1) (Sp.af q1)).getD (Sp.af p2) 0=(Sp.af q2:Nat) then (1:Int) else 0)=u:=⟨_,rfl⟩;have r1:0<=u1/\u1<=1:=by rw[<-kU];split<;>omega
  have r2:0<=u2/\u2<=1:=by rw[<-ns];split<;>omega
  have Vw:u1=if Sp.ae m (Sp.af p1)=Sp.af q1 then 1 else 0:=by rw[<-kU,<-k1];split<;>split<;>omega
  have Vv:u2=if Sp.ae (bB m (Sp.af p1) (Sp.af q1)) (Sp.af p2)=Sp.af q2 then 1 else 0:=by rw[<-ns,<-VE.2.1];split<;>split<;>omega
  have BO:=Au (L+u1+u2) (by rw[Vw,Vv]);have yO:=hS (L+u1+u2);have JL:(bB (bB m (Sp.af p1) (Sp.af q1)) (Sp.af p2) (Sp.af q2)).length=m.length:=by rw[Om,JM]
  have xB:=W8;unfold Ag at hF xB;clear Au hS Vw Vv c0 c1 n41 n4 dt W8 d1 d2 d3 d4 d5 d6;generalize Sp.af p1=i1 at*;generalize Sp.af p2=i2 at*;generalize Sp.af q1=j1 at*;generalize Sp.af q2=j2 at*;have wpa:0<=(bB m i1 j1).getD i2 0/\(bB m i1 j1).getD i2 0<m.length:=by omega
  have wpb:0<=(bB m i1 j1).getD j2 0/\(bB m i1 j1).getD j2 0<m.length:=by omega
  obtain⟨C1,PX⟩:∃C1,bB m i1 j1=C1:=⟨_,rfl⟩;rw[PX]at JM Om JL ns BO yO wpa wpb;obtain⟨C2,PV⟩:∃C2,bB C1 i2 j2=C2:=⟨_,rfl⟩;rw[PV]at Om JL BO yO;have p9:C2.take m.length=C2:=zU (by omega);clear VE pb2;generalize fC s (Hs.Q2 lo hi) s.length=S' at*;generalize dI C2 (Hs.Q2 lo hi) (bY [(lo:Int),(hi:Int)]) s.length=M' at*;by_cases Kt:L+u1+u2<=64
  ·have xD:decide ((64:Int)<L+u1+u2)=false:=decide_eq_false (by omega);refine⟨dgA S' M' (L+u1+u2),ei 3 ix iy iz ib,0,?_,fun _=>⟨_,_,_,rfl,BO Kt⟩,by first|exact .err|exact .ok⟩;refine Fn.av [.cell 4 24,.cell 5 26,.tmp 6] Tryz.func19 rfl rfl (by decide) (by simp[Tryz.ntmps19]) ?_;rw[Tryz.ntmps19]
   repeat' (first|omega|(try apply ah);simp only[go_sem,zA,vZ]|refine az ?_|refine aA ?_|apply ag<;>(intro h_;(try simp only[h_]);revert h_)|apply zO|with_reducible intro h_|trivial)
   refine a8.cut [(10,I (L+u1)),(9,.sl 1 5 0 m.length),(7,.ptr 4 0),(6,I 0),(5,.ptr 3 0),(4,.ptr 2 0),(3,.ptr 1 0),(2,.ptr 0 0)] [(5,.cells 3 (.ints C1)),(4,.cells 93 (.lst [I p1,I p2,I i1,I i2,I j1,I q2,I q1,I j2])),(3,.cells 26 (.lst [I 0,I 0,I 0,I 0,.bool false])),(2,.cells 24 (.lst [.nils,.nils,I 0])),(1,.cells 26 (.lst [I k,I lo,I hi,I g,.bool ov])),(0,.cells 24 (.lst [roI s,roI m,I L]))] ?_ ?_
   ·repeat' (first|omega|(first|apply ah|refine a8.oX (id:=5) (za) (by decide+kernel) mixed ?_|refine aw NB ?_|refine aw NB ?_|skip);simp only[go_sem,zA,za]|apply ag<;>(intro h_;(try simp only[h_]);revert h_)|apply zO|with_reducible intro h_|trivial)
    all_goals (
     refine⟨aL.inline (Db rfl rfl (by omega) (by omega) (by omega) (by simp only[go_sem]) (by omega) (by omega) ?_)⟩;rw[kU,PX]
     repeat' (first|omega|(first|apply ah|refine a8.oX (id:=5) (za) (by decide+kernel) mixed ?_|refine aw NB ?_|refine aw NB ?_|skip);simp only[go_sem,zA,za]|apply ag<;>(intro h_;(try simp only[h_]);revert h_)|apply zO|with_reducible intro h_|trivial)
     refine Wk.sub ?_ ?_<;>(simp only[go_sem]))
   repeat' (first|omega|(try apply ah);simp only[go_sem,zA]|refine az ?_|refine aA ?_|apply ag<;>(intro h_;(try simp only[h_]);revert h_)|apply zO|with_reducible intro h_|trivial)
   refine⟨aL.inline (Db rfl JM (by omega) (by omega) (by omega) (by simp only[go_sem]) (by omega) (by omega) ?_)⟩;rw[ns,PV]
   repeat' (first|omega|(first|apply ah|refine aw NB ?_|skip);simp only[go_sem,xD,zA]|refine az ?_|refine aA ?_|apply ag<;>(intro h_;(try simp only[h_]);revert h_)|apply zO|with_reducible intro h_|trivial)
   refine⟨dd.new (h:=yO) rfl (by simp only[go_sem,p9,JL,zA]) (by simp only[go_sem,p9,JL,zA];try rfl) ?_⟩
   repeat' (first|omega|(try apply ah);simp only[go_sem,xD,p9]|refine az ?_|refine aA ?_|apply ag<;>(intro h_;(try simp only[h_]);revert h_)|apply zO|with_reducible intro h_|trivial)
   all_goals first|exact aT.refl _|trace_state
  ·have xD:decide ((64:Int)<L+u1+u2)=true:=decide_eq_true (by omega);refine⟨qb,ei 0 0 0 0 false,5,?_,fun h=>by omega,by first|exact .err|exact .ok⟩;refine Fn.av [.cell 4 24,.cell 5 26,.tmp 6] Tryz.func19 rfl rfl (by decide) (by simp[Tryz.ntmps19]) ?_;rw[Tryz.ntmps19]
   repeat' (first|omega|(try apply ah);simp only[go_sem,zA,vZ]|refine az ?_|refine aA ?_|apply ag<;>(intro h_;(try simp only[h_]);revert h_)|apply zO|with_reducible intro h_|trivial)
   refine a8.cut [(10,I (L+u1)),(9,.sl 1 5 0 m.length),(7,.ptr 4 0),(6,I 0),(5,.ptr 3 0),(4,.ptr 2 0),(3,.ptr 1 0),(2,.ptr 0 0)] [(5,.cells 3 (.ints C1)),(4,.cells 93 (.lst [I p1,I p2,I i1,I i2,I j1,I q2,I q1,I j2])),(3,.cells 26 (.lst [I 0,I 0,I 0,I 0,.bool false])),(2,.cells 24 (.lst [.nils,.nils,I 0])),(1,.cells 26 (.lst [I k,I lo,I hi,I g,.bool ov])),(0,.cells 24 (.lst [roI s,roI m,I L]))] ?_ ?_
   ·repeat' (first|omega|(first|apply ah|refine a8.oX (id:=5) (za) (by decide+kernel) mixed ?_|refine aw NB ?_|refine aw NB ?_|skip);simp only[go_sem,zA,za]|apply ag<;>(intro h_;(try simp only[h_]);revert h_)|apply zO|with_reducible intro h_|trivial)
    all_goals (
     refine⟨aL.inline (Db rfl rfl (by omega) (by omega) (by omega) (by simp only[go_sem]) (by omega) (by omega) ?_)⟩;rw[kU,PX]
     repeat' (first|omega|(first|apply ah|refine a8.oX (id:=5) (za) (by decide+kernel) mixed ?_|refine aw NB ?_|refine aw NB ?_|skip);simp only[go_sem,zA,za]|apply ag<;>(intro h_;(try simp only[h_]);revert h_)|apply zO|with_reducible intro h_|trivial)
     refine Wk.sub ?_ ?_<;>(simp only[go_sem]))
   repeat' (first|omega|(try apply ah);simp only[go_sem,zA]|refine az ?_|refine aA ?_|apply ag<;>(intro h_;(try simp only[h_]);revert h_)|apply zO|with_reducible intro h_|trivial)
   refine⟨aL.inline (Db rfl JM (by omega) (by omega) (by omega) (by simp only[go_sem]) (by omega) (by omega) ?_)⟩;rw[ns,PV]
   repeat' (first|omega|(try apply ah);simp only[go_sem,xD]|refine az ?_|refine aA ?_|apply ag<;>(intro h_;(try simp only[h_]);revert h_)|apply zO|with_reducible intro h_|trivial)
   all_goals exact aT.refl _
end Go.Proofs.YthohfoombimbeaaGreatDoor
