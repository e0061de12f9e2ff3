import Derived.Test.YthohfoombimbeaaGreatDoorMw12
import Derived.Test.YthohfoombimbeaaGreatDoorMw13
namespace Go.Proofs.YthohfoombimbeaaGreatDoor
open Go Go.RowKit
set_option maxRecDepth 99999
set_option maxHeartbeats 8000000
set_option linter.unusedVariables false
set_option linter.unusedSimpArgs false
def w8:fc:=[(4,[[26,27,28,29,30,31],[26,27,28,29,30,31],[24,25,27,28,29,30,31],[24,25,26,29],[24,25,26,29],[24,25,26,27,28],[24,25,26],[24,25,26],[]],[[],[],[0,1],[0,1,2],[0,1,2],[0,1,2,3,4],[0,1,2],[0,1,2],[]])]
def Ir:Hy:=[(25,[[154,155,156,157],[153,155,156],[153,154],[153,154],[153],[154,155,156,157],[],[]],[[],[0,1,1000002,1000003],[0,1,2,1000002,1000003],[0,1],[0],[1,2,3,4],[],[]],[4,5])]
def ca:fc:=[(8,[[39,40,41,42],[39,40,41,42],[37,38,41],[37,38,41],[37,38,39,40],[37,38],[]],[[],[],[0,1],[0,1],[0,1,2,3],[0,1],[]]),(9,[[46,47,48,49],[46,47,48,49],[44,45,48],[44,45,48],[44,45,46,47],[44,45],[]],[[],[],[0,1],[0,1],[0,1,2,3],[0,1],[]]),(14,[[79,80,81,82],[79,80,81,82],[77,78,81],[77,78,81],[77,78,79,80],[77,78],[]],[[],[],[0,1],[0,1],[0,1,2,3],[0,1],[]]),(15,[[86,87,88,89],[86,87,88,89],[84,85,88],[84,85,88],[84,85,86,87],[84,85],[]],[[],[],[0,1],[0,1],[0,1,2,3],[0,1],[]]),(18,[[101,102,103,104],[101,102,103,104],[99,100,103,104],[99,100,103,104],[99,100,101,102],[99,100,101,102],[]],[[],[],[0,1],[0,1],[0,1,2,3],[0,1,2,3],[]]),(19,[[108,109,110,111],[108,109,110,111],[106,107,110],[106,107,110],[106,107,108,109],[106,107],[]],[[],[],[0,1],[0,1],[0,1,2,3],[0,1],[]]),(20,[[115,116,117,118,119,120,121,122],[115,116,117,118,119,120,121,122],[113,114,117,118,119,120,121,122],[113,114,117,118,119,120,121,122],[113,114,115,116,119,120],[113,114,115,116,119,120],[113,114,115,116,117,118],[113,114,115,116,117,118],[113,114,115,116],[113,114,115,116],[]],[[],[],[0,1],[0,1],[0,1,2,3],[0,1,2,3],[0,1,2,3,4,5],[0,1,2,3,4,5],[0,1,2,3],[0,1,2,3],[]]),(22,[[130,131,132,133],[130,131,132,133],[128,129,132,133],[128,129,132,133],[128,129,130,131],[128,129,130,131],[]],[[],[],[0,1],[0,1],[0,1,2,3],[0,1,2,3],[]]),(23,[[137,138,139,140],[137,138,139,140],[135,136,139],[135,136,139],[135,136,137,138],[135,136],[]],[[],[],[0,1],[0,1],[0,1,2,3],[0,1],[]]),(24,[[144,145,146,147,148,149,150,151],[144,145,146,147,148,149,150,151],[142,143,146,147,148,149,150,151],[142,143,146,147,148,149,150,151],[142,143,144,145,148,149],[142,143,144,145,148,149],[142,143,144,145,146,147],[142,143,144,145,146,147],[142,143,144,145],[142,143,144,145],[]],[[],[],[0,1],[0,1],[0,1,2,3],[0,1,2,3],[0,1,2,3,4,5],[0,1,2,3,4,5],[0,1,2,3],[0,1,2,3],[]]),(11,[[53,54,55,56,57,58],[52,55,56,57,58],[52,55,56,57,58],[52,53,54,57],[52,53,54,57],[52,53,54,55,56],[52,53,54],[]],[[],[0],[0],[0,1,2],[0,1,2],[0,1,2,3,4],[0,1,2],[]]),(12,[[61,62,63,64,65,66],[60,63,64,65,66],[60,63,64,65,66],[60,61,62,65],[60,61,62,65],[60,61,62,63,64],[60,61,62],[]],[[],[0],[0],[0,1,2],[0,1,2],[0,1,2,3,4],[0,1,2],[]])]
def Is:fc:=[(4,[[25,26,27,28,8,9],[25,26,27,28,8,9],[23,24,8,9],[23,24,8,9],[23,24,8,9],[23,24,8,9],[23,24,25,26,27,28,9],[23,24,25,26,27,28,8],[25,26,27,28],[]],[[],[],[0,1],[0,1],[0,1,4],[0,1],[0,1,2,3,4,5],[0,1,2,3,4,5,6],[2,3,4,5],[]])]++ca
def Iq:fc:=[(25,[[154,155,156,157],[153,155,156],[153,154],[153,154],[153],[154,155,156,157],[],[]],[[],[0],[0,1],[0,1],[0],[1,2,3,4],[],[]]),(4,[[25,26,27,28,8,9],[25,26,27,28,8,9],[23,24,8,9],[23,24,8,9],[23,24,8,9],[23,24,8,9],[23,24,25,26,27,28,9],[23,24,25,26,27,28,8],[25,26,27,28],[]],[[],[],[0,1],[0,1],[0,1,4],[0,1],[0,1,2,3,4,5],[0,1,2,3,4,5,6],[2,3,4,5],[]])]
theorem y73(i f:Nat):slot i f<4:=Nat.mod_lt _ (by omega)
theorem Ny(fX fY ov:Bool):gW fX fY ov<4/\cK fX fY ov<4:=by cases fX<;>cases fY<;>cases ov<;>decide
theorem y4f(n i f0 f1:Nat)(hn:n<=64)(hi:i<4)(h0:f0<4):Fn Tryz.prog 48 [I i,.rp (.lst [I n]) 0,.rp (.lst [I f0,I f1]) 0] (I ((4*n+slot i f0:Nat):Int)):=by
 have hp:=Md n f0 i (by omega) (by omega) (by omega);have e:4*(n:Int)+((i:Int)-f0+4)% 4=((4*n+slot i f0:Nat):Int):=by unfold slot;omega
 rw[e]at hp;refine Fn.intro [.tmp 4] Tryz.func48 rfl rfl (by decide) (by simp[Tryz.ntmps48]) ?_;rw[Tryz.ntmps48]
 repeat' (first|omega|(try apply ah);simp only[go_sem,hp]|refine az ?_|refine aA ?_|apply ag<;>(intro h_;(try simp only[h_]);revert h_)|apply zO|with_reducible intro h_|trivial)
theorem y4g(n i f0 f1:Nat)(hn:n<=64)(hi:i<4)(h0:f1<4):Fn Tryz.prog 50 [I i,.rp (.lst [I n]) 0,.rp (.lst [I f0,I f1]) 0] (I ((4*n+(4+slot i f1):Nat):Int)):=by
 have hp:=Md (n+1) f1 i (by omega) (by omega) (by omega);have e:4*((n:Int)+1)+((i:Int)-f1+4)% 4=((4*n+(4+slot i f1):Nat):Int):=by unfold slot;omega
 rw[e]at hp;refine Fn.intro [.tmp 4] Tryz.func50 rfl rfl (by decide) (by simp[Tryz.ntmps50]) ?_;rw[Tryz.ntmps50]
 repeat' (first|omega|(try apply ah);simp only[go_sem,hp]|refine az ?_|refine aA ?_|apply ag<;>(intro h_;(try simp only[h_]);revert h_)|apply zO|with_reducible intro h_|trivial)
theorem y08(H:Hp):yai [] H=H:=EI H (by simp)
theorem X6(H:Hp):yai [hnew H,hnew H+1,hnew H+2] H=H:=EI H (by simp)
theorem X5{H:Hp}{ri di mi si n N:Nat}{L:Int}{M:List Int}{x:Int}{a b:Nat}(hx:decide (x<0)=true)(BE:ri≠mi)(hr:hget H ri=some (.cells 24 (.lst [.sl 1 si 0 n,.sl 1 mi 0 N,I L])))(hm:hget H mi=some (.cells 3 (.ints M)))(hN:M.length=N)(ha:a<N)(hb:b<N)(hl:N<=1000)(hL:0<=L)(Xe:L<=64){fr:Fr}{K:AV->Fr->Hp->Prop}
  (hK:K (.tup []) fr (hset (hset H mi (.cells 3 (.ints (aY M a b)))) ri (.cells 24 (.lst [.sl 1 si 0 n,.sl 1 mi 0 N,I (L-1)])))):jy Tryz.prog 51 [I x,I a,I b,.ptr ri 0,.ptr di 0] fr H K:=by
 have e1:hget (hset H mi (.cells 3 (.ints (aY M a b)))) ri=some (.cells 24 (.lst [.sl 1 si 0 n,.sl 1 mi 0 N,I L])):=by rw[uw,zL (Ne.symm BE)];exact hr
 refine jy.intro [] Tryz.func51 rfl rfl (by decide) (by simp[Tryz.ntmps51]) ?_;rw[Tryz.ntmps51]
 repeat' (first|omega|(first|apply ah|refine aw w8 ?_|refine cY w8 ?_|skip);simp only[go_sem,hx,hr,zA]|apply ag<;>(intro h_;(try simp only[h_]);revert h_)|apply zO|with_reducible intro h_|trivial)
 refine⟨aL.inline (oc rfl rfl rfl hm hN ha hb hl ?_)⟩
 repeat' (first|omega|(first|apply ah|refine aw w8 ?_|refine cY w8 ?_|skip);simp only[go_sem,hx,e1,zA]|apply ag<;>(intro h_;(try simp only[h_]);revert h_)|apply zO|with_reducible intro h_|trivial)
theorem X4{H:Hp}{ri di mi si n N:Nat}{L L0:Int}{M m s:List Int}{x p:Nat}{a b:Nat}(hp:m.getD x 0=(p:Int))(BE:ri≠mi)(Py:di≠mi)(hr:hget H ri=some (.cells 24 (.lst [.sl 1 si 0 n,.sl 1 mi 0 N,I L])))(hd:hget H di=some (.cells 24 (.lst [roI s,roI m,I L0])))(hm:hget H mi=some (.cells 3 (.ints M)))(hN:M.length=N)(ha:a<N)(hb:b<N)(hl:N<=1000)(hx:x<m.length)(vK:x<N)(dM:p<N)(hs:(hset H mi (.cells 3 (.ints (aY M x a)))).all (fun q=>sO (hset H mi (.cells 3 (.ints (aY M x a)))) q.2)=true){fr:Fr}{K:AV->Fr->Hp->Prop}
  (hK:K (.tup []) fr (hset H mi (.cells 3 (.ints (aY (aY M x a) b p))))):jy Tryz.prog 51 [I x,I a,I b,.ptr ri 0,.ptr di 0] fr H K:=by
 have b1:decide ((x:Int)<0)=false:=decide_eq_false (by omega);have e0:(x:Int).toNat=x:=by omega
 have e1:hget (hset H mi (.cells 3 (.ints (aY M x a)))) ri=some (.cells 24 (.lst [.sl 1 si 0 n,.sl 1 mi 0 N,I L])):=by rw[uw,zL (Ne.symm BE)];exact hr
 have e2:hget (hset H mi (.cells 3 (.ints (aY M x a)))) di=some (.cells 24 (.lst [roI s,roI m,I L0])):=by rw[uw,zL (Ne.symm Py)];exact hd
 have e3:hget (hset H mi (.cells 3 (.ints (aY M x a)))) mi=some (.cells 3 (.ints (aY M x a))):=uB hm;have e4:=M4 H mi (.cells 3 (.ints (aY M x a)));have e5:(aY M x a).length=N:=by simp[aY,hN]
 refine jy.intro [] Tryz.func51 rfl rfl (by decide) (by simp[Tryz.ntmps51]) ?_;rw[Tryz.ntmps51]
 repeat' (first|omega|(first|apply ah|refine aw w8 ?_|refine cY w8 ?_|skip);simp only[go_sem,b1,hr,zA]|apply ag<;>(intro h_;(try simp only[h_]);revert h_)|apply zO|with_reducible intro h_|trivial)
 refine⟨aL.inline (oc rfl rfl rfl hm hN vK ha hl ?_)⟩
 repeat' (first|omega|(first|apply ah|refine cY w8 ?_|refine aw w8 ?_|skip);simp only[go_sem,b1,e0,hp,e1,e2,hs,y08,Tq,X6,zA]|refine az ?_|refine aA ?_|apply ag<;>(intro h_;(try simp only[h_]);revert h_)|apply zO|with_reducible intro h_|trivial)
 refine⟨aL.inline (oc rfl rfl rfl e3 e5 hb dM hl ?_)⟩
 repeat' (first|omega|(first|apply ah|refine aw w8 ?_|refine cY w8 ?_|skip);simp only[go_sem,e4,zA]|apply ag<;>(intro h_;(try simp only[h_]);revert h_)|apply zO|with_reducible intro h_|trivial)
def uE(m M:List Int)(x:Int)(i o:Nat):List Int:=if x<0 then aY M (i:Int) (o:Int) else aY (aY M x (i:Int)) (o:Int) (m.getD x.toNat 0)
def rq(x:Int):Int:=if x<0 then 1 else 0
theorem Rb(m M:List Int)(x:Int)(i o:Nat):(uE m M x i o).length=M.length:=by unfold uE;split<;>simp[aY]
theorem TR{H:Hp}{ri di mi si n N:Nat}{L L0:Int}{M m s:List Int}{x:Int}{a b:Nat}{R:List Int}(hR:uE m M x a b=R)(BE:ri≠mi)(Py:di≠mi)(hr:hget H ri=some (.cells 24 (.lst [.sl 1 si 0 n,.sl 1 mi 0 N,I L])))(hd:hget H di=some (.cells 24 (.lst [roI s,roI m,I L0])))(hm:hget H mi=some (.cells 3 (.ints M)))(hN:M.length=N)(ha:a<N)(hb:b<N)(hl:N<=1000)(hL:0<=L)(Xe:L<=64)(hx:x<m.length)(hmN:m.length<=N)(hp:∀x,x<m.length->0<=m.getD x 0/\m.getD x 0<N)(hs:∀M',(hset H mi (.cells 3 (.ints M'))).all (fun q=>sO (hset H mi (.cells 3 (.ints M'))) q.2)=true){fr:Fr}{K:AV->Fr->Hp->Prop}
  (hK:K (.tup []) fr (hset (hset H mi (.cells 3 (.ints R))) ri (.cells 24 (.lst [.sl 1 si 0 n,.sl 1 mi 0 N,I (L-rq x)])))):jy Tryz.prog 51 [I x,I a,I b,.ptr ri 0,.ptr di 0] fr H K:=by
 subst hR;by_cases h0:x<0
 ·unfold uE rq at hK;rw[zM h0,zM h0]at hK;exact X5 (decide_eq_true h0) BE hr hm hN ha hb hl hL Xe hK
 ·unfold uE rq at hK;rw[zL h0,zL h0,Int.sub_zero,M9 (by rw[uw,zL (Ne.symm BE)];exact hr)]at hK;obtain⟨xn,rfl⟩:∃xn:Nat,x=xn:=⟨x.toNat,by omega⟩;rw[zD]at hK;have h1:=hp xn (by omega);obtain⟨p,fU⟩:∃p:Nat,m.getD xn 0=p:=⟨(m.getD xn 0).toNat,by omega⟩;rw[fU]at hK h1;exact X4 fU BE Py hr hd hm hN ha hb hl (by omega) (by omega) (by omega) (hs _) hK
theorem X3(s m:List Int)(L:Int)(lf pt:List Int)(x y g:Int)(ov fX fY:Bool)(hv:bG s m L=true)(AE:nB s x=fX)(DM:nB s y=fY)(x0: -2<=x)(hx:x<4*s.length)(y0: -2<=y)(hy:y<4*s.length)(g1:x≠y->g=0)(g2:x=y->x<0->g=0\/g=1)(g3:x=y->0<=x->g=1\/g= -1)
  (Ka:∀x y,x<4*s.length->y<4*s.length->lf.getD x 0=lf.getD y 0->Sp.SC (Sp.aM Sp.ai (Sp.ae m) (4*s.length)) x y) (o8:∀a b,a<s.length->b<s.length->pt.getD a 0≠pt.getD b 0->¬bN m a b)
  (hnd:(if x<0 then 1 else 0)+(if y<0/\g=0 then 1 else 0)<=L) (h2:s.length+2<=64) (sZ:0<=x->0<=y->x≠y->HB m lf pt x.toNat y.toNat):
  ∃(F:List Int) (L':Int),Hs.gN s m L 3 0 (Hs.vw s fX fY ov) F L'/\
   ((g≠0/\x<0/\L'=L-1/\aY (aY (aY (aY (m++[(0:Int),0,0,0,0,0,0,0]) ((4*s.length+slot 1 (gW fX fY ov):Nat):Int) ((4*s.length+(4+slot 1 (cK fX fY ov)):Nat):Int)) ((4*s.length+(4+slot 2 (cK fX fY ov)):Nat):Int) ((4*s.length+slot 0 (gW fX fY ov):Nat):Int)) ((4*s.length+(4+slot 3 (cK fX fY ov)):Nat):Int) ((4*s.length+(4+slot 0 (cK fX fY ov)):Nat):Int)) ((4*s.length+slot 2 (gW fX fY ov):Nat):Int) ((4*s.length+slot 3 (gW fX fY ov):Nat):Int)=F)\/
    (g=1/\0<=x/\L'=L/\aY (aY (aY (aY (aY (m++[(0:Int),0,0,0,0,0,0,0]) ((4*s.length+slot 1 (gW fX fY ov):Nat):Int) ((4*s.length+(4+slot 1 (cK fX fY ov)):Nat):Int)) ((4*s.length+(4+slot 2 (cK fX fY ov)):Nat):Int) ((4*s.length+slot 0 (gW fX fY ov):Nat):Int)) x ((4*s.length+slot 3 (gW fX fY ov):Nat):Int)) ((4*s.length+(4+slot 3 (cK fX fY ov)):Nat):Int) ((4*s.length+(4+slot 0 (cK fX fY ov)):Nat):Int)) ((4*s.length+slot 2 (gW fX fY ov):Nat):Int) (m.getD x.toNat 0)=F)\/
    (g= -1/\0<=x/\L'=L/\aY (aY (aY (aY (aY (m++[(0:Int),0,0,0,0,0,0,0]) ((4*s.length+slot 1 (gW fX fY ov):Nat):Int) ((4*s.length+(4+slot 1 (cK fX fY ov)):Nat):Int)) ((4*s.length+(4+slot 2 (cK fX fY ov)):Nat):Int) ((4*s.length+slot 0 (gW fX fY ov):Nat):Int)) x ((4*s.length+(4+slot 0 (cK fX fY ov)):Nat):Int)) ((4*s.length+slot 2 (gW fX fY ov):Nat):Int) ((4*s.length+slot 3 (gW fX fY ov):Nat):Int)) ((4*s.length+(4+slot 3 (cK fX fY ov)):Nat):Int) (m.getD x.toNat 0)=F)\/
    (g=0/\L'=L-rq y-rq x/\uE m (uE m (aY (aY (m++[(0:Int),0,0,0,0,0,0,0]) ((4*s.length+slot 1 (gW fX fY ov):Nat):Int) ((4*s.length+(4+slot 1 (cK fX fY ov)):Nat):Int)) ((4*s.length+(4+slot 2 (cK fX fY ov)):Nat):Int) ((4*s.length+slot 0 (gW fX fY ov):Nat):Int)) y (4*s.length+(4+slot 0 (cK fX fY ov))) (4*s.length+slot 2 (gW fX fY ov))) x (4*s.length+slot 3 (gW fX fY ov)) (4*s.length+(4+slot 3 (cK fX fY ov)))=F)):=by
 have v1:=gP hv;have ha:=(Sp.aE hv).1.aW;have hD:=(Sp.aE hv).1;have DU:∀xn:Nat,nB s (xn:Int)=aB s (xn:Int):=fun xn=>by
  unfold nB;have e1:decide ((xn:Int)= -1)=false:=decide_eq_false (by omega);have e2:decide (0<=(xn:Int))=true:=decide_eq_true (by omega);rw[e1,e2];simp
 have gt:∀xn:Nat,xn<4*s.length->m.getD xn 0=((Sp.ae m xn:Nat):Int):=fun xn h=>(hD.cast h).symm;by_cases gz:g=0
 ·subst gz;by_cases jb:x<0
  ·by_cases vJ:y<0
   ·have c1:(if y<0/\(0:Int)=0 then (1:Int) else 0)=1:=zM ⟨vJ,rfl⟩;rw[zM jb,c1]at hnd;refine⟨_,_,Hs.gN.pA fX fY ov (by omega) h2,.inr (.inr (.inr ⟨rfl,?_,?_⟩))⟩
    ·simp only[rq,zM jb,zM vJ];omega
    ·simp only[uE,zM jb,zM vJ];rfl
   ·obtain⟨yn,rfl⟩:∃yn:Nat,y=yn:=⟨y.toNat,by omega⟩;rw[zM jb]at hnd;refine⟨_,_,Hs.gN.pY fX fY ov yn (by split at hnd<;>omega) h2 (by omega) (by rw[<-DU];exact DM),.inr (.inr (.inr ⟨rfl,?_,?_⟩))⟩
    ·simp only[rq,zM jb,zL vJ];omega
    ·simp only[uE,zM jb,zL vJ,zD,gt yn (by omega)];rfl
  ·obtain⟨xn,rfl⟩:∃xn:Nat,x=xn:=⟨x.toNat,by omega⟩;by_cases vJ:y<0
   ·have c1:(if y<0/\(0:Int)=0 then (1:Int) else 0)=1:=zM ⟨vJ,rfl⟩;rw[c1]at hnd;refine⟨_,_,Hs.gN.pX fX fY ov xn (by split at hnd<;>omega) h2 (by omega) (by rw[<-DU];exact AE),.inr (.inr (.inr ⟨rfl,?_,?_⟩))⟩
    ·simp only[rq,zM vJ,zL jb];omega
    ·simp only[uE,zM vJ,zL jb,zD,gt xn (by omega)];rfl
   ·obtain⟨yn,rfl⟩:∃yn:Nat,y=yn:=⟨y.toNat,by omega⟩;have mu:(xn:Int)≠(yn:Int):=fun e=>by rcases g3 e (by omega) with h|h<;>omega
    have hN:=sZ (by omega) (by omega) mu;simp only[zD]at hN;obtain⟨n1,n2⟩:=hN;refine⟨_,_,Hs.gN.pXY fX fY ov xn yn h2 (by omega) (by omega) (by rw[<-DU];exact AE) (by rw[<-DU];exact DM) (by omega) (fun e=>n2 (by rw[gt xn (by omega),e])) ?_,.inr (.inr (.inr ⟨rfl,?_,?_⟩))⟩
    ·rcases n1 with n1|n1
     ·exact .inr (Ka xn yn (by omega) (by omega) n1)
     ·exact .inl fun h=>o8 _ _ (by omega) (by omega) n1 ((hD.conn (by omega) (by omega)).1 h)
    ·simp only[rq,zL jb,zL vJ];omega
    ·simp only[uE,zL jb,zL vJ,zD,gt xn (by omega),gt yn (by omega)];rfl
 ·have mu:x=y:=zW fun h=>gz (g1 h);subst mu;have hf:fY=fX:=by rw[<-AE,<-DM]
  subst hf;by_cases jb:x<0
  ·rw[zM jb]at hnd;exact⟨_,_,Hs.gN.pE fY ov (by split at hnd<;>omega) h2,.inl ⟨gz,jb,rfl,rfl⟩⟩
  ·obtain⟨xn,rfl⟩:∃xn:Nat,x=xn:=⟨x.toNat,by omega⟩;rcases g3 rfl (by omega) with h|h
   ·refine⟨_,_,Hs.gN.pF fY ov xn h2 (by omega) (by rw[<-DU];exact AE),.inr (.inl ⟨h,by omega,rfl,?_⟩)⟩;simp only[zD,gt xn (by omega)];rfl
   ·refine⟨_,_,Hs.gN.pG fY ov xn h2 (by omega) (by rw[<-DU];exact AE),.inr (.inr (.inl ⟨h,by omega,rfl,?_⟩))⟩;simp only[zD,gt xn (by omega)];rfl
theorem y74(s m:List Int)(L:Int)(lf pt:List Int)(k x y g:Int)(ov:Bool)(hv:bG s m L=true)(hl:lf.length=m.length)(hp:pt.length=s.length)(x0: -2<=x)(hx:x<4*s.length)(y0: -2<=y)(hy:y<4*s.length)(g1:x≠y->g=0)(g2:x=y->x<0->g=0\/g=1)(g3:x=y->0<=x->g=1\/g= -1)
  (Ka:∀x y,x<4*s.length->y<4*s.length->lf.getD x 0=lf.getD y 0->Sp.SC (Sp.aM Sp.ai (Sp.ae m) (4*s.length)) x y) (o8:∀a b,a<s.length->b<s.length->pt.getD a 0≠pt.getD b 0->¬bN m a b):
  ∃(r inv:AV) (e:Int),Fn Tryz.prog 17 [NQ s m L lf pt,ei k x y g ov] (.tup [r,inv,I e])/\(e=0->∃s' m' L',r=dgA s' m' L'/\Hs.gN s m L 3 0 s' m' L')/\y7 r inv e:=by
 have v1:=gP hv;have fM:=v1.s64;have dw:=v1.len;have wc:=v1.l0;have mI:=v1.mj;have hd:=(Sp.aE hv).1;have ha:=hd.aW;obtain⟨e,hP,he⟩:=YS s m L lf pt k x y g ov fM dw hl hp (by omega) (by omega);by_cases e0:e=0
 case neg=>
  have b0:(e !=0)=true:=by simpa [bne] using e0
  refine⟨qb,ei 0 0 0 0 false,e,?_,fun h=>zzA h e0,by first|exact .err|exact .ok⟩;refine Fn.av [.cell 4 24,.cell 5 26,.tmp 6] Tryz.func17 rfl rfl (by decide) (by simp[Tryz.ntmps17]) ?_;rw[Tryz.ntmps17]
  repeat' (first|omega|(try apply ah);simp only[go_sem,b0]|refine az ?_|refine aA ?_|apply ag<;>(intro h_;(try simp only[h_]);revert h_)|apply zO|with_reducible intro h_|trivial)
  all_goals exact aT.refl _
 subst e0;obtain⟨hnd,h2,sZ⟩:=he rfl;have hR:=X7 s m L k x y g ov fM dw hx hy;obtain⟨fX,AE⟩:∃f,nB s x=f:=⟨_,rfl⟩;obtain⟨fY,DM⟩:∃f,nB s y=f:=⟨_,rfl⟩;rw[AE,DM]at hR;have lF:=Ny fX fY ov;have kY:=fun i hi=>y4f s.length i (gW fX fY ov) (cK fX fY ov) fM hi lF.1;have mD:=fun i hi=>y4g s.length i (gW fX fY ov) (cK fX fY ov) fM hi lF.2
 have Kq:(m++[(0:Int),0,0,0,0,0,0,0]).length=m.length+8:=by simp
 have PE:=kY 0 (by omega);have PN:=kY 1 (by omega);have PW:=kY 2 (by omega);have PS:=kY 3 (by omega);have QE:=mD 0 (by omega);have QN:=mD 1 (by omega);have QW:=mD 2 (by omega);have QS:=mD 3 (by omega);clear kY mD;have aC:∀i f,4*s.length+slot i f<m.length+8/\4*s.length+(4+slot i f)<m.length+8:=fun i f=>by have:=y73 i f;omega
 obtain⟨F,L',Au,WT⟩:=X3 s m L lf pt x y g ov fX fY hv AE DM x0 hx y0 hy g1 g2 g3 Ka o8 hnd h2 sZ;have lpe:=(aC 0 (gW fX fY ov)).1;have lpn:=(aC 1 (gW fX fY ov)).1;have JJ:=(aC 2 (gW fX fY ov)).1;have JK:=(aC 3 (gW fX fY ov)).1;have JI:=(aC 0 (cK fX fY ov)).2;have lqn:=(aC 1 (cK fX fY ov)).2;have lqw:=(aC 2 (cK fX fY ov)).2;have JH:=(aC 3 (cK fX fY ov)).2
 clear aC;refine⟨_,ei 4 s.length (s.length+1) 0 false,0,?_,fun _=>⟨_,_,_,rfl,Au⟩,by first|exact .err|exact .ok⟩;clear Au Ka o8 sZ;generalize gW fX fY ov=f0 at*;generalize cK fX fY ov=f1 at*;unfold Hs.vw;generalize tJ fX fY ov=sg0 at*;generalize Cu fX fY ov=sg1 at*;generalize 4*s.length+slot 0 f0=pe at*;generalize 4*s.length+slot 1 f0=pn at*;generalize 4*s.length+slot 2 f0=pw at*
 generalize 4*s.length+slot 3 f0=ps at*;generalize 4*s.length+(4+slot 0 f1)=qe at*;generalize 4*s.length+(4+slot 1 f1)=qn at*;generalize 4*s.length+(4+slot 2 f1)=qw at*;generalize 4*s.length+(4+slot 3 f1)=qs at*;generalize hS:s++[sg0,sg1]=S at*;have lS:S.length=s.length+2:=by rw[<-hS];simp
 generalize m++[(0:Int),0,0,0,0,0,0,0]=M0 at*;obtain⟨M1,q5⟩:∃M1,aY M0 (pn:Int) (qn:Int)=M1:=⟨_,rfl⟩;obtain⟨M2,ph⟩:∃M2,aY M1 (qw:Int) (pe:Int)=M2:=⟨_,rfl⟩;have VY:M1.length=m.length+8:=by rw[<-q5];simp[aY,Kq]
 have Ai:M2.length=m.length+8:=by rw[<-ph];simp[aY,VY]
 rw[q5,ph]at WT;refine Fn.av [.cell 4 24,.cell 5 26,.tmp 6] Tryz.func17 rfl rfl (by decide) (by simp[Tryz.ntmps17]) ?_;rw[Tryz.ntmps17]
 repeat' (first|omega|(first|apply ah|refine aw Iq ?_|refine cY ca ?_|refine aw ca ?_|skip);simp only[go_sem,zA]|refine az ?_|refine aA ?_|apply ag<;>(intro h_;(try simp only[h_]);revert h_)|apply zO|with_reducible intro h_|trivial)
 refine⟨aL.DV rfl hR ?_⟩
 repeat' (first|omega|(first|apply ah|refine aw Iq ?_|refine cY ca ?_|refine aw ca ?_|skip);simp only[go_sem,zA]|refine az ?_|refine aA ?_|apply ag<;>(intro h_;(try simp only[h_]);revert h_)|apply zO|with_reducible intro h_|trivial)
 refine⟨dd.flat rfl (by simp only[go_sem]) (by simp only[go_sem];try rfl) PN rfl ?_⟩
 repeat' (first|omega|(first|apply ah|refine aw Iq ?_|refine cY ca ?_|refine aw ca ?_|skip);simp only[go_sem,zA]|refine az ?_|refine aA ?_|apply ag<;>(intro h_;(try simp only[h_]);revert h_)|apply zO|with_reducible intro h_|trivial)
 refine⟨dd.flat rfl (by simp only[go_sem]) (by simp only[go_sem];try rfl) QN rfl ?_⟩
 repeat' (first|omega|(first|apply ah|refine aw Iq ?_|refine cY ca ?_|refine aw ca ?_|skip);simp only[go_sem,zA]|refine az ?_|refine aA ?_|apply ag<;>(intro h_;(try simp only[h_]);revert h_)|apply zO|with_reducible intro h_|trivial)
 refine⟨aL.inline (oc q5 rfl rfl rfl Kq lpn lqn (by omega) ?_)⟩
 repeat' (first|omega|(first|apply ah|refine aw Iq ?_|refine cY ca ?_|refine aw ca ?_|skip);simp only[go_sem,zA]|refine az ?_|refine aA ?_|apply ag<;>(intro h_;(try simp only[h_]);revert h_)|apply zO|with_reducible intro h_|trivial)
 refine⟨dd.flat rfl (by simp only[go_sem]) (by simp only[go_sem];try rfl) QW rfl ?_⟩
 repeat' (first|omega|(first|apply ah|refine aw Iq ?_|refine cY ca ?_|refine aw ca ?_|skip);simp only[go_sem,zA]|refine az ?_|refine aA ?_|apply ag<;>(intro h_;(try simp only[h_]);revert h_)|apply zO|with_reducible intro h_|trivial)
 refine⟨dd.flat rfl (by simp only[go_sem]) (by simp only[go_sem];try rfl) PE rfl ?_⟩
 repeat' (first|omega|(first|apply ah|refine aw Iq ?_|refine cY ca ?_|refine aw ca ?_|skip);simp only[go_sem,zA]|refine az ?_|refine aA ?_|apply ag<;>(intro h_;(try simp only[h_]);revert h_)|apply zO|with_reducible intro h_|trivial)
 refine⟨aL.inline (oc ph rfl rfl rfl VY lqw lpe (by omega) ?_)⟩;rcases WT with ⟨c1,c2,rfl,c3⟩|⟨rfl,c2,rfl,c3⟩|⟨rfl,c2,rfl,c3⟩|⟨rfl,rfl,c3⟩
 ·obtain⟨A1,wL⟩:∃A1,aY M2 (qs:Int) (qe:Int)=A1:=⟨_,rfl⟩;rw[wL]at c3;have Aj:A1.length=m.length+8:=by rw[<-wL];simp[aY,Ai]
  have Bq:F.length=m.length+8:=by rw[<-c3];simp[aY,Aj]
  have bg:(g !=0)=true:=by simpa [bne] using c1
  have bx:decide (x<0)=true:=decide_eq_true c2
  repeat' (first|omega|(first|apply ah|refine aw Iq ?_|refine cY ca ?_|refine aw ca ?_|skip);simp only[go_sem,bg,bx,zA]|refine az ?_|refine aA ?_|apply ag<;>(intro h_;(try simp only[h_]);revert h_)|apply zO|with_reducible intro h_|trivial)
  refine⟨dd.flat rfl (by simp only[go_sem]) (by simp only[go_sem];try rfl) QS rfl ?_⟩
  repeat' (first|omega|(first|apply ah|refine aw Iq ?_|refine cY ca ?_|refine aw ca ?_|skip);simp only[go_sem,bg,bx,zA]|refine az ?_|refine aA ?_|apply ag<;>(intro h_;(try simp only[h_]);revert h_)|apply zO|with_reducible intro h_|trivial)
  refine⟨dd.flat rfl (by simp only[go_sem]) (by simp only[go_sem];try rfl) QE rfl ?_⟩
  repeat' (first|omega|(first|apply ah|refine aw Iq ?_|refine cY ca ?_|refine aw ca ?_|skip);simp only[go_sem,bg,bx,zA]|refine az ?_|refine aA ?_|apply ag<;>(intro h_;(try simp only[h_]);revert h_)|apply zO|with_reducible intro h_|trivial)
  refine⟨aL.inline (oc wL rfl rfl rfl Ai JH JI (by omega) ?_)⟩
  repeat' (first|omega|(first|apply ah|refine aw Iq ?_|refine cY ca ?_|refine aw ca ?_|skip);simp only[go_sem,bg,bx,zA]|refine az ?_|refine aA ?_|apply ag<;>(intro h_;(try simp only[h_]);revert h_)|apply zO|with_reducible intro h_|trivial)
  refine⟨dd.flat rfl (by simp only[go_sem]) (by simp only[go_sem];try rfl) PW rfl ?_⟩
  repeat' (first|omega|(first|apply ah|refine aw Iq ?_|refine cY ca ?_|refine aw ca ?_|skip);simp only[go_sem,bg,bx,zA]|refine az ?_|refine aA ?_|apply ag<;>(intro h_;(try simp only[h_]);revert h_)|apply zO|with_reducible intro h_|trivial)
  refine⟨dd.flat rfl (by simp only[go_sem]) (by simp only[go_sem];try rfl) PS rfl ?_⟩
  repeat' (first|omega|(first|apply ah|refine aw Iq ?_|refine cY ca ?_|refine aw ca ?_|skip);simp only[go_sem,bg,bx,zA]|refine az ?_|refine aA ?_|apply ag<;>(intro h_;(try simp only[h_]);revert h_)|apply zO|with_reducible intro h_|trivial)
  refine⟨aL.inline (oc c3 rfl rfl rfl Aj JJ JK (by omega) ?_)⟩
  repeat' (first|omega|(first|apply ah|refine aw Iq ?_|refine cY ca ?_|refine aw ca ?_|skip);simp only[go_sem,bg,bx,zA]|refine az ?_|refine aA ?_|apply ag<;>(intro h_;(try simp only[h_]);revert h_)|apply zO|with_reducible intro h_|trivial)
  repeat' (first|omega|(first|apply ah|refine aw Is ?_|refine vi Ir [4,5] [2,3] rfl (by simp only[go_sem,zA]) (by simp only[go_sem,zA]) ?_|refine cY ca ?_|refine aw Iq ?_|skip);simp only[go_sem,zA]|refine az ?_|refine aA ?_|apply ag<;>(intro h_;(try simp only[h_]);revert h_)|apply zO|with_reducible intro h_|trivial)
  repeat' (first|omega|(try apply ah);simp only[go_sem,zA]|refine az ?_|refine aA ?_|apply ag<;>(intro h_;(try simp only[h_]);revert h_)|apply zO|with_reducible intro h_|trivial)
  rw[zU (by omega),zU (by omega),<-lS,<-Bq];exact aT.refl _
 ·obtain⟨xn,rfl⟩:∃xn:Nat,x=xn:=⟨x.toNat,by omega⟩;have bx:decide ((xn:Int)<0)=false:=decide_eq_false (by omega);have e0:(xn:Int).toNat=xn:=zD xn;rw[e0]at c3;have dM:=v1.prd.ok.2 xn (by omega);obtain⟨mx,fU⟩:∃mx:Nat,m.getD xn 0=mx:=⟨(m.getD xn 0).toNat,by omega⟩;rw[fU]at c3 dM;obtain⟨A0,hA0⟩:∃A0,aY M2 (xn:Int) (ps:Int)=A0:=⟨_,rfl⟩;rw[hA0]at c3
  have Ak:A0.length=m.length+8:=by rw[<-hA0];simp[aY,Ai]
  obtain⟨A1,wL⟩:∃A1,aY A0 (qs:Int) (qe:Int)=A1:=⟨_,rfl⟩;rw[wL]at c3;have Aj:A1.length=m.length+8:=by rw[<-wL];simp[aY,Ak]
  have Bq:F.length=m.length+8:=by rw[<-c3];simp[aY,Aj]
  repeat' (first|omega|(first|apply ah|refine aw Iq ?_|refine cY ca ?_|refine aw ca ?_|skip);simp only[go_sem,bx,fU,e0,zA]|refine az ?_|refine aA ?_|apply ag<;>(intro h_;(try simp only[h_]);revert h_)|apply zO|with_reducible intro h_|trivial)
  refine⟨dd.flat rfl (by simp only[go_sem]) (by simp only[go_sem];try rfl) PS rfl ?_⟩
  repeat' (first|omega|(first|apply ah|refine aw Iq ?_|refine cY ca ?_|refine aw ca ?_|skip);simp only[go_sem,bx,fU,e0,zA]|refine az ?_|refine aA ?_|apply ag<;>(intro h_;(try simp only[h_]);revert h_)|apply zO|with_reducible intro h_|trivial)
  refine⟨aL.inline (oc hA0 rfl rfl rfl Ai (by omega) JK (by omega) ?_)⟩
  repeat' (first|omega|(first|apply ah|refine aw Iq ?_|refine cY ca ?_|refine aw ca ?_|skip);simp only[go_sem,bx,fU,e0,zA]|refine az ?_|refine aA ?_|apply ag<;>(intro h_;(try simp only[h_]);revert h_)|apply zO|with_reducible intro h_|trivial)
  refine⟨dd.flat rfl (by simp only[go_sem]) (by simp only[go_sem];try rfl) QS rfl ?_⟩
  repeat' (first|omega|(first|apply ah|refine aw Iq ?_|refine cY ca ?_|refine aw ca ?_|skip);simp only[go_sem,bx,fU,e0,zA]|refine az ?_|refine aA ?_|apply ag<;>(intro h_;(try simp only[h_]);revert h_)|apply zO|with_reducible intro h_|trivial)
  refine⟨dd.flat rfl (by simp only[go_sem]) (by simp only[go_sem];try rfl) QE rfl ?_⟩
  repeat' (first|omega|(first|apply ah|refine aw Iq ?_|refine cY ca ?_|refine aw ca ?_|skip);simp only[go_sem,bx,fU,e0,zA]|refine az ?_|refine aA ?_|apply ag<;>(intro h_;(try simp only[h_]);revert h_)|apply zO|with_reducible intro h_|trivial)
  refine⟨aL.inline (oc wL rfl rfl rfl Ak JH JI (by omega) ?_)⟩
  repeat' (first|omega|(first|apply ah|refine aw Iq ?_|refine cY ca ?_|refine aw ca ?_|skip);simp only[go_sem,bx,fU,e0,zA]|refine az ?_|refine aA ?_|apply ag<;>(intro h_;(try simp only[h_]);revert h_)|apply zO|with_reducible intro h_|trivial)
  refine⟨dd.flat rfl (by simp only[go_sem]) (by simp only[go_sem];try rfl) PW rfl ?_⟩
  repeat' (first|omega|(first|apply ah|refine aw Iq ?_|refine cY ca ?_|refine aw ca ?_|skip);simp only[go_sem,bx,fU,e0,zA]|refine az ?_|refine aA ?_|apply ag<;>(intro h_;(try simp only[h_]);revert h_)|apply zO|with_reducible intro h_|trivial)
  refine⟨aL.inline (oc c3 rfl rfl rfl Aj JJ (by omega) (by omega) ?_)⟩
  repeat' (first|omega|(first|apply ah|refine aw Iq ?_|refine cY ca ?_|refine aw ca ?_|skip);simp only[go_sem,bx,fU,e0,zA]|refine az ?_|refine aA ?_|apply ag<;>(intro h_;(try simp only[h_]);revert h_)|apply zO|with_reducible intro h_|trivial)
  repeat' (first|omega|(first|apply ah|refine aw Is ?_|refine vi Ir [4,5] [2,3] rfl (by simp only[go_sem,zA]) (by simp only[go_sem,zA]) ?_|refine cY ca ?_|refine aw Iq ?_|skip);simp only[go_sem,zA]|refine az ?_|refine aA ?_|apply ag<;>(intro h_;(try simp only[h_]);revert h_)|apply zO|with_reducible intro h_|trivial)
  repeat' (first|omega|(try apply ah);simp only[go_sem,zA]|refine az ?_|refine aA ?_|apply ag<;>(intro h_;(try simp only[h_]);revert h_)|apply zO|with_reducible intro h_|trivial)
  rw[zU (by omega),zU (by omega),<-lS,<-Bq];exact aT.refl _
 ·obtain⟨xn,rfl⟩:∃xn:Nat,x=xn:=⟨x.toNat,by omega⟩;have bx:decide ((xn:Int)<0)=false:=decide_eq_false (by omega);have e0:(xn:Int).toNat=xn:=zD xn;rw[e0]at c3;have dM:=v1.prd.ok.2 xn (by omega);obtain⟨mx,fU⟩:∃mx:Nat,m.getD xn 0=mx:=⟨(m.getD xn 0).toNat,by omega⟩;rw[fU]at c3 dM;obtain⟨A0,hA0⟩:∃A0,aY M2 (xn:Int) (qe:Int)=A0:=⟨_,rfl⟩;rw[hA0]at c3
  have Ak:A0.length=m.length+8:=by rw[<-hA0];simp[aY,Ai]
  obtain⟨A1,wL⟩:∃A1,aY A0 (pw:Int) (ps:Int)=A1:=⟨_,rfl⟩;rw[wL]at c3;have Aj:A1.length=m.length+8:=by rw[<-wL];simp[aY,Ak]
  have Bq:F.length=m.length+8:=by rw[<-c3];simp[aY,Aj]
  repeat' (first|omega|(first|apply ah|refine aw Iq ?_|refine cY ca ?_|refine aw ca ?_|skip);simp only[go_sem,bx,fU,e0,zA]|refine az ?_|refine aA ?_|apply ag<;>(intro h_;(try simp only[h_]);revert h_)|apply zO|with_reducible intro h_|trivial)
  refine⟨dd.flat rfl (by simp only[go_sem]) (by simp only[go_sem];try rfl) QE rfl ?_⟩
  repeat' (first|omega|(first|apply ah|refine aw Iq ?_|refine cY ca ?_|refine aw ca ?_|skip);simp only[go_sem,bx,fU,e0,zA]|refine az ?_|refine aA ?_|apply ag<;>(intro h_;(try simp only[h_]);revert h_)|apply zO|with_reducible intro h_|trivial)
  refine⟨aL.inline (oc hA0 rfl rfl rfl Ai (by omega) JI (by omega) ?_)⟩
  repeat' (first|omega|(first|apply ah|refine aw Iq ?_|refine cY ca ?_|refine aw ca ?_|skip);simp only[go_sem,bx,fU,e0,zA]|refine az ?_|refine aA ?_|apply ag<;>(intro h_;(try simp only[h_]);revert h_)|apply zO|with_reducible intro h_|trivial)
  refine⟨dd.flat rfl (by simp only[go_sem]) (by simp only[go_sem];try rfl) PW rfl ?_⟩
  repeat' (first|omega|(first|apply ah|refine aw Iq ?_|refine cY ca ?_|refine aw ca ?_|skip);simp only[go_sem,bx,fU,e0,zA]|refine az ?_|refine aA ?_|apply ag<;>(intro h_;(try simp only[h_]);revert h_)|apply zO|with_reducible intro h_|trivial)
  refine⟨dd.flat rfl (by simp only[go_sem]) (by simp only[go_sem];try rfl) PS rfl ?_⟩
  repeat' (first|omega|(first|apply ah|refine aw Iq ?_|refine cY ca ?_|refine aw ca ?_|skip);simp only[go_sem,bx,fU,e0,zA]|refine az ?_|refine aA ?_|apply ag<;>(intro h_;(try simp only[h_]);revert h_)|apply zO|with_reducible intro h_|trivial)
  refine⟨aL.inline (oc wL rfl rfl rfl Ak JJ JK (by omega) ?_)⟩
  repeat' (first|omega|(first|apply ah|refine aw Iq ?_|refine cY ca ?_|refine aw ca ?_|skip);simp only[go_sem,bx,fU,e0,zA]|refine az ?_|refine aA ?_|apply ag<;>(intro h_;(try simp only[h_]);revert h_)|apply zO|with_reducible intro h_|trivial)
  refine⟨dd.flat rfl (by simp only[go_sem]) (by simp only[go_sem];try rfl) QS rfl ?_⟩
  repeat' (first|omega|(first|apply ah|refine aw Iq ?_|refine cY ca ?_|refine aw ca ?_|skip);simp only[go_sem,bx,fU,e0,zA]|refine az ?_|refine aA ?_|apply ag<;>(intro h_;(try simp only[h_]);revert h_)|apply zO|with_reducible intro h_|trivial)
  refine⟨aL.inline (oc c3 rfl rfl rfl Aj JH (by omega) (by omega) ?_)⟩
  repeat' (first|omega|(first|apply ah|refine aw Iq ?_|refine cY ca ?_|refine aw ca ?_|skip);simp only[go_sem,bx,fU,e0,zA]|refine az ?_|refine aA ?_|apply ag<;>(intro h_;(try simp only[h_]);revert h_)|apply zO|with_reducible intro h_|trivial)
  repeat' (first|omega|(first|apply ah|refine aw Is ?_|refine vi Ir [4,5] [2,3] rfl (by simp only[go_sem,zA]) (by simp only[go_sem,zA]) ?_|refine cY ca ?_|refine aw Iq ?_|skip);simp only[go_sem,zA]|refine az ?_|refine aA ?_|apply ag<;>(intro h_;(try simp only[h_]);revert h_)|apply zO|with_reducible intro h_|trivial)
  repeat' (first|omega|(try apply ah);simp only[go_sem,zA]|refine az ?_|refine aA ?_|apply ag<;>(intro h_;(try simp only[h_]);revert h_)|apply zO|with_reducible intro h_|trivial)
  rw[zU (by omega),zU (by omega),<-lS,<-Bq];exact aT.refl _
 ·obtain⟨A0,hA0⟩:∃A0,uE m M2 y qe pw=A0:=⟨_,rfl⟩;rw[hA0]at c3;have Ak:A0.length=m.length+8:=by rw[<-hA0,Rb,Ai]
  have Bq:F.length=m.length+8:=by rw[<-c3,Rb,Ak]
  have dL:∀x,x<m.length->0<=m.getD x 0/\m.getD x 0<((m.length+8:Nat):Int):=fun x h=>by have:=v1.prd.ok.2 x (by omega);omega
  have rL:0<=rq y/\0<=rq x/\rq y+rq x<=L:=by
   unfold rq;by_cases a1:x<0<;>by_cases a2:y<0<;>simp[a1,a2]at hnd⊢ <;>omega
  obtain⟨rL1,rL2,rL3⟩:=rL;obtain⟨u,hu⟩:∃u,rq y=u:=⟨_,rfl⟩;obtain⟨w,hw⟩:∃w,rq x=w:=⟨_,rfl⟩
  repeat' (first|omega|(first|apply ah|refine aw Iq ?_|refine cY ca ?_|refine aw ca ?_|skip);simp only[go_sem,zA]|refine az ?_|refine aA ?_|apply ag<;>(intro h_;(try simp only[h_]);revert h_)|apply zO|with_reducible intro h_|trivial)
  refine⟨dd.flat rfl (by simp only[go_sem]) (by simp only[go_sem];try rfl) QE rfl ?_⟩
  repeat' (first|omega|(first|apply ah|refine aw Iq ?_|refine cY ca ?_|refine aw ca ?_|skip);simp only[go_sem,zA]|refine az ?_|refine aA ?_|apply ag<;>(intro h_;(try simp only[h_]);revert h_)|apply zO|with_reducible intro h_|trivial)
  refine⟨dd.flat rfl (by simp only[go_sem]) (by simp only[go_sem];try rfl) PW rfl ?_⟩
  repeat' (first|omega|(first|apply ah|refine aw Iq ?_|refine cY ca ?_|refine aw ca ?_|skip);simp only[go_sem,zA]|refine az ?_|refine aA ?_|apply ag<;>(intro h_;(try simp only[h_]);revert h_)|apply zO|with_reducible intro h_|trivial)
  refine⟨aL.inline (TR hA0 (by omega) (by omega) rfl rfl rfl Ai JI JJ (by omega) (by omega) (by omega) (by omega) (by omega) dL (fun M'=>by simp only[go_sem]) ?_)⟩
  repeat' (first|omega|(first|apply ah|refine aw Iq ?_|refine cY ca ?_|refine aw ca ?_|skip);simp only[go_sem,zA]|refine az ?_|refine aA ?_|apply ag<;>(intro h_;(try simp only[h_]);revert h_)|apply zO|with_reducible intro h_|trivial)
  refine⟨dd.flat rfl (by simp only[go_sem]) (by simp only[go_sem];try rfl) PS rfl ?_⟩
  repeat' (first|omega|(first|apply ah|refine aw Iq ?_|refine cY ca ?_|refine aw ca ?_|skip);simp only[go_sem,zA]|refine az ?_|refine aA ?_|apply ag<;>(intro h_;(try simp only[h_]);revert h_)|apply zO|with_reducible intro h_|trivial)
  refine⟨dd.flat rfl (by simp only[go_sem]) (by simp only[go_sem];try rfl) QS rfl ?_⟩
  repeat' (first|omega|(first|apply ah|refine aw Iq ?_|refine cY ca ?_|refine aw ca ?_|skip);simp only[go_sem,zA]|refine az ?_|refine aA ?_|apply ag<;>(intro h_;(try simp only[h_]);revert h_)|apply zO|with_reducible intro h_|trivial)
  refine⟨aL.inline (TR c3 (by omega) (by omega) rfl rfl rfl Ak JK JH (by omega) (by omega) (by omega) (by omega) (by omega) dL (fun M'=>by simp only[go_sem]) ?_)⟩
  repeat' (first|omega|(first|apply ah|refine aw Iq ?_|refine cY ca ?_|refine aw ca ?_|skip);simp only[go_sem,zA]|refine az ?_|refine aA ?_|apply ag<;>(intro h_;(try simp only[h_]);revert h_)|apply zO|with_reducible intro h_|trivial)
  repeat' (first|omega|(first|apply ah|refine aw Is ?_|refine vi Ir [4,5] [2,3] rfl (by simp only[go_sem,zA]) (by simp only[go_sem,zA]) ?_|refine cY ca ?_|refine aw Iq ?_|skip);simp only[go_sem,zA]|refine az ?_|refine aA ?_|apply ag<;>(intro h_;(try simp only[h_]);revert h_)|apply zO|with_reducible intro h_|trivial)
  repeat' (first|omega|(try apply ah);simp only[go_sem,zA]|refine az ?_|refine aA ?_|apply ag<;>(intro h_;(try simp only[h_]);revert h_)|apply zO|with_reducible intro h_|trivial)
  rw[zU (by omega),zU (by omega),<-lS,<-Bq];exact aT.refl _
end Go.Proofs.YthohfoombimbeaaGreatDoor
