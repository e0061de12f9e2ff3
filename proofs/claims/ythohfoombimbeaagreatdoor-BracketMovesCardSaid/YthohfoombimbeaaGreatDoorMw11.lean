import Derived.Test.YthohfoombimbeaaGreatDoorMw10
import Derived.Test.YthohfoombimbeaaGreatDoorZl
namespace Go.Proofs.YthohfoombimbeaaGreatDoor
open Go Go.RowKit
set_option maxRecDepth 99999
set_option maxHeartbeats 8000000
set_option linter.unusedVariables false
set_option linter.unusedSimpArgs false
def LX:fc:=[(1,[[6,7,9,10],[6,7,9,10],[6,7,9,10],[3,4,5,9,10],[3,4,5,9,10],[9,10],[3,4,5,6,7,8],[3,4,5,6,7,8],[],[]],[[],[],[],[0,1,2],[0,1,2],[],[0,1,2,3,4,5],[0,1,2,3,4,5],[],[]])]
def Z9:Hy:=[(37,[[158],[157],[158],[],[]],[[],[0,1,1000002,1000003],[1],[],[]],[4,5])]
def A6:fc:=[(22,[[89,90,91,92,93,94,95,96,97,98,99,100],[89,90,91,92,93,94,95,96,97,98,99,100],[87,88,90,93,94,95,96,97,98,99,100],[87,88,89,93,94,95,96,97,98,99,100],[87,88,93,94,95,96,97,98,99,100],[87,88,93,94,95,96,97,98,99,100],[87,88,89,90,91,92,94,95,96,97,98],[87,88,89,90,91,92,93,96],[87,88,89,90,91,92,93,96],[87,88,89,90,91,92,93,94,95],[87,88,89,90,91,92,93],[87,88,89,90,91,92,93],[87,88,89,90,91,92],[87,88,89,90,91,92],[]],[[],[],[0,1],[0,1,2],[0,1],[0,1],[0,1,2,3,4,5],[0,1,2,3,4,5,6],[0,1,2,3,4,5,6],[0,1,2,3,4,5,6,7,8],[0,1,2,3,4,5,6],[0,1,2,3,4,5,6],[0,1,2,3,4,5],[0,1,2,3,4,5],[]])]
def Z8:fc:=[(37,[[158],[157],[158],[],[]],[[],[0],[1],[],[]]),(14,[[57,58,59,60,61,62,63,64,65],[56,59,60,61,62,63,64,65],[56,59,60,61,62,63,64,65],[56,57,58,60,61,62,63,64,65,66],[56,57,58,59,62,63,64,65,66],[56,57,58,59,62,63,64,65,66],[56,57,58,59,60,61,64,65],[56,57,58,59,60,61,64,65],[56,57,58,59,60,61,62,63,66],[56,57,58,59,60,61,62,63,66],[59,60,61,64,65],[59,60,61,64,65],[],[]],[[],[0],[0],[0,1,2],[0,1,2,3],[0,1,2,3],[0,1,2,3,4,5],[0,1,2,3,4,5],[0,1,2,3,4,5,6,7],[0,1,2,3,4,5,6,7],[3,4,5,8,9],[3,4,5,8,9],[],[]]),(15,[[69,70,71,72,73],[68,71,72,73],[68,71,72,73],[68,69,70,72,73,74],[68,69,70,71,74],[68,69,70,71,74],[71,72,73],[71,72,73],[],[]],[[],[0],[0],[0,1,2],[0,1,2,3],[0,1,2,3],[3,4,5],[3,4,5],[],[]])]
def y7u:fc:=[(22,[[89,90,91,92,93,94,95,96,97,98,99,100],[89,90,91,92,93,94,95,96,97,98,99,100],[87,88,90,93,94,95,96,97,98,99,100],[87,88,89,93,94,95,96,97,98,99,100],[87,88,93,94,95,96,97,98,99,100],[87,88,93,94,95,96,97,98,99,100],[87,88,89,90,91,92,94,95,96,97,98],[87,88,89,90,91,92,93,96],[87,88,89,90,91,92,93,96],[87,88,89,90,91,92,93,94,95],[87,88,89,90,91,92,93],[87,88,89,90,91,92,93],[87,88,89,90,91,92],[87,88,89,90,91,92],[]],[[],[],[0,1],[0,1,2],[0,1],[0,1],[0,1,2,3,4,5],[0,1,2,3,4,5,6],[0,1,2,3,4,5,6],[0,1,2,3,4,5,6,7,8],[0,1,2,3,4,5,6],[0,1,2,3,4,5,6],[0,1,2,3,4,5],[0,1,2,3,4,5],[]])]++Z8
def EC:wV:=[(37,.node [(0,.node [(1,trD [2,3,4]),(2,trD [1,3,4])]),(1,trD [0,2,3,4])])]
def IM:Tr:=trP [0,1,3,4,6,8] (.node [(2,.node [(5,.node [(7,.node [(10,.node [(9,trD [11,12,13]),(11,trD [9,12,13])])]),(9,trD [7,10,11,12,13])]),(7,.node [(10,.node [(5,.node [(9,trD [11,12,13]),(11,trD [9,12,13])]),(9,.node [(5,trD [11,12,13]),(11,trD [5,12,13])]),(11,.node [(5,trD [9,12,13]),(9,trD [5,12,13])])])]),(9,.node [(5,trD [7,10,11,12,13]),(7,.node [(10,.node [(5,trD [11,12,13]),(11,trD [5,12,13])])])])]),(5,.node [(2,.node [(7,.node [(10,.node [(9,trD [11,12,13]),(11,trD [9,12,13])])]),(9,trD [7,10,11,12,13])]),(7,.node [(2,.node [(10,.node [(9,trD [11,12,13]),(11,trD [9,12,13])])]),(9,trD [2,10,11,12,13])]),(9,.node [(2,trD [7,10,11,12,13]),(7,trD [2,10,11,12,13])])]),(7,.node [(2,.node [(10,.node [(5,.node [(9,trD [11,12,13]),(11,trD [9,12,13])]),(9,.node [(5,trD [11,12,13]),(11,trD [5,12,13])]),(11,.node [(5,trD [9,12,13]),(9,trD [5,12,13])])])]),(5,.node [(2,.node [(10,.node [(9,trD [11,12,13]),(11,trD [9,12,13])])]),(9,trD [2,10,11,12,13])]),(9,.node [(2,.node [(10,.node [(5,trD [11,12,13]),(11,trD [5,12,13])])]),(5,trD [2,10,11,12,13])])]),(9,.node [(2,.node [(5,trD [7,10,11,12,13]),(7,.node [(10,.node [(5,trD [11,12,13]),(11,trD [5,12,13])])])]),(5,.node [(2,trD [7,10,11,12,13]),(7,trD [2,10,11,12,13])]),(7,.node [(2,.node [(10,.node [(5,trD [11,12,13]),(11,trD [5,12,13])])]),(5,trD [2,10,11,12,13])])])])
def IL:Tr:=trP [0,1,3,4] (.node [(2,.node [(6,.node [(5,trD [7,8,9]),(7,trD [5,8,9])])]),(5,trD [2,6,7,8,9])])
def It:Tr:=trP [0,2,3,4,6,7,9] (.node [(1,.node [(5,trD [8,10,11,12,13,14]),(8,.node [(10,.node [(5,trD [11,12,13,14]),(11,.node [(12,.node [(5,trD [13,14]),(13,trD [5,14])])])])])]),(5,.node [(1,trD [8,10,11,12,13,14]),(8,.node [(10,.node [(1,trD [11,12,13,14]),(11,.node [(12,.node [(1,trD [13,14]),(13,trD [1,14])])])])])]),(8,.node [(10,.node [(1,.node [(5,trD [11,12,13,14]),(11,.node [(12,.node [(5,trD [13,14]),(13,trD [5,14])])])]),(5,.node [(1,trD [11,12,13,14]),(11,.node [(12,.node [(1,trD [13,14]),(13,trD [1,14])])])]),(11,.node [(12,.node [(1,.node [(5,trD [13,14]),(13,trD [5,14])]),(5,.node [(1,trD [13,14]),(13,trD [1,14])]),(13,.node [(1,trD [5,14]),(5,trD [1,14])])])])])])])
def IY:Tr:= .node [(0,.node [(1,trD [2,3,4]),(2,trD [1,3,4])]),(1,trD [0,2,3,4])]
theorem X8(s m:List Int)(L:Int)(hs:0<s.length)(hm:0<m.length)(h1:s.length<=1000)(h2:m.length<=1000):
  nD Tryz.prog 57 [dgA s m L] (.agg [.sl 1 4 0 s.length,.sl 1 7 0 m.length,I L]) [(7,.cells 3 (.ints m)),(4,.cells 3 (.ints s))]:=by
 have c1:=TU s hs (by omega);have c2:=TU m hm (by omega);refine nD.intro [.cell 2 24] Tryz.func57 rfl rfl (by decide) (by simp[Tryz.ntmps57]) ?_;rw[Tryz.ntmps57]
 repeat' (first|omega|(first|apply ah|refine aw LX ?_|skip);simp only[go_sem,zA]|apply ag<;>(intro h_;(try simp only[h_]);revert h_)|apply zO|with_reducible intro h_|trivial)
 refine⟨dd.own (h:=c1) (by simp only[go_sem]) (by simp only[go_sem];try rfl) ?_⟩
 repeat' (first|omega|(first|apply ah|refine aw LX ?_|skip);simp only[go_sem,zA]|apply ag<;>(intro h_;(try simp only[h_]);revert h_)|apply zO|with_reducible intro h_|trivial)
 refine⟨dd.own (h:=c2) (by simp only[go_sem]) (by simp only[go_sem];try rfl) ?_⟩
 repeat' (first|omega|(first|apply ah|refine aw LX ?_|skip);simp only[go_sem,zA]|apply ag<;>(intro h_;(try simp only[h_]);revert h_)|apply zO|with_reducible intro h_|trivial)
def dU(N:Nat)(f:Nat->Nat):List Int:=(List.range N).map fun i=>((f i:Nat):Int)
def gd(N:Nat)(f:Nat->Bool):List Bool:=(List.range N).map f
theorem Sj(N:Nat)(f:Nat->Nat):(dU N f).length=N:=by simp[dU]
theorem y4d(N:Nat)(f:Nat->Bool):(gd N f).length=N:=by simp[gd]
theorem Si{N:Nat}(f:Nat->Nat){x:Nat}(h:x<N):(dU N f).getD x 0=(f x:Nat):=by simp[dU,zB,h]
theorem IX{N:Nat}(f:Nat->Bool){x:Nat}(h:x<N):(gd N f).getD x false=f x:=by simp[gd,zB,h]
theorem L9{N:Nat}(f:Nat->Nat)(x v:Nat):(dU N f).set x (v:Int)=dU N fun i=>if i=x then v else f i:=by
 apply List.ext_getElem?;intro i;rw[List.getElem?_set];by_cases h:x=i
 ·subst h;by_cases h2:x<N<;>simp[dU,h2]
 ·rw[zL h];by_cases h2:i<N
  ·simp[dU,h2,Ne.symm h]
  ·simp[dU,h2]
theorem Sh{N:Nat}(f:Nat->Bool)(x:Nat)(v:Bool):(gd N f).set x v=gd N fun i=>if i=x then v else f i:=by
 apply List.ext_getElem?;intro i;rw[List.getElem?_set];by_cases h:x=i
 ·subst h;by_cases h2:x<N<;>simp[gd,h2]
 ·rw[zL h];by_cases h2:i<N
  ·simp[gd,h2,Ne.symm h]
  ·simp[gd,h2]
theorem NA(N:Nat):List.replicate N (0:Int)=dU N fun i=>if i<0 then i else 0:=by
 apply List.ext_getElem?;intro i;by_cases h:i<N<;>simp[dU,h]
theorem Nz(N:Nat):List.replicate N false=gd N fun _=>false:=by
 apply List.ext_getElem?;intro i;by_cases h:i<N<;>simp[gd,h]
theorem HU{N:Nat}{si al aj h g H G:Nat->Nat}(T:Sp.bE N si al aj h g H G){x:Nat}(hx:x<N):aj x<N:=by
 rcases T.cases x with ⟨k,rfl⟩|⟨k,rfl⟩|⟨k,rfl⟩|⟨k,rfl⟩|e
 ·rw[T.t1];exact(T.lt _).2.2.2
 ·rw[T.vj];exact(T.lt _).2.2.1
 ·rw[T.t3];exact(T.lt _).2.1
 ·rw[T.vk];exact(T.lt _).1
 ·rw[T.t0 x e];exact hx
def sX(f:Nat->Bool)(N:Nat):Nat->Nat
 |0=>0
 |n+1=>if f (N-1-n) then N-1-n else sX f N n
theorem y4e(s m:List Int)(L k y g:Int)(ov:Bool)(h:Nat)(hv:bG s m L=true)(hh:h<4*s.length):
  ∃(r inv:AV) (e:Int),Fn Tryz.prog 20 [dgA s m L,ei k h y g ov] (.tup [r,inv,I e])/\(e=0->∃s' m' L',r=dgA s' m' L'/\Hs.gN s m L 5 0 s' m' L')/\y7 r inv e:=by
 have v1:=gP hv;have fM:=v1.s64;have dw:=v1.len;have hd:=(Sp.aE hv).1;have ha:=hd.aW;obtain⟨A,B,C,ok,hT,dt⟩:=YT s m L h hv hh;cases ok with
 |false=>
  refine⟨qb,ei 0 0 0 0 false,6,?_,fun h=>by omega,by first|exact .err|exact .ok⟩;refine Fn.av [.cell 4 24,.cell 5 26,.tmp 6] Tryz.func20 rfl rfl (by decide) (by simp[Tryz.ntmps20]) ?_;rw[Tryz.ntmps20]
  repeat' (first|omega|(try apply ah);simp only[go_sem,]|refine az ?_|refine aA ?_|apply ag<;>(intro h_;(try simp only[h_]);revert h_)|apply zO|with_reducible intro h_|trivial)
  all_goals exact aT.refl _
 |true=>
  obtain⟨i,j,e1,e2,e3,n1,n2,n3,n4,rfl,rfl,rfl⟩:=dt rfl;have li:i<4*s.length:=by rw[<-e1];exact CK (ha.lt _ hh)
  have lj:j<4*s.length:=by rw[<-e2];exact CK (ha.lt _ li)
  have Au:=Hs.gN.sl (s:=s) (m:=m) (L:=L) h i j hh e1 e2 e3 n1 n2 n3 n4;obtain⟨T,_⟩:=Hs.vh ha rfl hh li lj n1 n2 n3 e1 e2 e3;have Dj:∀x,gT s m x=x\/gT s m x=Sp.ae m x:=fun x=>by unfold gT;split<;>simp
  have E0:=Hs.sD ha hh e1 (gT s m h) (Dj h);have E1:=Hs.sD ha li e2 (gT s m i) (Dj i);have E2:=Hs.sD ha lj e3 (gT s m j) (Dj j);obtain⟨o0,xx⟩:∃o,gT s m h=o:=⟨_,rfl⟩;obtain⟨o1,nt⟩:∃o,gT s m i=o:=⟨_,rfl⟩;obtain⟨o2,Dy⟩:∃o,gT s m j=o:=⟨_,rfl⟩;rw[xx]at E0;rw[nt]at E1;rw[Dy]at E2
  have VV:o0<4*s.length:=by rw[<-xx];rcases Dj h with g|g<;>rw[g];exact hh;exact ha.lt _ hh
  have VU:o1<4*s.length:=by rw[<-nt];rcases Dj i with g|g<;>rw[g];exact li;exact ha.lt _ li
  have VT:o2<4*s.length:=by rw[<-Dy];rcases Dj j with g|g<;>rw[g];exact lj;exact ha.lt _ lj
  rw[xx,nt,Dy]at hT;unfold vv at hT;have ln0:=ha.lt _ VV;have ln1:=ha.lt _ VU;have ln2:=ha.lt _ VT;have lb0:=Hs.aG VV;have mg:=Hs.aG VU;have lb2:=Hs.aG VT;have la0:=Hs.aG ln0;have la1:=Hs.aG ln1;have VW:=Hs.aG ln2;have JW:=Hs.NH T E0 E1 E2;have Ws:=Hs.Oa T E0 E1 E2;generalize Sp.ae m o0=c0 at*;generalize Sp.ae m o1=c1 at*;generalize Sp.ae m o2=c2 at*
  generalize Sp.af o0=b0 at*;generalize Sp.af o1=b1 at*;generalize Sp.af o2=b2 at*;generalize Sp.af c0=a0 at*;generalize Sp.af c1=a1 at*;generalize Sp.af c2=a2 at*;have OL:0<s.length:=by omega
  have hCl:=X8 s m L OL (by omega) (by omega) (by omega);let FT:Nat->Nat->Nat:=fun q=>if q=0 then id else if q=1 then Hs.p5 id b0 o0 c0 a0 else if q=2 then Hs.p5 (Hs.p5 id b0 o0 c0 a0) b1 o1 c1 a1 else Hs.p5 (Hs.p5 (Hs.p5 id b0 o0 c0 a0) b1 o1 c1 a1) b2 o2 c2 a2
  let FO:Nat->Nat->Bool:=fun q=>if q=0 then (fun _=>false) else if q=1 then Hs.rO (fun _=>false) b0 a0 else if q=2 then Hs.rO (Hs.rO (fun _=>false) b0 a0) b1 a1 else Hs.rO (Hs.rO (Hs.rO (fun _=>false) b0 a0) b1 a1) b2 a2
  let nx:Nat->Nat:=fun u=>Sp.ai (Hs.bF h i j (Sp.ae m (Hs.bF h i j u)))
  let Qj:Nat->Bool:=fun u=>FO 3 u&&(FO 3 (nx u)&&(FO 3 (nx (nx u))&&decide (nx (nx (nx u))=u)))
  refine⟨dgA s (Hs.oL m s.length (Hs.bF h i j)) L,ei 5 (sX Qj m.length m.length) 0 0 false,0,?_,fun _=>⟨_,_,_,rfl,Au⟩,by first|exact .err|exact .ok⟩;refine Fn.av [.cell 4 24,.cell 5 26,.tmp 6] Tryz.func20 rfl rfl (by decide) (by simp[Tryz.ntmps20]) ?_;rw[Tryz.ntmps20]
  repeat' (first|omega|(try apply ah);simp only[go_sem,zA]|refine az ?_|refine aA ?_|apply ag<;>(intro h_;(try simp only[h_]);revert h_)|apply zO|with_reducible intro h_|trivial)
  refine dr.intro (fun n fr H=>∃q:Nat,q<=m.length/\n=m.length-q/\fr=[(40,I q),(39,I m.length),(9,.sl 1 5 0 m.length),(7,.ptr 4 0),(6,I 0),(5,.ptr 3 0),(4,.ptr 2 0),(3,.ptr 1 0),(2,.ptr 0 0)]/\H=[(5,.cells 3 (.ints (dU m.length fun i=>if i<q then i else 0))),(4,.cells 99 (.lst [I b0,I o0,I c0,I a0,I b1,I o1,I c1,I a1,I b2,I o2,I c2,I a2])),(3,.cells 26 (.lst [I 0,I 0,I 0,I 0,.bool false])),(2,.cells 24 (.lst [.nils,.nils,I 0])),(1,.cells 26 (.lst [I k,I h,I y,I g,.bool ov])),(0,.cells 24 (.lst [roI s,roI m,I L]))]) ?_ ?_
  ·refine⟨_,_,_,?_,0,by omega,rfl,rfl,rfl⟩;rw[<-NA];refine Wk.sub ?_ ?_<;>simp only[go_sem]
  rintro n fr H ⟨q,hq,rfl,rfl,rfl⟩;have lF:=Sj m.length fun i=>if i<q then i else 0;by_cases qJ:q<m.length
  ·have bq:decide ((q:Int)<m.length)=true:=by simp;omega
   have es:(dU m.length fun i=>if i<q then i else 0).set q (q:Int)=dU m.length fun i=>if i<q+1 then i else 0:=by
    rw[L9];congr 1;funext i;by_cases e:i=q
    ·rw[zM e,zM (by omega),e]
    ·rw[zL e];by_cases e2:i<q
     ·rw[zM e2,zM (by omega)]
     ·rw[zL e2,zL (by omega)]
   generalize (dU m.length fun i=>if i<q then i else 0)=R at*
   repeat' (first|omega|(try apply ah);simp only[go_sem,bq,lF]|refine az ?_|refine aA ?_|apply ag<;>(intro h_;(try simp only[h_]);revert h_)|apply zO|with_reducible intro h_|trivial)
   refine⟨_,_,_,?_,?_,⟨q+1,by omega,rfl,rfl,rfl⟩⟩
   ·omega
   ·rw[<-es];refine Wk.sub ?_ ?_<;>simp only[go_sem]
  ·obtain rfl:q=m.length:=by omega
   have bq:decide ((m.length:Int)<m.length)=false:=by simp
   have e0:(dU m.length fun i=>if i<m.length then i else 0)=dU m.length (FT 0):=by
    unfold dU;refine List.map_congr_left fun i hi=>?_;show ((if i<m.length then i else 0:Nat):Int)=_;rw[zM (zK.1 hi)];rfl
   rw[e0]
   repeat' (first|omega|(try apply ah);simp only[go_sem,bq]|refine az ?_|refine aA ?_|apply ag<;>(intro h_;(try simp only[h_]);revert h_)|apply zO|with_reducible intro h_|trivial)
   refine dr.intro (fun n fr H=>∃q:Nat,q<=3/\n=3-q/\fr=[(53,I q),(52,.agg [I b0,I o0,I c0,I a0,I b1,I o1,I c1,I a1,I b2,I o2,I c2,I a2]),(11,.sl 1 6 0 m.length),(9,.sl 1 5 0 m.length),(7,.ptr 4 0),(6,I 0),(5,.ptr 3 0),(4,.ptr 2 0),(3,.ptr 1 0),(2,.ptr 0 0)]/\H=[(6,.cells 4 (.bools (gd m.length (FO q)))),(5,.cells 3 (.ints (dU m.length (FT q)))),(4,.cells 99 (.lst [I b0,I o0,I c0,I a0,I b1,I o1,I c1,I a1,I b2,I o2,I c2,I a2])),(3,.cells 26 (.lst [I 0,I 0,I 0,I 0,.bool false])),(2,.cells 24 (.lst [.nils,.nils,I 0])),(1,.cells 26 (.lst [I k,I h,I y,I g,.bool ov])),(0,.cells 24 (.lst [roI s,roI m,I L]))]) ?_ ?_
   ·refine⟨_,_,_,?_,0,by omega,rfl,rfl,rfl⟩;rw[show FO 0=fun _=>false from rfl,<-Nz];refine Wk.sub ?_ ?_<;>simp only[go_sem]
   rintro n fr H ⟨q,hq,rfl,rfl,rfl⟩;have lF:=Sj m.length (FT q);have lG:=y4d m.length (FO q);by_cases hq3:q<3
   ·have bq:decide ((q:Int)<3)=true:=by rw[decide_eq_true_iff];omega
    obtain⟨b,o,c,a,lb,lc,la,lo,bC,hO1,Ge⟩:∃b o c a:Nat,b<m.length/\c<m.length/\a<m.length/\o<m.length/\FT (q+1)=Hs.p5 (FT q) b o c a/\FO (q+1)=Hs.rO (FO q) b a/\(([I b0,I o0,I c0,I a0,I b1,I o1,I c1,I a1,I b2,I o2,I c2,I a2]:List AV).drop (q*4)).take 4=[I b,I o,I c,I a]:=by
     rcases (show q=0\/q=1\/q=2 by omega) with rfl|rfl|rfl
     ·exact⟨b0,o0,c0,a0,by omega,by omega,by omega,by omega,rfl,rfl,rfl⟩
     ·exact⟨b1,o1,c1,a1,by omega,by omega,by omega,by omega,rfl,rfl,rfl⟩
     ·exact⟨b2,o2,c2,a2,by omega,by omega,by omega,by omega,rfl,rfl,rfl⟩
    have et:((dU m.length (FT q)).set b (c:Int)).set a (o:Int)=dU m.length (FT (q+1)):=by
     rw[L9,L9,bC];rfl
    have eo:((gd m.length (FO q)).set b true).set a true=gd m.length (FO (q+1)):=by
     rw[Sh,Sh,hO1];rfl
    generalize FT q=ft at*;generalize FO q=fo at*;generalize dU m.length ft=R at*;generalize gd m.length fo=S at*
    repeat' (first|omega|(try apply ah);simp only[go_sem,bq,Ge,lF,lG,zzF]|apply ag<;>(intro h_;(try simp only[h_]);revert h_)|apply zO|with_reducible intro h_|trivial)
    refine a8.cut [(53,I q),(52,.agg [I b0,I o0,I c0,I a0,I b1,I o1,I c1,I a1,I b2,I o2,I c2,I a2]),(13,.ptr 7 0),(11,.sl 1 6 0 m.length),(9,.sl 1 5 0 m.length),(7,.ptr 4 0),(6,I 0),(5,.ptr 3 0),(4,.ptr 2 0),(3,.ptr 1 0),(2,.ptr 0 0)] [(7,.cells 98 (.lst [I b,I o,I c,I a])),(6,.cells 4 (.bools S)),(5,.cells 3 (.ints (dU m.length (FT (q+1))))),(4,.cells 99 (.lst [I b0,I o0,I c0,I a0,I b1,I o1,I c1,I a1,I b2,I o2,I c2,I a2])),(3,.cells 26 (.lst [I 0,I 0,I 0,I 0,.bool false])),(2,.cells 24 (.lst [.nils,.nils,I 0])),(1,.cells 26 (.lst [I k,I h,I y,I g,.bool ov])),(0,.cells 24 (.lst [roI s,roI m,I L]))] ?_ ?_
    ·repeat' (first|omega|(first|apply ah|refine a8.aD (id:=14) (IM) (by decide+kernel) mixed ?_|refine a8.aD (id:=15) (IL) (by decide+kernel) mixed ?_|refine a8.aD (id:=22) (It) (by decide+kernel) mixed ?_|refine a8.aD (id:=37) (IY) (by decide+kernel) mixed ?_|refine aw y7u ?_|refine cY A6 ?_|refine gH EC ?_|skip);simp only[go_sem,lF,lG,zzF,IY,IM,IL,It]|apply ag<;>(intro h_;(try simp only[h_]);revert h_)|apply zO|with_reducible intro h_|trivial)
     all_goals (rw[<-et];refine Wk.sub ?_ ?_<;>(simp only[go_sem]))
    repeat' (first|omega|(try apply ah);simp only[go_sem,bq]|apply ag<;>(intro h_;(try simp only[h_]);revert h_)|apply zO|with_reducible intro h_|trivial)
    refine a8.yX [(53,I q),(52,.agg [I b0,I o0,I c0,I a0,I b1,I o1,I c1,I a1,I b2,I o2,I c2,I a2]),(11,.sl 1 6 0 m.length),(9,.sl 1 5 0 m.length),(7,.ptr 4 0),(6,I 0),(5,.ptr 3 0),(4,.ptr 2 0),(3,.ptr 1 0),(2,.ptr 0 0)] [(6,.cells 4 (.bools (gd m.length (FO (q+1))))),(5,.cells 3 (.ints (dU m.length (FT (q+1))))),(4,.cells 99 (.lst [I b0,I o0,I c0,I a0,I b1,I o1,I c1,I a1,I b2,I o2,I c2,I a2])),(3,.cells 26 (.lst [I 0,I 0,I 0,I 0,.bool false])),(2,.cells 24 (.lst [.nils,.nils,I 0])),(1,.cells 26 (.lst [I k,I h,I y,I g,.bool ov])),(0,.cells 24 (.lst [roI s,roI m,I L]))] ?_ ?_
    ·repeat' (first|omega|(first|apply ah|refine a8.aD (id:=14) (IM) (by decide+kernel) mixed ?_|refine a8.aD (id:=15) (IL) (by decide+kernel) mixed ?_|refine a8.aD (id:=22) (It) (by decide+kernel) mixed ?_|refine a8.aD (id:=37) (IY) (by decide+kernel) mixed ?_|refine aw y7u ?_|refine cY A6 ?_|refine gH EC ?_|skip);simp only[go_sem,lF,lG,zzF,IY,IM,IL,It]|apply ag<;>(intro h_;(try simp only[h_]);revert h_)|apply zO|with_reducible intro h_|trivial)
     all_goals (rw[<-eo];refine Wk.sub ?_ ?_<;>(simp only[go_sem]))
    repeat' (first|omega|(try apply ah);simp only[go_sem,bq]|apply ag<;>(intro h_;(try simp only[h_]);revert h_)|apply zO|with_reducible intro h_|trivial)
    refine⟨_,_,_,?_,?_,⟨q+1,by omega,rfl,rfl,rfl⟩⟩
    ·omega
    ·refine Wk.sub ?_ ?_<;>simp only[go_sem]
   ·obtain rfl:q=3:=by omega
    have bq:decide (((3:Nat):Int)<3)=false:=by decide
    repeat' (first|omega|(try apply ah);simp only[go_sem,bq]|refine az ?_|refine aA ?_|apply ag<;>(intro h_;(try simp only[h_]);revert h_)|apply zO|with_reducible intro h_|trivial)
    refine⟨aL.DV rfl hCl ?_⟩
    repeat' (first|omega|(try apply ah);simp only[go_sem,bq]|refine az ?_|refine aA ?_|apply ag<;>(intro h_;(try simp only[h_]);revert h_)|apply zO|with_reducible intro h_|trivial)
    have Qx:Hs.re (Sp.ae m) (Sp.af (Hs.t3 h i j 0)) (iX (Hs.t3 h i j 1)) (Sp.ai (Hs.t3 h i j 1)) (Hs.t3 h i j 0) b0 o0 c0 a0:=E0;have Qw:Hs.re (Sp.ae m) (Sp.af (Hs.t3 h i j 1)) (iX (Hs.t3 h i j 2)) (Sp.ai (Hs.t3 h i j 2)) (Hs.t3 h i j 1) b1 o1 c1 a1:=E1;have Qv:Hs.re (Sp.ae m) (Sp.af (Hs.t3 h i j 2)) (iX (Hs.t3 h i j 3)) (Sp.ai (Hs.t3 h i j 3)) (Hs.t3 h i j 2) b2 o2 c2 a2:=E2
    have hFT:FT 3=Hs.p5 (Hs.p5 (Hs.p5 id b0 o0 c0 a0) b1 o1 c1 a1) b2 o2 c2 a2:=rfl;have hFO:FO 3=Hs.rO (Hs.rO (Hs.rO (fun _=>false) b0 a0) b1 a1) b2 a2:=rfl;have tR:∀x,_:=JW;rw[<-hFT]at tR;have yA:∀x,_:=Ws;rw[<-hFO]at yA;generalize FT 3=ft at*;generalize Gz:FO 3=fo at*
    refine dr.intro (fun n fr H=>∃(u:Nat) (M:List Int),u<=m.length/\n=m.length-u/\Hs.y8 (4*s.length) (Sp.ae m) (fun x=>Hs.bF h i j (Sp.ae m (Hs.bF h i j x))) M (fun x=>∃w,w<u/\Hs.jq (fun k=>Sp.af (Hs.t3 h i j k)) (fun k=>Sp.ai (Hs.t3 h i j k)) w/\(x=Hs.bF h i j w\/x=Hs.bF h i j (Sp.ae m w)))/\fr=[(81,I u),(80,I m.length),(79,.sl 1 6 0 m.length),(14,.ptr 15 0),(11,.sl 1 6 0 m.length),(9,.sl 1 5 0 m.length),(7,.ptr 4 0),(6,I 0),(5,.ptr 3 0),(4,.ptr 2 0),(3,.ptr 1 0),(2,.ptr 0 0)]/\
     H=[(15,.cells 24 (.lst [.sl 1 11 0 s.length,.sl 1 14 0 m.length,I L])),(14,.cells 3 (.ints M)),(11,.cells 3 (.ints s)),(6,.cells 4 (.bools (gd m.length fo))),(5,.cells 3 (.ints (dU m.length ft))),(4,.cells 99 (.lst [I b0,I o0,I c0,I a0,I b1,I o1,I c1,I a1,I b2,I o2,I c2,I a2])),(3,.cells 26 (.lst [I 0,I 0,I 0,I 0,.bool false])),(2,.cells 24 (.lst [.nils,.nils,I 0])),(1,.cells 26 (.lst [I k,I h,I y,I g,.bool ov])),(0,.cells 24 (.lst [roI s,roI m,I L]))]) ?_ ?_
    ·refine⟨_,_,_,?_,0,m,by omega,rfl,⟨dw,fun x hx=> .inr (hd.cast hx).symm,fun x ⟨w,hw,_⟩=>by omega⟩,rfl,rfl⟩;refine Wk.sub ?_ ?_<;>simp only[go_sem]
    rintro n fr H ⟨u,M,hu,rfl,J,rfl,rfl⟩;have lM:M.length=m.length:=by rw[J.len,dw]
    by_cases rZ:u<m.length
    ·have bu:decide ((u:Int)<m.length)=true:=by simp;omega
     have gG:=IX fo rZ;have lx:=ha.lt u (by omega);have cx:=(hd.cast (x:=u) (by omega)).symm;cases Gy:fo u with
     |false=>
      rw[Gy]at gG;have no:¬Hs.jq (fun k=>Sp.af (Hs.t3 h i j k)) (fun k=>Sp.ai (Hs.t3 h i j k)) u:=fun e=>by rw[(yA u).2 e]at Gy;cases Gy
      repeat' (first|omega|(try apply ah);simp only[go_sem,bu,gG,lG]|refine az ?_|refine aA ?_|apply ag<;>(intro h_;(try simp only[h_]);revert h_)|apply zO|with_reducible intro h_|trivial)
      refine⟨_,_,_,?_,?_,⟨u+1,M,by omega,rfl,J.mono fun x ⟨w,w1,w2,w3⟩=>?_,rfl,rfl⟩⟩
      ·omega
      ·refine Wk.sub ?_ ?_<;>simp only[go_sem]
      ·by_cases e:w=u
       ·rw[e]at w2;exact zzA w2 no
       ·exact⟨w,by omega,w2,w3⟩
     |true=>
      rw[Gy]at gG;have yo:=(yA u).1 Gy;have t1:=Hs.Fp T ha (show u<4*s.length by omega);have f1:=(tR u).1 yo;have f2:ft (Sp.ae m u)=Hs.bF h i j (Sp.ae m u):=by
       rcases Hs.Fo T ha (show u<4*s.length by omega) yo with g|g
       ·exact(tR _).1 g
       ·by_cases g2:Hs.jq (fun k=>Sp.af (Hs.t3 h i j k)) (fun k=>Sp.ai (Hs.t3 h i j k)) (Sp.ae m u)
        ·exact(tR _).1 g2
        ·rw[(tR _).2 g2];exact g.symm
      have g1:=Si ft rZ;have g2:=Si (N:=m.length) ft (x:=Sp.ae m u) (by omega);rw[f1]at g1;rw[f2]at g2;have q1:Hs.bF h i j u<4*s.length:=HU T (by omega);have q2:Hs.bF h i j (Sp.ae m u)<4*s.length:=HU T lx
      have J2:=J.join (Z':=fun x=>∃w,w<u+1/\Hs.jq (fun k=>Sp.af (Hs.t3 h i j k)) (fun k=>Sp.ai (Hs.t3 h i j k)) w/\(x=Hs.bF h i j w\/x=Hs.bF h i j (Sp.ae m w))) q1 q2 t1.1 t1.2 (fun x ⟨w,w1,w2,w3⟩=>by
       by_cases e:w=u
       ·subst e;exact .inr w3
       ·exact .inl ⟨w,by omega,w2,w3⟩)
      obtain⟨M',GS⟩:∃M',aY M (Hs.bF h i j u:Nat) (Hs.bF h i j (Sp.ae m u):Nat)=M':=⟨_,rfl⟩;rw[GS]at J2;generalize Sp.ae m u=au at*;generalize Hs.bF h i j u=tu at*;generalize Hs.bF h i j au=ta at*
      repeat' (first|omega|(first|apply ah|refine aw Z8 ?_|refine cY A6 ?_|refine aw A6 ?_|refine gH EC ?_|skip);simp only[go_sem,bu,gG,lG,lF,g1,g2,cx]|apply ag<;>(intro h_;(try simp only[h_]);revert h_)|apply zO|with_reducible intro h_|trivial)
      refine⟨aL.inline (oc GS (by first|rfl|exact g1) (by first|rfl|exact g2) rfl lM (by omega) (by omega) (by omega) ?_)⟩
      repeat' (first|omega|(try apply ah);simp only[go_sem,bu]|refine az ?_|refine aA ?_|apply ag<;>(intro h_;(try simp only[h_]);revert h_)|apply zO|with_reducible intro h_|trivial)
      refine⟨_,_,_,?_,?_,⟨u+1,M',by omega,rfl,J2,rfl,rfl⟩⟩
      ·omega
      ·refine Wk.sub ?_ ?_<;>simp only[go_sem]
    ·obtain rfl:u=m.length:=by omega
     have bu:decide ((m.length:Int)<m.length)=false:=by simp
     repeat' (first|omega|(try apply ah);simp only[go_sem,bu]|refine az ?_|refine aA ?_|apply ag<;>(intro h_;(try simp only[h_]);revert h_)|apply zO|with_reducible intro h_|trivial)
     refine dr.intro (fun n fr H=>∃(q:Nat) (M:List Int),q<=3/\n=3-q/\Hs.y8 (4*s.length) (Sp.ae m) (fun x=>Hs.bF h i j (Sp.ae m (Hs.bF h i j x))) M (fun x=>(∃w,w<4*s.length/\Hs.jq (fun k=>Sp.af (Hs.t3 h i j k)) (fun k=>Sp.ai (Hs.t3 h i j k)) w/\(x=Hs.bF h i j w\/x=Hs.bF h i j (Sp.ae m w)))\/(0<q/\(x=b0\/x=a0))\/(1<q/\(x=b1\/x=a1))\/2<q/\(x=b2\/x=a2))/\fr=[(104,I q),(103,.agg [I b0,I o0,I c0,I a0,I b1,I o1,I c1,I a1,I b2,I o2,I c2,I a2]),(14,.ptr 15 0),(11,.sl 1 6 0 m.length),(7,.ptr 4 0),(6,I 0),(5,.ptr 3 0),(4,.ptr 2 0),(3,.ptr 1 0),(2,.ptr 0 0)]/\
      H=[(15,.cells 24 (.lst [.sl 1 11 0 s.length,.sl 1 14 0 m.length,I L])),(14,.cells 3 (.ints M)),(11,.cells 3 (.ints s)),(6,.cells 4 (.bools (gd m.length fo))),(4,.cells 99 (.lst [I b0,I o0,I c0,I a0,I b1,I o1,I c1,I a1,I b2,I o2,I c2,I a2])),(3,.cells 26 (.lst [I 0,I 0,I 0,I 0,.bool false])),(2,.cells 24 (.lst [.nils,.nils,I 0])),(1,.cells 26 (.lst [I k,I h,I y,I g,.bool ov])),(0,.cells 24 (.lst [roI s,roI m,I L]))]) ?_ ?_
     ·refine⟨_,_,_,?_,0,M,by omega,rfl,J.mono fun x hx=>?_,rfl,rfl⟩
      ·refine Wk.sub ?_ ?_<;>simp only[go_sem]
      ·rcases hx with ⟨w,w1,w2⟩|⟨g,_⟩|⟨g,_⟩|⟨g,_⟩
       ·exact⟨w,by omega,w2⟩
       ·omega
       ·omega
       ·omega
     clear J lM;rintro n fr H ⟨q,M,hq,rfl,J,rfl,rfl⟩;have lM:M.length=m.length:=by rw[J.len,dw]
     by_cases hq3:q<3
     ·have bq:decide ((q:Int)<3)=true:=by rw[decide_eq_true_iff];omega
      have T0:=Hs.wR T 0 Qx;have T1:=Hs.wR T 1 Qw;have T2:=Hs.wR T 2 Qv
      obtain⟨b,o,c,a,lb,la,t1,t2,hZ,Ge⟩:∃b o c a:Nat,b<4*s.length/\a<4*s.length/\Hs.bF h i j (Sp.ae m (Hs.bF h i j b))=a/\Hs.bF h i j (Sp.ae m (Hs.bF h i j a))=b/\(∀x,((0<q+1/\(x=b0\/x=a0))\/(1<q+1/\(x=b1\/x=a1))\/2<q+1/\(x=b2\/x=a2))->((0<q/\(x=b0\/x=a0))\/(1<q/\(x=b1\/x=a1))\/2<q/\(x=b2\/x=a2))\/x=b\/x=a)/\(([I b0,I o0,I c0,I a0,I b1,I o1,I c1,I a1,I b2,I o2,I c2,I a2]:List AV).drop (q*4)).take 4=[I b,I o,I c,I a]:=by
       rcases (show q=0\/q=1\/q=2 by omega) with rfl|rfl|rfl
       ·exact⟨b0,o0,c0,a0,lb0,la0,T0.1,T0.2,fun x hx=>by omega,rfl⟩
       ·exact⟨b1,o1,c1,a1,mg,la1,T1.1,T1.2,fun x hx=>by omega,rfl⟩
       ·exact⟨b2,o2,c2,a2,lb2,VW,T2.1,T2.2,fun x hx=>by omega,rfl⟩
      have J2:=J.join (Z':=fun x=>(∃w,w<4*s.length/\Hs.jq (fun k=>Sp.af (Hs.t3 h i j k)) (fun k=>Sp.ai (Hs.t3 h i j k)) w/\(x=Hs.bF h i j w\/x=Hs.bF h i j (Sp.ae m w)))\/(0<q+1/\(x=b0\/x=a0))\/(1<q+1/\(x=b1\/x=a1))\/2<q+1/\(x=b2\/x=a2)) lb la t1 t2 (fun x hx=>by
       rcases hx with g|g
       ·exact .inl (.inl g)
       ·rcases hZ x g with g|g
        ·exact .inl (.inr g)
        ·exact .inr g)
      obtain⟨M',GS⟩:∃M',aY M (b:Nat) (a:Nat)=M':=⟨_,rfl⟩;rw[GS]at J2
      repeat' (first|omega|(first|apply ah|refine aw Z8 ?_|refine cY A6 ?_|refine aw A6 ?_|refine gH EC ?_|skip);simp only[go_sem,bq,Ge]|apply ag<;>(intro h_;(try simp only[h_]);revert h_)|apply zO|with_reducible intro h_|trivial)
      refine⟨aL.inline (oc GS rfl rfl rfl lM (by omega) (by omega) (by omega) ?_)⟩
      repeat' (first|omega|(try apply ah);simp only[go_sem,bq]|refine az ?_|refine aA ?_|apply ag<;>(intro h_;(try simp only[h_]);revert h_)|apply zO|with_reducible intro h_|trivial)
      refine⟨_,_,_,?_,?_,⟨q+1,M',by omega,rfl,J2,rfl,rfl⟩⟩
      ·omega
      ·refine Wk.sub ?_ ?_<;>simp only[go_sem]
     ·obtain rfl:q=3:=by omega
      have bq:decide (((3:Nat):Int)<3)=false:=by decide
      have jL:=Hs.yp hd T Qx Qw Qv (M:=M) (J.mono fun x hx=>by
       rcases hx with g|g|g|g
       ·exact .inl g
       ·exact .inr (.inl ⟨by omega,g⟩)
       ·exact .inr (.inr (.inl ⟨by omega,g⟩))
       ·exact .inr (.inr (.inr ⟨by omega,g⟩)))
      rw[jL]at lM⊢;clear J jL;have hnx:∀u,nx u=Sp.ai (Sp.ae (Hs.oL m s.length (Hs.bF h i j)) u)\/4*s.length<=u:=fun u=>by
       by_cases hu:u<4*s.length
       ·rw[Hs.lT m _ hu];exact .inl rfl
       ·exact .inr (by omega)
      have Pa:∀u,u<4*s.length->Fn Tryz.prog 58 [.ro 1 m.length (.ints (Hs.oL m s.length (Hs.bF h i j))),I u] (I (nx u:Nat))/\nx u<4*s.length:=fun u hu=>by
       have g1:=Hs.jz m (Hs.bF h i j) hu;have g2:Hs.bF h i j (Sp.ae m (Hs.bF h i j u))<4*s.length:=HU T (ha.lt _ (HU T hu))
       have:=Sy (Hs.oL m s.length (Hs.bF h i j)) u (by omega) (by omega) (by omega) (by omega)
       rw[g1,Rd,show roI (Hs.oL m s.length (Hs.bF h i j))= .ro 1 m.length (.ints (Hs.oL m s.length (Hs.bF h i j))) by unfold roI;rw[lM]]at this;exact⟨this,CK g2⟩
      have BX:∀u,Qj u=(fo u&&(fo (nx u)&&(fo (nx (nx u))&&decide (nx (nx (nx u))=u)))):=fun u=>by
       show (FO 3 u&&(FO 3 (nx u)&&(FO 3 (nx (nx u))&&decide (nx (nx (nx u))=u))))=_;rw[Gz]
      have uc:(Hs.oL m s.length (Hs.bF h i j)).take m.length=Hs.oL m s.length (Hs.bF h i j):=zU (by omega);have bT:s.take s.length=s:=List.take_length;clear hnx Gz yA tR Ws JW Qx Qw Qv Au T;generalize Qj=cn at*;generalize nx=nx at*;generalize Hs.oL m s.length (Hs.bF h i j)=RF at*
      repeat' (first|omega|(try apply ah);simp only[go_sem,bq]|refine az ?_|refine aA ?_|apply ag<;>(intro h_;(try simp only[h_]);revert h_)|apply zO|with_reducible intro h_|trivial)
      refine dr.intro (fun n fr H=>∃q:Nat,q<=m.length/\n=q/\fr=[(20,I ((q:Int)-1)),(19,.ptr 16 0),(14,.ptr 15 0),(11,.sl 1 6 0 m.length),(6,I 0),(5,.ptr 3 0),(4,.ptr 2 0),(3,.ptr 1 0),(2,.ptr 0 0)]/\
       H=[(16,.cells 26 (.lst [I 5,I (sX cn m.length (m.length-q)),I 0,I 0,.bool false])),(15,.cells 24 (.lst [.sl 1 11 0 s.length,.sl 1 14 0 m.length,I L])),(14,.cells 3 (.ints RF)),(11,.cells 3 (.ints s)),(6,.cells 4 (.bools (gd m.length fo))),(3,.cells 26 (.lst [I 0,I 0,I 0,I 0,.bool false])),(2,.cells 24 (.lst [.nils,.nils,I 0])),(1,.cells 26 (.lst [I k,I h,I y,I g,.bool ov])),(0,.cells 24 (.lst [roI s,roI m,I L]))]) ?_ ?_
      ·refine⟨_,_,_,?_,m.length,by omega,rfl,rfl,rfl⟩;rw[Nat.sub_self];refine Wk.sub ?_ ?_<;>simp only[go_sem]
       all_goals rfl
      rintro q fr H ⟨_,hq,rfl,rfl,rfl⟩;by_cases mD:0<q
      ·obtain⟨u,hu⟩:∃u:Nat,(q:Int)-1=u:=⟨q-1,by omega⟩;have bu:decide (0<=(u:Int))=true:=by simp
       have rZ:u<m.length:=by omega
       obtain⟨N1,l1⟩:=Pa u (by omega);obtain⟨N2,l2⟩:=Pa _ l1;obtain⟨N3,l3⟩:=Pa _ l2;have GK:=BX u;have g0:=IX fo rZ;have g1:=IX (N:=m.length) fo (x:=nx u) (by omega);have g2:=IX (N:=m.length) fo (x:=nx (nx u)) (by omega);have eX:sX cn m.length (m.length-(q-1))=if cn u then u else sX cn m.length (m.length-q):=by
        rw[show m.length-(q-1)=m.length-q+1 by omega];simp only[sX];rw[show m.length-1-(m.length-q)=u by omega]
       have Gf:((q-1:Nat):Int)=u:=by omega
       rw[hu];rw[GK]at eX;generalize nx (nx (nx u))=u3 at*;generalize nx (nx u)=u2 at*;generalize nx u=u1 at*;generalize sX cn m.length (m.length-q)=X0 at*;have F1:∀b0 b1 b2:Bool,True:=fun _ _ _=>trivial;cases f0:fo u with
       |false=>
        rw[f0]at g0 eX;rw[Bool.false_and,zL (by simp)]at eX
        repeat' (first|omega|(try apply ah);simp only[go_sem,bu,g0,lG]|refine az ?_|refine aA ?_|apply ag<;>(intro h_;(try simp only[h_]);revert h_)|apply zO|with_reducible intro h_|trivial)
        refine⟨aL.flat rfl (by simp only[go_sem,zA,lM]) (by simp only[go_sem,uc];try rfl) N1 rfl ?_⟩
        repeat' (first|omega|(try apply ah);simp only[go_sem,bu,g0,lG]|refine az ?_|refine aA ?_|apply ag<;>(intro h_;(try simp only[h_]);revert h_)|apply zO|with_reducible intro h_|trivial)
        refine⟨aL.flat rfl (by simp only[go_sem,zA,lM]) (by simp only[go_sem,uc];try rfl) N2 rfl ?_⟩
        repeat' (first|omega|(try apply ah);simp only[go_sem,bu,g0,lG]|refine az ?_|refine aA ?_|apply ag<;>(intro h_;(try simp only[h_]);revert h_)|apply zO|with_reducible intro h_|trivial)
        refine⟨q-1,_,_,?_,?_,⟨q-1,by omega,rfl,rfl,rfl⟩⟩
        ·omega
        ·rw[Gf,eX];refine Wk.sub ?_ ?_<;>simp only[go_sem]
       |true=>
        rw[f0]at g0 eX;rw[Bool.true_and]at eX;cases f1:fo u1 with
        |false=>
         rw[f1]at g1 eX;rw[Bool.false_and,zL (by simp)]at eX
         repeat' (first|omega|(try apply ah);simp only[go_sem,bu,g0,g1,lG]|refine az ?_|refine aA ?_|apply ag<;>(intro h_;(try simp only[h_]);revert h_)|apply zO|with_reducible intro h_|trivial)
         refine⟨aL.flat rfl (by simp only[go_sem,zA,lM]) (by simp only[go_sem,uc];try rfl) N1 rfl ?_⟩
         repeat' (first|omega|(try apply ah);simp only[go_sem,bu,g0,g1,lG]|refine az ?_|refine aA ?_|apply ag<;>(intro h_;(try simp only[h_]);revert h_)|apply zO|with_reducible intro h_|trivial)
         refine⟨aL.flat rfl (by simp only[go_sem,zA,lM]) (by simp only[go_sem,uc];try rfl) N2 rfl ?_⟩
         repeat' (first|omega|(try apply ah);simp only[go_sem,bu,g0,g1,lG]|refine az ?_|refine aA ?_|apply ag<;>(intro h_;(try simp only[h_]);revert h_)|apply zO|with_reducible intro h_|trivial)
         refine⟨q-1,_,_,?_,?_,⟨q-1,by omega,rfl,rfl,rfl⟩⟩
         ·omega
         ·rw[Gf,eX];refine Wk.sub ?_ ?_<;>simp only[go_sem]
        |true=>
         rw[f1]at g1 eX;rw[Bool.true_and]at eX;cases f2:fo u2 with
         |false=>
          rw[f2]at g2 eX;rw[Bool.false_and,zL (by simp)]at eX
          repeat' (first|omega|(try apply ah);simp only[go_sem,bu,g0,g1,g2,lG]|refine az ?_|refine aA ?_|apply ag<;>(intro h_;(try simp only[h_]);revert h_)|apply zO|with_reducible intro h_|trivial)
          refine⟨aL.flat rfl (by simp only[go_sem,zA,lM]) (by simp only[go_sem,uc];try rfl) N1 rfl ?_⟩
          repeat' (first|omega|(try apply ah);simp only[go_sem,bu,g0,g1,g2,lG]|refine az ?_|refine aA ?_|apply ag<;>(intro h_;(try simp only[h_]);revert h_)|apply zO|with_reducible intro h_|trivial)
          refine⟨aL.flat rfl (by simp only[go_sem,zA,lM]) (by simp only[go_sem,uc];try rfl) N2 rfl ?_⟩
          repeat' (first|omega|(try apply ah);simp only[go_sem,bu,g0,g1,g2,lG]|refine az ?_|refine aA ?_|apply ag<;>(intro h_;(try simp only[h_]);revert h_)|apply zO|with_reducible intro h_|trivial)
          refine⟨q-1,_,_,?_,?_,⟨q-1,by omega,rfl,rfl,rfl⟩⟩
          ·omega
          ·rw[Gf,eX];refine Wk.sub ?_ ?_<;>simp only[go_sem]
         |true=>
          rw[f2]at g2 eX;rw[Bool.true_and]at eX;by_cases e3:u3=u
          ·have b3:((u3:Int)==(u:Int))=true:=by simp;omega
           rw[decide_eq_true e3,zM rfl]at eX
           repeat' (first|omega|(try apply ah);simp only[go_sem,bu,g0,g1,g2,lG]|refine az ?_|refine aA ?_|apply ag<;>(intro h_;(try simp only[h_]);revert h_)|apply zO|with_reducible intro h_|trivial)
           refine⟨aL.flat rfl (by simp only[go_sem,zA,lM]) (by simp only[go_sem,uc];try rfl) N1 rfl ?_⟩
           repeat' (first|omega|(try apply ah);simp only[go_sem,bu,g0,g1,g2,lG]|refine az ?_|refine aA ?_|apply ag<;>(intro h_;(try simp only[h_]);revert h_)|apply zO|with_reducible intro h_|trivial)
           refine⟨aL.flat rfl (by simp only[go_sem,zA,lM]) (by simp only[go_sem,uc];try rfl) N2 rfl ?_⟩
           repeat' (first|omega|(try apply ah);simp only[go_sem,bu,g0,g1,g2,lG]|refine az ?_|refine aA ?_|apply ag<;>(intro h_;(try simp only[h_]);revert h_)|apply zO|with_reducible intro h_|trivial)
           refine⟨aL.flat rfl (by simp only[go_sem,zA,lM]) (by simp only[go_sem,uc];try rfl) N3 rfl ?_⟩
           repeat' (first|omega|(try apply ah);simp only[go_sem,bu,g0,g1,g2,lG,b3]|refine az ?_|refine aA ?_|apply ag<;>(intro h_;(try simp only[h_]);revert h_)|apply zO|with_reducible intro h_|trivial)
           refine⟨q-1,_,_,?_,?_,⟨q-1,by omega,rfl,rfl,rfl⟩⟩
           ·omega
           ·rw[Gf,eX];refine Wk.sub ?_ ?_<;>simp only[go_sem]
          ·have b3:((u3:Int)==(u:Int))=false:=by simp;omega
           rw[decide_eq_false e3,zL (by simp)]at eX
           repeat' (first|omega|(try apply ah);simp only[go_sem,bu,g0,g1,g2,lG]|refine az ?_|refine aA ?_|apply ag<;>(intro h_;(try simp only[h_]);revert h_)|apply zO|with_reducible intro h_|trivial)
           refine⟨aL.flat rfl (by simp only[go_sem,zA,lM]) (by simp only[go_sem,uc];try rfl) N1 rfl ?_⟩
           repeat' (first|omega|(try apply ah);simp only[go_sem,bu,g0,g1,g2,lG]|refine az ?_|refine aA ?_|apply ag<;>(intro h_;(try simp only[h_]);revert h_)|apply zO|with_reducible intro h_|trivial)
           refine⟨aL.flat rfl (by simp only[go_sem,zA,lM]) (by simp only[go_sem,uc];try rfl) N2 rfl ?_⟩
           repeat' (first|omega|(try apply ah);simp only[go_sem,bu,g0,g1,g2,lG]|refine az ?_|refine aA ?_|apply ag<;>(intro h_;(try simp only[h_]);revert h_)|apply zO|with_reducible intro h_|trivial)
           refine⟨aL.flat rfl (by simp only[go_sem,zA,lM]) (by simp only[go_sem,uc];try rfl) N3 rfl ?_⟩
           repeat' (first|omega|(try apply ah);simp only[go_sem,bu,g0,g1,g2,lG,b3]|refine az ?_|refine aA ?_|apply ag<;>(intro h_;(try simp only[h_]);revert h_)|apply zO|with_reducible intro h_|trivial)
           refine⟨q-1,_,_,?_,?_,⟨q-1,by omega,rfl,rfl,rfl⟩⟩
           ·omega
           ·rw[Gf,eX];refine Wk.sub ?_ ?_<;>simp only[go_sem]
      ·obtain rfl:q=0:=by omega
       have bu:decide (0<=((0:Nat):Int)-1)=false:=by decide
       repeat' (first|omega|(first|apply ah|refine aw y7u ?_|refine vi Z9 [4,5] [2,3] rfl (by simp only[go_sem,bu,Nat.sub_zero]) (by simp only[go_sem,bu,Nat.sub_zero]) ?_|refine cY A6 ?_|refine aw Z8 ?_|refine gH EC ?_|skip);simp only[go_sem,bu,Nat.sub_zero]|refine az ?_|refine aA ?_|apply ag<;>(intro h_;(try simp only[h_]);revert h_)|apply zO|with_reducible intro h_|trivial)
       all_goals (rw[bT,uc,<-lM];exact aT.refl _)
end Go.Proofs.YthohfoombimbeaaGreatDoor
